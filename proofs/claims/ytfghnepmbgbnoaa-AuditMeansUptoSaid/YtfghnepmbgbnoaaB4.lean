import Derived.Test.YtfghnepmbgbnoaaB3
namespace Go.Sep
open Go
section
variable {P : Program} {N : Fi} {B : Base} {Q : Exit → Act → World → Prop} {T : Tm} {A : List Blk} {ops : Array Oper} {l : List Oper}
variable {d : Nat} {ty : TypeId} {pos : String} {af : Array Edge} {m : Md} {gd : Option (Nat × Bool)}
theorem Still.ldRN {i dd t : Nat} {x : Operand} {b off : Nat} {sz bs : Nat} {zc r : List Value} (ho : ops[i]? = some ⟨some dd, .load t x, ty, pos, af, gd⟩) (hg : gst ops T gd = some true) (hx : ev T x = some (.pointer (some ⟨b, off, none⟩)))
    [ht : Ty P t true sz bs zc] (hn : r.length = sz) (hv : ∀ j u, r[j]? = some u → Rd B A b (off + j) u) (hl : look T dd = some (.agg r.toArray)) : Still P N B ops T A i :=
  ⟨_, dd, _, ho, rfl, hl, fun a w hF hS => .inl ⟨gst_wanted (o := ⟨some dd, .load t x, ty, pos, af, gd⟩) hF hg, by
    simp [execOp, hF.eval hx, run_loadAtN ht hn (fun j u hu => hv j u hu w hS)]⟩⟩
end
end Go.Sep
namespace Go.Proofs.Ytfghnepmbgbnoaa
open Go Go.Sep Go.Proofs
set_option maxRecDepth 10000
set_option maxHeartbeats 16000000
set_option synthInstance.maxSize 2000
set_option linter.unusedSimpArgs false
set_option linter.unusedVariables false


theorem rshowable_spec (B0 : Base) (bd : Nat) (ja : Option Addr) (jc : Nat) (jobs : List RJ) (gr shn : Int) (sh : Bool) (v2 v3 v4 v5 v6 : Value) (tot : Nat) (e : Ev) (hJ : JIn B0 ja jobs) (few : jobs.length ≤ 8) (hL : ∀ x ∈ jobs, SIn B0 x.la x.log ∧ x.log.length ≤ tot) (hS : SIn B0 e.ta e.texts) (hs0 : 0 ≤ shn) (hs8 : shn ≤ 8) (hbig : tot + e.texts.length ≤ 2000000) :
    ConB Try.prog B0 58 #[ptr bd, .agg e.row.toArray] [BKv bd (.slice ja jobs.length jc) (.int .i64 gr) v2 v3 v4 v5 v6 (.bool sh) (.int .i64 shn)] fun v A => (∃ c, v = .bool c) ∧ A = [BKv bd (.slice ja jobs.length jc) (.int .i64 gr) v2 v3 v4 v5 v6 (.bool sh) (.int .i64 shn)] := by
  refine ConB.intro (vs := [_, _]) Try.func58 rfl Try.ntmps58 rfl (fun B hB => ?_)
  have hJ := hJ.ext hB
  generalize hB1 : B.plain = B1 at hJ hB ⊢
  generalize hc3 : Code.seq (Code.region 3 _ _) _ = c3
  cases sh
  · repeat' (first | refine Cd.seq ?_ | refine Cd.reg ?_ | refine Ops.asg rfl rfl rfl rfl ?_ | refine Ops.box rfl rfl rfl rfl (noPd rfl) (fun b => ?_))
    refine Cd.draw [(0, 0, []), (1, 0, []), (2, 0, []), (3, 1, []), (4, 0, []), (5, 0, []), (6, 0, []), (7, 1, []), (8, 0, []), (9, 0, []), (10, 0, []), (11, 1, []), (12, 0, []), (13, 0, []), (14, 0, [])] (by kernel_rfl) (by kernel_rfl) (by simp only [picked, nth]; exact rfl) ?_
    repeat' (first | refine Cd.seq ?_ | refine Cd.reg ?_ | refine Ops.nil ?_ | refine Ops.mv rfl rfl rfl rfl ?_ | refine Ops.asg rfl rfl rfl rfl ?_ | refine Ops.nilP rfl rfl rfl rfl ?_ | refine Ops.fa0 rfl rfl rfl rfl ?_ | refine Ops.ld1 rfl rfl rfl rfl rfl ?_ | refine Ops.un rfl rfl rfl rfl ?_ | refine Ops.pickT rfl rfl rfl rfl rfl ?_ | refine Ops.gSkip rfl rfl rfl ?_ | refine Cd.condT rfl rfl ?_)
    exact Cd.ret (ret1 (A' := [BKv bd (.slice ja jobs.length jc) (.int .i64 gr) v2 v3 v4 v5 v6 (.bool false) (.int .i64 shn)]) rfl (Res.tmp rfl) (fun _ h => h.split) ⟨⟨_, rfl⟩, rfl⟩)
  by_cases hj : e.job = shn + 1
  case neg =>
    repeat' (first | refine Cd.seq ?_ | refine Cd.reg ?_ | refine Ops.asg rfl rfl rfl rfl ?_ | refine Ops.box rfl rfl rfl rfl (noPd rfl) (fun b => ?_))
    refine Cd.draw [(0, 0, []), (1, 0, []), (2, 0, []), (3, 1, []), (4, 0, []), (5, 0, []), (6, 0, []), (7, 1, []), (8, 0, []), (9, 0, []), (10, 0, []), (11, 1, []), (12, 0, []), (13, 0, []), (14, 0, [])] (by kernel_rfl) (by kernel_rfl) (by simp only [picked, nth]; exact rfl) ?_
    repeat' (first | refine Cd.seq ?_ | refine Cd.reg ?_ | refine Ops.nil ?_ | refine Ops.mv rfl rfl rfl rfl ?_ | refine Ops.asg rfl rfl rfl rfl ?_ | refine Ops.nilP rfl rfl rfl rfl ?_ | refine Ops.fa0 rfl rfl rfl rfl ?_ | refine Ops.ld1 rfl rfl rfl rfl rfl ?_ | refine Ops.addI rfl rfl rfl rfl (by omega) (by omega) rfl ?_ | refine Ops.bin rfl rfl rfl rfl rfl ?_ | refine Ops.un rfl rfl rfl rfl ?_ | refine Ops.pickF rfl rfl rfl rfl rfl ?_ | refine Cd.condT rfl (by first | rfl | assumption | (simp only [decide_eq_true_eq, decide_eq_false_iff_not, Bool.not_eq_true', Bool.not_eq_false', Bool.not_eq_eq_eq_not, Bool.not_true, Bool.not_false, beq_iff_eq, beq_eq_false_iff_ne, ne_eq, decide_eq_decide, eq_self, true_iff, iff_true, not_true_eq_false, not_false_eq_true]; first | done | omega)) ?_)
    exact Cd.ret (ret1 (A' := [BKv bd (.slice ja jobs.length jc) (.int .i64 gr) v2 v3 v4 v5 v6 (.bool true) (.int .i64 shn)]) rfl (Res.tmp rfl) (fun _ h => h.split) ⟨⟨_, rfl⟩, rfl⟩)
  repeat' (first | refine Cd.seq ?_ | refine Cd.reg ?_ | refine Ops.asg rfl rfl rfl rfl ?_ | refine Ops.box rfl rfl rfl rfl (noPd rfl) (fun b => ?_))
  refine Cd.draw [(0, 0, []), (1, 0, []), (2, 0, []), (3, 1, []), (4, 0, []), (5, 0, []), (6, 0, []), (7, 1, []), (8, 0, []), (9, 0, []), (10, 0, []), (11, 1, []), (12, 0, []), (13, 0, []), (14, 0, [])] (by kernel_rfl) (by kernel_rfl) (by simp only [picked, nth]; exact rfl) ?_
  repeat' (first | refine Ops.nil ?_ | refine Ops.mv rfl rfl rfl rfl ?_ | refine Ops.nilP rfl rfl rfl rfl ?_ | refine Ops.fa0 rfl rfl rfl rfl ?_ | refine Ops.ld1 rfl rfl rfl rfl rfl ?_ | refine Ops.addI rfl rfl rfl rfl (by omega) (by omega) rfl ?_ | refine Ops.bin rfl rfl rfl rfl rfl ?_ | refine Ops.un rfl rfl rfl rfl ?_ | refine Ops.pickF rfl rfl rfl rfl rfl ?_ | refine Cd.skip (Cd.next ?_) | refine Cd.condF rfl (by first | rfl | assumption | (simp only [decide_eq_true_eq, decide_eq_false_iff_not, Bool.not_eq_true', Bool.not_eq_false', Bool.not_eq_eq_eq_not, Bool.not_true, Bool.not_false, beq_iff_eq, beq_eq_false_iff_ne, ne_eq, decide_eq_decide, eq_self, true_iff, iff_true, not_true_eq_false, not_false_eq_true]; first | done | omega)) ?_)
  rename Nat => be
  subst hc3
  refine Cd.cut (σ := Bool) (fun _ => True) (fun c => [(0, ptr bd), (3, ptr be), (5, .bool c)]) (fun _ => [(be, cl e.row 39), BKv bd (.slice ja jobs.length jc) (.int .i64 gr) v2 v3 v4 v5 v6 (.bool true) (.int .i64 shn)]) ?_ (fun zc _ => ?_)
  · repeat' (first | refine Cd.reg ?_ | refine Ops.asg rfl rfl rfl rfl ?_ | refine Ops.fa0 rfl rfl rfl rfl ?_ | refine Ops.ldN rfl rfl rfl rfl ?_ | refine Ops.bin rfl rfl rfl rfl rfl ?_ | refine Ops.bld rfl rfl rfl rfl ?_)
    all_goals exact Ops.nilN (meet_end (Q := fun _ _ _ => True) _ trivial ⟨rfl, rfl, rfl, trivial⟩ (fun w h => h.split))
  generalize hc9 : Code.seq (Code.region 9 _ _) _ = c9
  by_cases hn : e.job = (jobs.length : Int) + 1
  · cases zc
    · repeat' (first | refine Cd.seq ?_)
      refine Cd.draw [(0, 0, []), (1, 1, []), (2, 0, []), (3, 0, []), (4, 0, []), (5, 1, []), (6, 1, []), (7, 0, []), (8, 0, [])] (by kernel_rfl) (by kernel_rfl) (by simp only [picked, nth]; exact rfl) ?_
      repeat' (first | refine Cd.seq ?_ | refine Cd.reg ?_ | refine Ops.nil ?_ | refine Ops.mv rfl rfl rfl rfl ?_ | refine Ops.asg rfl rfl rfl rfl ?_ | refine Ops.nilP rfl rfl rfl rfl ?_ | refine Ops.fa0 rfl rfl rfl rfl ?_ | refine Ops.ld1 rfl rfl rfl rfl rfl ?_ | refine Ops.lenS rfl rfl rfl rfl ?_ | refine Ops.addI rfl rfl rfl rfl (by omega) (by omega) rfl ?_ | refine Ops.bin rfl rfl rfl rfl rfl ?_ | refine Ops.pickT rfl rfl rfl rfl rfl ?_ | refine Ops.pickF rfl rfl rfl rfl rfl ?_ | refine Ops.gSkip rfl rfl rfl ?_ | refine Cd.condT rfl (by first | rfl | assumption | (simp only [decide_eq_true_eq, decide_eq_false_iff_not, Bool.not_eq_true', Bool.not_eq_false', Bool.not_eq_eq_eq_not, Bool.not_true, Bool.not_false, beq_iff_eq, beq_eq_false_iff_ne, ne_eq, decide_eq_decide, eq_self, true_iff, iff_true, not_true_eq_false, not_false_eq_true]; first | done | omega)) ?_ | ((fail_if_success refine Ops.probe rfl ?_); refine Ops.gSplit rfl rfl (fun hc => ?_) (fun hc => ?_) <;> (try simp only [decide_eq_true_eq, decide_eq_false_iff_not, Bool.not_eq_true', Bool.not_eq_false', Bool.not_eq_eq_eq_not, Bool.not_true, Bool.not_false, Int.not_lt, Int.not_le] at hc)))
      all_goals exact Cd.ret (ret1 (A' := [BKv bd (.slice ja jobs.length jc) (.int .i64 gr) v2 v3 v4 v5 v6 (.bool true) (.int .i64 shn)]) rfl (Res.tmp rfl) (fun _ h => h.split) ⟨⟨_, rfl⟩, rfl⟩)
    · repeat' (first | refine Cd.seq ?_)
      refine Cd.draw [(0, 0, []), (1, 1, []), (2, 0, []), (3, 0, []), (4, 0, []), (5, 1, []), (6, 1, []), (7, 0, []), (8, 0, [])] (by kernel_rfl) (by kernel_rfl) (by simp only [picked, nth]; exact rfl) ?_
      repeat' (first | refine Cd.seq ?_ | refine Cd.reg ?_ | refine Ops.nil ?_ | refine Ops.mv rfl rfl rfl rfl ?_ | refine Ops.asg rfl rfl rfl rfl ?_ | refine Ops.nilP rfl rfl rfl rfl ?_ | refine Ops.fa0 rfl rfl rfl rfl ?_ | refine Ops.ld1 rfl rfl rfl rfl rfl ?_ | refine Ops.lenS rfl rfl rfl rfl ?_ | refine Ops.addI rfl rfl rfl rfl (by omega) (by omega) rfl ?_ | refine Ops.bin rfl rfl rfl rfl rfl ?_ | refine Ops.pickT rfl rfl rfl rfl rfl ?_ | refine Ops.pickF rfl rfl rfl rfl rfl ?_ | refine Ops.gSkip rfl rfl rfl ?_ | refine Cd.condT rfl (by first | rfl | assumption | (simp only [decide_eq_true_eq, decide_eq_false_iff_not, Bool.not_eq_true', Bool.not_eq_false', Bool.not_eq_eq_eq_not, Bool.not_true, Bool.not_false, beq_iff_eq, beq_eq_false_iff_ne, ne_eq, decide_eq_decide, eq_self, true_iff, iff_true, not_true_eq_false, not_false_eq_true]; first | done | omega)) ?_ | ((fail_if_success refine Ops.probe rfl ?_); refine Ops.gSplit rfl rfl (fun hc => ?_) (fun hc => ?_) <;> (try simp only [decide_eq_true_eq, decide_eq_false_iff_not, Bool.not_eq_true', Bool.not_eq_false', Bool.not_eq_eq_eq_not, Bool.not_true, Bool.not_false, Int.not_lt, Int.not_le] at hc)))
      all_goals exact Cd.ret (ret1 (A' := [BKv bd (.slice ja jobs.length jc) (.int .i64 gr) v2 v3 v4 v5 v6 (.bool true) (.int .i64 shn)]) rfl (Res.tmp rfl) (fun _ h => h.split) ⟨⟨_, rfl⟩, rfl⟩)
  repeat' (first | refine Cd.seq ?_)
  refine Cd.draw [(0, 0, []), (1, 1, []), (2, 0, []), (3, 0, []), (4, 0, []), (5, 1, []), (6, 1, []), (7, 0, []), (8, 0, [])] (by kernel_rfl) (by kernel_rfl) (by simp only [picked, nth]; exact rfl) ?_
  repeat' (first | refine Cd.seq ?_ | refine Cd.reg ?_ | refine Ops.nil ?_ | refine Ops.mv rfl rfl rfl rfl ?_ | refine Ops.nilP rfl rfl rfl rfl ?_ | refine Ops.fa0 rfl rfl rfl rfl ?_ | refine Ops.ld1 rfl rfl rfl rfl rfl ?_ | refine Ops.lenS rfl rfl rfl rfl ?_ | refine Ops.addI rfl rfl rfl rfl (by omega) (by omega) rfl ?_ | refine Ops.bin rfl rfl rfl rfl rfl ?_ | refine Cd.skip (Cd.next ?_) | refine Cd.condF rfl (by first | rfl | assumption | (simp only [decide_eq_true_eq, decide_eq_false_iff_not, Bool.not_eq_true', Bool.not_eq_false', Bool.not_eq_eq_eq_not, Bool.not_true, Bool.not_false, beq_iff_eq, beq_eq_false_iff_ne, ne_eq, decide_eq_decide, eq_self, true_iff, iff_true, not_true_eq_false, not_false_eq_true]; first | done | omega)) ?_)
  refine Ops.call (rknown_spec bd ja jobs.length jc (.int .i64 gr) v2 v3 v4 v5 v6 (.bool true) (.int .i64 shn) e.job) rfl (noPd rfl) rfl rfl rfl (fun v A' hR => ?_)
  obtain ⟨rfl, rfl⟩ := hR
  by_cases hk : 1 ≤ e.job ∧ e.job ≤ jobs.length
  case neg =>
    rw [decide_eq_false hk]
    repeat' (first | refine Cd.seq ?_ | refine Cd.reg ?_ | refine Ops.nil ?_ | refine Ops.asg rfl rfl rfl rfl ?_ | refine Ops.un rfl rfl rfl rfl ?_ | refine Cd.condT rfl rfl ?_)
    exact Cd.ret (ret1 (A' := [BKv bd (.slice ja jobs.length jc) (.int .i64 gr) v2 v3 v4 v5 v6 (.bool true) (.int .i64 shn)]) rfl (Res.tmp rfl) (fun _ h => h.split) ⟨⟨_, rfl⟩, rfl⟩)
  rw [decide_eq_true hk]
  obtain ⟨x, hx⟩ : ∃ x, jobs[(e.job - 1).toNat]? = some x := ⟨_, List.getElem?_eq_getElem (by omega)⟩
  obtain ⟨b0, off0, rfl, hrd⟩ := hJ _ x hx
  have hrw : ∀ A j u, x.row[j]? = some u → Rd B1 A b0 (off0 + (e.job - 1).toNat * 5 + j) u := hrd
  clear hrd
  obtain ⟨hxS, hxl⟩ := hL x (List.mem_of_getElem? hx)
  repeat' (first | refine Cd.seq ?_ | refine Ops.nil ?_ | refine Ops.un rfl rfl rfl rfl ?_ | refine Cd.condF rfl rfl ?_ | refine Cd.skip (Cd.next ?_))
  refine Cd.draw [(0, 0, []), (1, 0, []), (2, 0, []), (3, 1, []), (4, 0, []), (5, 1, []), (6, 0, []), (7, 0, []), (8, 1, []), (9, 2, [3, 5, 8]), (10, 2, [])] (by kernel_rfl) (by kernel_rfl) (by simp only [picked, nth]; exact rfl) ?_
  repeat' (first | refine Ops.mv rfl rfl rfl rfl ?_ | refine Ops.nilP rfl rfl rfl rfl ?_ | refine Ops.fa0 rfl rfl rfl rfl ?_ | refine Ops.ld1 rfl rfl rfl rfl rfl ?_ | refine Ops.subI rfl rfl rfl rfl (by omega) (by omega) rfl ?_ | refine Ops.ixa rfl rfl rfl rfl (by omega) (by omega) rfl ?_)
  refine Ops.ldRN (r := x.row) rfl rfl rfl rfl (hrw _) rfl ?_
  refine Ops.alloc rfl rfl rfl (by intro v A' hR i hi; obtain ⟨b, rfl, rfl⟩ := hR; (repeat (rcases List.mem_cons.1 hi with rfl | hi; · (first | exact Still.ldRN (r := x.row) rfl rfl rfl rfl (hrw _) rfl | exact Still.ld1 rfl rfl rfl rfl rfl | exact Still.ldN rfl rfl rfl rfl))); cases hi) (fun b => ?_)
  repeat' (first | refine Ops.nil ?_ | refine Ops.stN rfl rfl rfl rfl rfl rfl (noPd rfl) ?_)
  subst hc9
  rename Nat => bj
  refine Cd.cut (σ := Bool) (fun _ => True) (fun c => [(0, ptr bd), (3, ptr be), (5, .bool zc), (6, ptr bj), (7, .bool c)]) (fun _ => [(bj, cl x.row 78), (be, cl e.row 39), BKv bd (.slice (some ⟨b0, off0, none⟩) jobs.length jc) (.int .i64 gr) v2 v3 v4 v5 v6 (.bool true) (.int .i64 shn)]) ?_ (fun c7 _ => ?_)
  · repeat' (first | refine Cd.reg ?_ | refine Ops.fa0 rfl rfl rfl rfl ?_ | refine Ops.ld1 rfl rfl rfl rfl rfl ?_)
    refine Ops.callB (rbegins_spec B0 x.la x.lc x.log e.ta e.tc e.texts hxS hS (by omega) (by omega)) hB rfl (noPd rfl) rfl rfl rfl (fun v A' hR => ?_)
    obtain ⟨⟨c1, rfl⟩, rfl⟩ := hR
    cases c1
    · repeat' (first | refine Ops.mv rfl rfl rfl rfl ?_ | refine Ops.asg rfl rfl rfl rfl ?_ | refine Ops.pickF rfl rfl rfl rfl rfl ?_ | refine Ops.gSkip rfl rfl rfl ?_)
      all_goals exact Ops.nilN (meet_end (Q := fun _ _ _ => True) _ trivial ⟨rfl, rfl, rfl, rfl, rfl, trivial⟩ (fun w h => h.split))
    · repeat' (first | refine Ops.mv rfl rfl rfl rfl ?_ | refine Ops.fa0 rfl rfl rfl rfl ?_ | refine Ops.ld1 rfl rfl rfl rfl rfl ?_)
      refine Ops.callB (rbegins_spec B0 e.ta e.tc e.texts x.la x.lc x.log hS hxS (by omega) (by omega)) hB rfl (noPd rfl) rfl rfl rfl (fun v A' hR => ?_)
      obtain ⟨⟨c2, rfl⟩, rfl⟩ := hR
      repeat' (first | refine Ops.asg rfl rfl rfl rfl ?_ | refine Ops.pickT rfl rfl rfl rfl rfl ?_)
      all_goals exact Ops.nilN (meet_end (Q := fun _ _ _ => True) _ trivial ⟨rfl, rfl, rfl, rfl, rfl, trivial⟩ (fun w h => h.split))
  generalize hc11 : Code.seq (Code.seq (Code.region 11 _ _) _) _ = c11
  repeat' (first | refine Cd.seq ?_ | refine Cd.reg ?_ | refine Ops.fa0 rfl rfl rfl rfl ?_ | refine Ops.ld1 rfl rfl rfl rfl rfl ?_)
  refine Ops.callB (rbegins_spec B0 x.la x.lc x.log e.ta e.tc e.texts hxS hS (by omega) (by omega)) hB rfl (noPd rfl) rfl rfl rfl (fun v A' hR => ?_)
  obtain ⟨⟨c8, rfl⟩, rfl⟩ := hR
  repeat' (first | refine Ops.nil ?_ | refine Ops.asg rfl rfl rfl rfl ?_)
  subst hc11
  refine Cd.seq ?_
  refine Cd.cut (σ := Bool) (fun _ => True) (fun c => [(0, ptr bd), (3, ptr be), (5, .bool zc), (6, ptr bj), (7, .bool c7), (114, .bool c)]) (fun _ => [(bj, cl x.row 78), (be, cl e.row 39), BKv bd (.slice (some ⟨b0, off0, none⟩) jobs.length jc) (.int .i64 gr) v2 v3 v4 v5 v6 (.bool true) (.int .i64 shn)]) ?_ (fun c114 _ => ?_)
  · cases c7 <;> cases c8
    all_goals
      repeat' (first | refine Cd.reg ?_ | refine Ops.mv rfl rfl rfl rfl ?_ | refine Ops.fa0 rfl rfl rfl rfl ?_ | refine Ops.ld1 rfl rfl rfl rfl rfl ?_ | refine Ops.ldN rfl rfl rfl rfl ?_ | refine Ops.bin rfl rfl rfl rfl rfl ?_ | refine Ops.pickT rfl rfl rfl rfl rfl ?_ | refine Ops.pickF rfl rfl rfl rfl rfl ?_ | refine Ops.gSkip rfl rfl rfl ?_ | refine Ops.gSkipU rfl rfl rfl rfl ?_ | ((fail_if_success refine Ops.probe rfl ?_); refine Ops.gSplit rfl rfl (fun hc => ?_) (fun hc => ?_) <;> (try simp only [decide_eq_true_eq, decide_eq_false_iff_not, Bool.not_eq_true', Bool.not_eq_false', Bool.not_eq_eq_eq_not, Bool.not_true, Bool.not_false, Int.not_lt, Int.not_le] at hc)))
    all_goals exact Ops.nilN (meet_end (Q := fun _ _ _ => True) _ trivial ⟨rfl, rfl, rfl, rfl, rfl, rfl, trivial⟩ (fun w h => h.split))
  cases c114
  case true =>
    repeat' (first | refine Cd.seq ?_ | refine Cd.reg ?_ | refine Ops.nil ?_ | refine Ops.asg rfl rfl rfl rfl ?_ | refine Cd.condT rfl rfl ?_)
    exact Cd.ret (ret1 (A' := [BKv bd (.slice (some ⟨b0, off0, none⟩) jobs.length jc) (.int .i64 gr) v2 v3 v4 v5 v6 (.bool true) (.int .i64 shn)]) rfl (Res.tmp rfl) (fun _ h => h.split) ⟨⟨_, rfl⟩, rfl⟩)
  generalize hc13 : Code.seq (Code.seq (Code.region 13 _ _) _) _ = c13
  repeat' (first | refine Cd.condF rfl rfl ?_ | refine Cd.skip (Cd.next ?_))
  subst hc13
  refine Cd.seq ?_
  refine Cd.cut (σ := Bool) (fun _ => True) (fun c => [(0, ptr bd), (3, ptr be), (5, .bool zc), (6, ptr bj), (148, .bool c)]) (fun _ => [(bj, cl x.row 78), (be, cl e.row 39), BKv bd (.slice (some ⟨b0, off0, none⟩) jobs.length jc) (.int .i64 gr) v2 v3 v4 v5 v6 (.bool true) (.int .i64 shn)]) ?_ (fun c148 _ => ?_)
  · cases c7 <;> cases zc
    all_goals
      repeat' (first | refine Cd.reg ?_ | refine Ops.mv rfl rfl rfl rfl ?_ | refine Ops.fa0 rfl rfl rfl rfl ?_ | refine Ops.ld1 rfl rfl rfl rfl rfl ?_ | refine Ops.bin rfl rfl rfl rfl rfl ?_ | refine Ops.pickT rfl rfl rfl rfl rfl ?_ | refine Ops.pickF rfl rfl rfl rfl rfl ?_ | refine Ops.gSkip rfl rfl rfl ?_ | refine Ops.gSkipU rfl rfl rfl rfl ?_ | ((fail_if_success refine Ops.probe rfl ?_); refine Ops.gF rfl rfl (by first | rfl | assumption | (simp only [decide_eq_true_eq, decide_eq_false_iff_not, Bool.not_eq_true', Bool.not_eq_false', Bool.not_eq_eq_eq_not, Bool.not_true, Bool.not_false, beq_iff_eq, beq_eq_false_iff_ne, ne_eq, decide_eq_decide, eq_self, true_iff, iff_true, not_true_eq_false, not_false_eq_true]; first | done | omega)) ?_) | ((fail_if_success refine Ops.probe rfl ?_); refine Ops.gSplit rfl rfl (fun hc => ?_) (fun hc => ?_) <;> (try simp only [decide_eq_true_eq, decide_eq_false_iff_not, Bool.not_eq_true', Bool.not_eq_false', Bool.not_eq_eq_eq_not, Bool.not_true, Bool.not_false, Int.not_lt, Int.not_le] at hc)))
    all_goals exact Ops.nilN (meet_end (Q := fun _ _ _ => True) _ trivial ⟨rfl, rfl, rfl, rfl, rfl, trivial⟩ (fun w h => h.split))
  cases c148
  case true =>
    repeat' (first | refine Cd.seq ?_ | refine Cd.reg ?_ | refine Ops.nil ?_ | refine Ops.asg rfl rfl rfl rfl ?_ | refine Cd.condT rfl rfl ?_)
    exact Cd.ret (ret1 (A' := [BKv bd (.slice (some ⟨b0, off0, none⟩) jobs.length jc) (.int .i64 gr) v2 v3 v4 v5 v6 (.bool true) (.int .i64 shn)]) rfl (Res.tmp rfl) (fun _ h => h.split) ⟨⟨_, rfl⟩, rfl⟩)
  cases zc
  · repeat' (first | refine Cd.seq ?_ | refine Cd.condF rfl rfl ?_ | refine Cd.skip (Cd.next ?_))
    refine Cd.draw [(0, 0, []), (1, 1, []), (2, 0, []), (3, 0, []), (4, 0, []), (5, 1, []), (6, 0, []), (7, 0, []), (8, 0, []), (9, 1, []), (10, 0, []), (11, 0, []), (12, 0, []), (13, 0, []), (14, 1, []), (15, 0, []), (16, 0, []), (17, 0, []), (18, 0, []), (19, 0, []), (20, 0, []), (21, 0, []), (22, 1, []), (23, 1, []), (24, 0, []), (25, 0, []), (26, 0, [])] (by kernel_rfl) (by kernel_rfl) (by simp only [picked, nth]; exact rfl) ?_
    repeat' (first | refine Ops.nil ?_ | refine Ops.mv rfl rfl rfl rfl ?_ | refine Ops.asg rfl rfl rfl rfl ?_ | refine Ops.nilP rfl rfl rfl rfl ?_ | refine Ops.fa0 rfl rfl rfl rfl ?_ | refine Ops.ld1 rfl rfl rfl rfl rfl ?_ | refine Ops.bin rfl rfl rfl rfl rfl ?_ | refine Ops.pickT rfl rfl rfl rfl rfl ?_ | refine Ops.pickF rfl rfl rfl rfl rfl ?_ | refine Ops.gSkip rfl rfl rfl ?_ | ((fail_if_success refine Ops.probe rfl ?_); refine Ops.gSplit rfl rfl (fun hc => ?_) (fun hc => ?_) <;> (try simp only [decide_eq_true_eq, decide_eq_false_iff_not, Bool.not_eq_true', Bool.not_eq_false', Bool.not_eq_eq_eq_not, Bool.not_true, Bool.not_false, Int.not_lt, Int.not_le] at hc)))
    all_goals exact Cd.ret (ret1 (A' := [BKv bd (.slice (some ⟨b0, off0, none⟩) jobs.length jc) (.int .i64 gr) v2 v3 v4 v5 v6 (.bool true) (.int .i64 shn)]) rfl (Res.tmp rfl) (fun _ h => h.split) ⟨⟨_, rfl⟩, rfl⟩)
  · repeat' (first | refine Cd.seq ?_ | refine Cd.condF rfl rfl ?_ | refine Cd.skip (Cd.next ?_))
    refine Cd.draw [(0, 0, []), (1, 1, []), (2, 0, []), (3, 0, []), (4, 0, []), (5, 1, []), (6, 0, []), (7, 0, []), (8, 0, []), (9, 1, []), (10, 0, []), (11, 0, []), (12, 0, []), (13, 0, []), (14, 1, []), (15, 0, []), (16, 0, []), (17, 0, []), (18, 0, []), (19, 0, []), (20, 0, []), (21, 0, []), (22, 1, []), (23, 1, []), (24, 0, []), (25, 0, []), (26, 0, [])] (by kernel_rfl) (by kernel_rfl) (by simp only [picked, nth]; exact rfl) ?_
    repeat' (first | refine Ops.nil ?_ | refine Ops.mv rfl rfl rfl rfl ?_ | refine Ops.asg rfl rfl rfl rfl ?_ | refine Ops.nilP rfl rfl rfl rfl ?_ | refine Ops.fa0 rfl rfl rfl rfl ?_ | refine Ops.ld1 rfl rfl rfl rfl rfl ?_ | refine Ops.lenS rfl rfl rfl rfl ?_ | refine Ops.bin rfl rfl rfl rfl rfl ?_ | refine Ops.pickT rfl rfl rfl rfl rfl ?_ | refine Ops.pickF rfl rfl rfl rfl rfl ?_ | refine Ops.gSkip rfl rfl rfl ?_ | ((fail_if_success refine Ops.probe rfl ?_); refine Ops.gSplit rfl rfl (fun hc => ?_) (fun hc => ?_) <;> (try simp only [decide_eq_true_eq, decide_eq_false_iff_not, Bool.not_eq_true', Bool.not_eq_false', Bool.not_eq_eq_eq_not, Bool.not_true, Bool.not_false, Int.not_lt, Int.not_le] at hc)))
    all_goals exact Cd.ret (ret1 (A' := [BKv bd (.slice (some ⟨b0, off0, none⟩) jobs.length jc) (.int .i64 gr) v2 v3 v4 v5 v6 (.bool true) (.int .i64 shn)]) rfl (Res.tmp rfl) (fun _ h => h.split) ⟨⟨_, rfl⟩, rfl⟩)

theorem own_nil {a : Option Addr} {n c : Nat} {l : List ByteArray} (h : OwnT (.slice a n c) l []) : a = none ∧ c = 0 ∧ l = [] := by
  rcases h.2 with ⟨h1, h2, _⟩ | ⟨g, c', sp, _, h2, _⟩
  · injection h1 with e1 e2 e3
    exact ⟨e1, e3, List.map_eq_nil_iff.1 h2⟩
  · cases h2

theorem rshown_spec (B0 : Base) (bd : Nat) (ja : Option Addr) (jc : Nat) (jobs : List RJ) (JG : List Blk) (gr shn : Int) (ea : Option Addr) (ec : Nat) (em : List Ev) (na : Option Addr) (nc : Nat) (en : List Ev) (sh : Bool) (v3 v5 v6 : Value) (tot : Nat) (e : Ev) (hO : OwnR (.slice ja jobs.length jc) jobs JG) (few : jobs.length ≤ 8) (hs0 : 0 ≤ shn) (hs8 : shn ≤ 8) (hV : VIn B0 ea em) (hem : em.length ≤ 2000000) (hN : VIn B0 na en) (hen : en.length ≤ 2000000) (hL : ∀ x ∈ jobs, SIn B0 x.la x.log ∧ x.log.length ≤ tot) (hS : SIn B0 e.ta e.texts) (hj1 : 1 ≤ e.job) (hj8 : e.job ≤ 8) (hbig : tot + e.texts.length ≤ 2000000) :
    ConB Try.prog B0 41 #[ptr bd, .agg e.row.toArray] (BKv bd (.slice ja jobs.length jc) (.int .i64 gr) (.slice ea em.length ec) v3 (.slice na en.length nc) v5 v6 (.bool sh) (.int .i64 shn) :: JG) (JAct bd (.slice ea em.length ec) v3 (.slice na en.length nc) v5 v6 (.bool sh) jobs (tot + e.texts.length)) := by
  have hsw := fun (B2 : Base) (hx2 : Ext B0 B2) (hG : Holds B2 JG) => rshowable_spec B2 bd ja jc jobs gr shn sh (.slice ea em.length ec) v3 (.slice na en.length nc) v5 v6 tot e (hO.jin hG) few (fun x hx => ⟨(hL x hx).1.ext hx2, (hL x hx).2⟩) (hS.ext hx2) hs0 hs8 hbig
  have hsw1 := ConB.lendS (A1 := [BKv bd (.slice ja jobs.length jc) (.int .i64 gr) (.slice ea em.length ec) v3 (.slice na en.length nc) v5 v6 (.bool sh) (.int .i64 shn)]) hsw
  have hsw2 : ConB Try.prog B0 58 #[ptr bd, .agg e.row.toArray] (BKv bd (.slice ja jobs.length jc) (.int .i64 gr) (.slice ea em.length ec) v3 (.slice na en.length nc) v5 v6 (.bool sh) (.int .i64 shn) :: JG) fun v A => (∃ c, v = .bool c) ∧ A = BKv bd (.slice ja jobs.length jc) (.int .i64 gr) (.slice ea em.length ec) v3 (.slice na en.length nc) v5 v6 (.bool sh) (.int .i64 shn) :: JG := hsw1
  clear hsw hsw1
  refine ConB.intro (vs := [_, _]) Try.func41 rfl Try.ntmps41 rfl (fun B hB => ?_)
  generalize hc6 : Code.seq (Code.seq (Code.region 6 _ _) _) _ = c6
  repeat' (first | refine Cd.seq ?_ | refine Cd.reg ?_ | refine Ops.mv rfl rfl rfl rfl ?_ | refine Ops.asg rfl rfl rfl rfl ?_ | refine Ops.ldN rfl rfl rfl rfl ?_ | refine Ops.box rfl rfl rfl rfl (noPd rfl) (fun b => ?_) | refine Ops.bs0 rfl rfl rfl (noPd rfl) (fun b => ?_))
  rename_i be
  rename Nat => xb
  refine Ops.callB hsw2 hB rfl (noPd rfl) rfl rfl rfl (fun v A' hR => ?_)
  obtain ⟨⟨ok, rfl⟩, rfl⟩ := hR
  repeat' (first | refine Cd.seq ?_ | refine Cd.reg ?_ | refine Ops.mv rfl rfl rfl rfl ?_ | refine Ops.asg rfl rfl rfl rfl ?_ | refine Ops.fa0 rfl rfl rfl rfl ?_ | refine Ops.ld1 rfl rfl rfl rfl rfl ?_)
  refine Ops.callB (rchunks_spec B0 bd ea ec em (.slice ja jobs.length jc) (.int .i64 gr) v3 (.slice na en.length nc) v5 v6 (.bool sh) (.int .i64 shn) e.badge 0 e.ta e.tc e.texts hV hem hS (by omega) (by omega) (by omega)) hB rfl (noPd rfl) rfl rfl rfl (fun v A' hR => ?_)
  obtain ⟨⟨pc, rfl⟩, rfl⟩ := hR
  repeat' (first | refine Cd.seq ?_ | refine Cd.reg ?_ | refine Ops.mv rfl rfl rfl rfl ?_ | refine Ops.asg rfl rfl rfl rfl ?_ | refine Ops.un rfl rfl rfl rfl ?_)
  refine Ops.call (rule_spec _ [] _ 8 _ Own.empty (by have hz : ([] : List Int).length = 0 := rfl; omega)) rfl (noPd rfl) rfl rfl rfl (fun v X1 hR => ?_)
  obtain ⟨ys1, hO1, hy1⟩ := hR
  obtain ⟨a1, c1, rfl⟩ := OwnI.form hO1
  repeat' (first | refine Cd.seq ?_ | refine Cd.reg ?_ | refine Ops.mv rfl rfl rfl rfl ?_ | refine Ops.asg rfl rfl rfl rfl ?_ | refine Ops.un rfl rfl rfl rfl ?_)
  refine Ops.call (rule_spec _ ys1 X1 5 _ hO1 (by have hz : ([] : List Int).length = 0 := rfl; omega)) rfl (noPd rfl) rfl rfl rfl (fun v X2 hR => ?_)
  obtain ⟨ys2, hO2, hy2⟩ := hR
  obtain ⟨a2, c2, rfl⟩ := OwnI.form hO2
  repeat' (first | refine Ops.nil ?_ | refine Ops.asg rfl rfl rfl rfl ?_)
  subst hc6
  refine Cd.cut (σ := Value × List Int × List Blk) (fun s => OwnI s.1 s.2.1 s.2.2 ∧ s.2.1.length ≤ 4) (fun s => [(0, ptr bd), (3, ptr be), (5, s.1)]) (fun s => (be, cl e.row 39) :: BKv bd (.slice ja jobs.length jc) (.int .i64 gr) (.slice ea em.length ec) v3 (.slice na en.length nc) v5 v6 (.bool sh) (.int .i64 shn) :: (JG ++ s.2.2)) ?_ (fun s hs => ?_)
  · by_cases h3 : e.status = 3
    · by_cases hk : 1 ≤ e.job ∧ e.job ≤ jobs.length
      · skip
        obtain ⟨x, hx⟩ : ∃ x, jobs[(e.job - 1).toNat]? = some x := ⟨_, List.getElem?_eq_getElem (by omega)⟩
        have hlt := (List.getElem?_eq_some_iff.1 hx).1
        obtain ⟨g, spare, rfl, _, rfl, hsp, hle⟩ := hO.some_ (by omega)
        have hok := rj_ok jobs
        have hrow : (jobs.map RJ.row)[(e.job - 1).toNat]? = some x.row := by rw [List.getElem?_map, hx]; rfl
        by_cases hx3 : x.st = 3
        · skip
          repeat' (first | refine Cd.seq ?_)
          refine Cd.draw [(0, 0, []), (1, 1, []), (2, 0, []), (3, 0, []), (4, 0, []), (5, 0, []), (6, 1, []), (7, 2, []), (8, 0, []), (9, 0, []), (10, 0, []), (11, 0, []), (12, 1, []), (13, 0, []), (14, 1, []), (15, 0, []), (16, 0, []), (17, 0, []), (18, 1, []), (19, 0, []), (20, 0, []), (21, 0, []), (22, 0, [])] (by kernel_rfl) (by kernel_rfl) (by simp only [picked, nth]; exact rfl) ?_
          repeat' (first | refine Ops.mv rfl rfl rfl rfl ?_ | refine Ops.fa0 rfl rfl rfl rfl ?_ | refine Ops.ld1 rfl rfl rfl rfl rfl ?_ | refine Ops.bin rfl rfl rfl rfl rfl ?_ | ((fail_if_success refine Ops.probe rfl ?_); refine Ops.gT rfl rfl (by first | rfl | assumption | (simp only [decide_eq_true_eq, decide_eq_false_iff_not, Bool.not_eq_true', Bool.not_eq_false', Bool.not_eq_eq_eq_not, Bool.not_true, Bool.not_false, beq_iff_eq, beq_eq_false_iff_ne, ne_eq, decide_eq_decide, eq_self, true_iff, iff_true, not_true_eq_false, not_false_eq_true]; first | done | omega)) ?_))
          refine Ops.call (rknown_spec bd (some ⟨g, 0, none⟩) jobs.length jc (.int .i64 gr) (.slice ea em.length ec) v3 (.slice na en.length nc) v5 v6 (.bool sh) (.int .i64 shn) e.job) rfl (noPd rfl) rfl rfl rfl (fun v A' hR => ?_)
          obtain ⟨rfl, rfl⟩ := hR
          rw [decide_eq_true hk]
          repeat' (first | refine Ops.nil ?_ | refine Ops.mv rfl rfl rfl rfl ?_ | refine Ops.nilP rfl rfl rfl rfl ?_ | refine Ops.fa0 rfl rfl rfl rfl ?_ | refine Ops.fa rfl rfl rfl rfl ?_ | refine Ops.ld1 rfl rfl rfl rfl rfl ?_ | refine Ops.subI rfl rfl rfl rfl (by omega) (by omega) rfl ?_ | refine Ops.bin rfl rfl rfl rfl rfl ?_ | refine Ops.un rfl rfl rfl rfl ?_ | refine Ops.pickT rfl rfl rfl rfl rfl ?_ | refine Ops.ixa0 rfl rfl rfl rfl (by omega) (by omega) rfl ?_ | refine Ops.ldRow1 rfl rfl rfl (by assumption) (by assumption) rfl rfl ?_ | refine Cd.condF rfl (by first | rfl | assumption | (simp only [decide_eq_true_eq, decide_eq_false_iff_not, Bool.not_eq_true', Bool.not_eq_false', Bool.not_eq_eq_eq_not, Bool.not_true, Bool.not_false, beq_iff_eq, beq_eq_false_iff_ne, ne_eq, decide_eq_decide, eq_self, true_iff, iff_true, not_true_eq_false, not_false_eq_true]; first | done | omega)) ?_)
          exact Cd.skip (meet_end (Q := fun _ _ _ => True) (_, ys2, X2) ⟨hO2, by have hz : ([] : List Int).length = 0 := rfl; show ys2.length ≤ 4; omega⟩ ⟨rfl, rfl, rfl, trivial⟩ (fun w h => h.split))
        · skip
          repeat' (first | refine Cd.seq ?_)
          refine Cd.draw [(0, 0, []), (1, 1, []), (2, 0, []), (3, 0, []), (4, 0, []), (5, 0, []), (6, 1, []), (7, 2, []), (8, 0, []), (9, 0, []), (10, 0, []), (11, 0, []), (12, 1, []), (13, 0, []), (14, 1, []), (15, 0, []), (16, 0, []), (17, 0, []), (18, 1, []), (19, 0, []), (20, 0, []), (21, 0, []), (22, 0, [])] (by kernel_rfl) (by kernel_rfl) (by simp only [picked, nth]; exact rfl) ?_
          repeat' (first | refine Ops.mv rfl rfl rfl rfl ?_ | refine Ops.fa0 rfl rfl rfl rfl ?_ | refine Ops.ld1 rfl rfl rfl rfl rfl ?_ | refine Ops.bin rfl rfl rfl rfl rfl ?_ | ((fail_if_success refine Ops.probe rfl ?_); refine Ops.gT rfl rfl (by first | rfl | assumption | (simp only [decide_eq_true_eq, decide_eq_false_iff_not, Bool.not_eq_true', Bool.not_eq_false', Bool.not_eq_eq_eq_not, Bool.not_true, Bool.not_false, beq_iff_eq, beq_eq_false_iff_ne, ne_eq, decide_eq_decide, eq_self, true_iff, iff_true, not_true_eq_false, not_false_eq_true]; first | done | omega)) ?_))
          refine Ops.call (rknown_spec bd (some ⟨g, 0, none⟩) jobs.length jc (.int .i64 gr) (.slice ea em.length ec) v3 (.slice na en.length nc) v5 v6 (.bool sh) (.int .i64 shn) e.job) rfl (noPd rfl) rfl rfl rfl (fun v A' hR => ?_)
          obtain ⟨rfl, rfl⟩ := hR
          rw [decide_eq_true hk]
          repeat' (first | refine Cd.seq ?_ | refine Cd.reg ?_ | refine Ops.nil ?_ | refine Ops.mv rfl rfl rfl rfl ?_ | refine Ops.nilP rfl rfl rfl rfl ?_ | refine Ops.fa0 rfl rfl rfl rfl ?_ | refine Ops.fa rfl rfl rfl rfl ?_ | refine Ops.ld1 rfl rfl rfl rfl rfl ?_ | refine Ops.ldN rfl rfl rfl rfl ?_ | refine Ops.lenS rfl rfl rfl rfl ?_ | refine Ops.subI rfl rfl rfl rfl (by omega) (by omega) rfl ?_ | refine Ops.bin rfl rfl rfl rfl rfl ?_ | refine Ops.un rfl rfl rfl rfl ?_ | refine Ops.pickT rfl rfl rfl rfl rfl ?_ | refine Ops.ixa0 rfl rfl rfl rfl (by omega) (by omega) rfl ?_ | refine Ops.ldRow1 rfl rfl rfl (by assumption) (by assumption) rfl rfl ?_ | refine Cd.condT rfl (by first | rfl | assumption | (simp only [decide_eq_true_eq, decide_eq_false_iff_not, Bool.not_eq_true', Bool.not_eq_false', Bool.not_eq_eq_eq_not, Bool.not_true, Bool.not_false, beq_iff_eq, beq_eq_false_iff_ne, ne_eq, decide_eq_decide, eq_self, true_iff, iff_true, not_true_eq_false, not_false_eq_true]; first | done | omega)) ?_)
          refine Ops.callB (rends_spec B0 bd na nc en (.slice (some ⟨g, 0, none⟩) jobs.length jc) (.int .i64 gr) (.slice ea em.length ec) v3 v5 v6 (.bool sh) (.int .i64 shn) e.job e.badge e.rcode e.rbits e.texts.length hN hen) hB rfl (noPd rfl) rfl rfl rfl (fun v A' hR => ?_)
          obtain ⟨⟨rc, wc, rfl⟩, rfl⟩ := hR
          repeat' (first | refine Cd.seq ?_ | refine Cd.reg ?_ | refine Ops.mv rfl rfl rfl rfl ?_ | refine Ops.asg rfl rfl rfl rfl ?_ | refine Ops.un rfl rfl rfl rfl ?_ | refine Ops.ext rfl rfl rfl rfl rfl ?_)
          refine Ops.call (rule_spec _ ys2 X2 2 _ hO2 (by have hz : ([] : List Int).length = 0 := rfl; omega)) rfl (noPd rfl) rfl rfl rfl (fun v X3 hR => ?_)
          obtain ⟨ys3, hO3, hy3⟩ := hR
          obtain ⟨a3, c3, rfl⟩ := OwnI.form hO3
          repeat' (first | refine Cd.reg ?_ | refine Ops.mv rfl rfl rfl rfl ?_ | refine Ops.asg rfl rfl rfl rfl ?_ | refine Ops.un rfl rfl rfl rfl ?_)
          refine Ops.call (rule_spec _ ys3 X3 6 _ hO3 (by have hz : ([] : List Int).length = 0 := rfl; omega)) rfl (noPd rfl) rfl rfl rfl (fun v X4 hR => ?_)
          obtain ⟨ys4, hO4, hy4⟩ := hR
          obtain ⟨a4, c4, rfl⟩ := OwnI.form hO4
          repeat' (first | refine Ops.asg rfl rfl rfl rfl ?_)
          exact Ops.nilN (meet_end (Q := fun _ _ _ => True) (_, ys4, X4) ⟨hO4, by have hz : ([] : List Int).length = 0 := rfl; show ys4.length ≤ 4; omega⟩ ⟨rfl, rfl, rfl, trivial⟩ (fun w h => h.split))
      · skip
        repeat' (first | refine Cd.seq ?_)
        refine Cd.draw [(0, 0, []), (1, 1, []), (2, 0, []), (3, 0, []), (4, 0, []), (5, 0, []), (6, 1, []), (7, 2, []), (8, 0, []), (9, 0, []), (10, 0, []), (11, 0, []), (12, 1, []), (13, 0, []), (14, 1, []), (15, 0, []), (16, 0, []), (17, 0, []), (18, 1, []), (19, 0, []), (20, 0, []), (21, 0, []), (22, 0, [])] (by kernel_rfl) (by kernel_rfl) (by simp only [picked, nth]; exact rfl) ?_
        repeat' (first | refine Ops.mv rfl rfl rfl rfl ?_ | refine Ops.fa0 rfl rfl rfl rfl ?_ | refine Ops.ld1 rfl rfl rfl rfl rfl ?_ | refine Ops.bin rfl rfl rfl rfl rfl ?_ | ((fail_if_success refine Ops.probe rfl ?_); refine Ops.gT rfl rfl (by first | rfl | assumption | (simp only [decide_eq_true_eq, decide_eq_false_iff_not, Bool.not_eq_true', Bool.not_eq_false', Bool.not_eq_eq_eq_not, Bool.not_true, Bool.not_false, beq_iff_eq, beq_eq_false_iff_ne, ne_eq, decide_eq_decide, eq_self, true_iff, iff_true, not_true_eq_false, not_false_eq_true]; first | done | omega)) ?_))
        refine Ops.call (rknown_spec bd ja jobs.length jc (.int .i64 gr) (.slice ea em.length ec) v3 (.slice na en.length nc) v5 v6 (.bool sh) (.int .i64 shn) e.job) rfl (noPd rfl) rfl rfl rfl (fun v A' hR => ?_)
        obtain ⟨rfl, rfl⟩ := hR
        rw [decide_eq_false hk]
        repeat' (first | refine Cd.seq ?_ | refine Cd.reg ?_ | refine Ops.nil ?_ | refine Ops.mv rfl rfl rfl rfl ?_ | refine Ops.fa0 rfl rfl rfl rfl ?_ | refine Ops.ld1 rfl rfl rfl rfl rfl ?_ | refine Ops.ldN rfl rfl rfl rfl ?_ | refine Ops.lenS rfl rfl rfl rfl ?_ | refine Ops.un rfl rfl rfl rfl ?_ | refine Ops.pickT rfl rfl rfl rfl rfl ?_ | refine Ops.pickF rfl rfl rfl rfl rfl ?_ | refine Ops.gSkip rfl rfl rfl ?_ | refine Cd.condT rfl rfl ?_)
        refine Ops.callB (rends_spec B0 bd na nc en (.slice ja jobs.length jc) (.int .i64 gr) (.slice ea em.length ec) v3 v5 v6 (.bool sh) (.int .i64 shn) e.job e.badge e.rcode e.rbits e.texts.length hN hen) hB rfl (noPd rfl) rfl rfl rfl (fun v A' hR => ?_)
        obtain ⟨⟨rc, wc, rfl⟩, rfl⟩ := hR
        repeat' (first | refine Cd.seq ?_ | refine Cd.reg ?_ | refine Ops.mv rfl rfl rfl rfl ?_ | refine Ops.asg rfl rfl rfl rfl ?_ | refine Ops.un rfl rfl rfl rfl ?_ | refine Ops.ext rfl rfl rfl rfl rfl ?_)
        refine Ops.call (rule_spec _ ys2 X2 2 _ hO2 (by have hz : ([] : List Int).length = 0 := rfl; omega)) rfl (noPd rfl) rfl rfl rfl (fun v X3 hR => ?_)
        obtain ⟨ys3, hO3, hy3⟩ := hR
        obtain ⟨a3, c3, rfl⟩ := OwnI.form hO3
        repeat' (first | refine Cd.reg ?_ | refine Ops.mv rfl rfl rfl rfl ?_ | refine Ops.asg rfl rfl rfl rfl ?_ | refine Ops.un rfl rfl rfl rfl ?_)
        refine Ops.call (rule_spec _ ys3 X3 6 _ hO3 (by have hz : ([] : List Int).length = 0 := rfl; omega)) rfl (noPd rfl) rfl rfl rfl (fun v X4 hR => ?_)
        obtain ⟨ys4, hO4, hy4⟩ := hR
        obtain ⟨a4, c4, rfl⟩ := OwnI.form hO4
        repeat' (first | refine Ops.asg rfl rfl rfl rfl ?_)
        exact Ops.nilN (meet_end (Q := fun _ _ _ => True) (_, ys4, X4) ⟨hO4, by have hz : ([] : List Int).length = 0 := rfl; show ys4.length ≤ 4; omega⟩ ⟨rfl, rfl, rfl, trivial⟩ (fun w h => h.split))
    · repeat' (first | refine Cd.seq ?_)
      refine Cd.draw [(0, 0, []), (1, 1, []), (2, 0, []), (3, 0, []), (4, 0, []), (5, 0, []), (6, 1, []), (7, 2, []), (8, 0, []), (9, 0, []), (10, 0, []), (11, 0, []), (12, 1, []), (13, 0, []), (14, 1, []), (15, 0, []), (16, 0, []), (17, 0, []), (18, 1, []), (19, 0, []), (20, 0, []), (21, 0, []), (22, 0, [])] (by kernel_rfl) (by kernel_rfl) (by simp only [picked, nth]; exact rfl) ?_
      repeat' (first | refine Ops.nil ?_ | refine Ops.mv rfl rfl rfl rfl ?_ | refine Ops.fa0 rfl rfl rfl rfl ?_ | refine Ops.ld1 rfl rfl rfl rfl rfl ?_ | refine Ops.bin rfl rfl rfl rfl rfl ?_ | refine Ops.pickF rfl rfl rfl rfl rfl ?_ | refine Ops.gSkip rfl rfl rfl ?_ | refine Ops.gSkipE rfl (noPd rfl) rfl rfl ?_ | refine Ops.gSkipU rfl rfl rfl rfl ?_ | refine Cd.condF rfl rfl ?_ | ((fail_if_success refine Ops.probe rfl ?_); refine Ops.gF rfl rfl (by first | rfl | assumption | (simp only [decide_eq_true_eq, decide_eq_false_iff_not, Bool.not_eq_true', Bool.not_eq_false', Bool.not_eq_eq_eq_not, Bool.not_true, Bool.not_false, beq_iff_eq, beq_eq_false_iff_ne, ne_eq, decide_eq_decide, eq_self, true_iff, iff_true, not_true_eq_false, not_false_eq_true]; first | done | omega)) ?_))
      exact Cd.skip (meet_end (Q := fun _ _ _ => True) (_, ys2, X2) ⟨hO2, by have hz : ([] : List Int).length = 0 := rfl; show ys2.length ≤ 4; omega⟩ ⟨rfl, rfl, rfl, trivial⟩ (fun w h => h.split))
  obtain ⟨sv, ys, XG⟩ := s
  obtain ⟨hOs, hys⟩ := hs
  dsimp only at hOs hys ⊢
  obtain ⟨sa, sc, rfl⟩ := OwnI.form hOs
  generalize hc12 : Code.seq (Code.seq (Code.region 12 _ _) _) _ = c12
  refine Cd.cut (σ := List RJ × Option Addr × Nat × List Blk) (fun s => OwnR (.slice s.2.1 s.1.length s.2.2.1) s.1 s.2.2.2 ∧ s.1.length ≤ 8 ∧ ∀ x ∈ s.1, Keep jobs (tot + e.texts.length) [] x) (fun s => [(0, ptr bd), (3, ptr be), (5, .slice sa ys.length sc)]) (fun s => (be, cl e.row 39) :: BKv bd (.slice s.2.1 s.1.length s.2.2.1) (.int .i64 gr) (.slice ea em.length ec) v3 (.slice na en.length nc) v5 v6 (.bool sh) (.int .i64 shn) :: (s.2.2.2 ++ XG)) ?_ (fun s hs => ?_)
  · by_cases hn : e.job = (jobs.length : Int) + 1
    · have hll : (jobs.map RJ.row).length = jobs.length := List.length_map _
      repeat' (first | refine Cd.seq ?_)
      refine Cd.draw [(0, 0, []), (1, 1, []), (2, 0, []), (3, 0, []), (4, 0, []), (5, 1, []), (6, 1, []), (7, 0, []), (8, 0, [])] (by kernel_rfl) (by kernel_rfl) (by simp only [picked, nth]; exact rfl) ?_
      repeat' (first | refine Cd.reg ?_ | refine Ops.nil ?_ | refine Ops.mv rfl rfl rfl rfl ?_ | refine Ops.nilP rfl rfl rfl rfl ?_ | refine Ops.fa0 rfl rfl rfl rfl ?_ | refine Ops.ld1 rfl rfl rfl rfl rfl ?_ | refine Ops.lenS rfl rfl rfl rfl ?_ | refine Ops.addI rfl rfl rfl rfl (by omega) (by omega) rfl ?_ | refine Ops.bin rfl rfl rfl rfl rfl ?_ | refine Ops.bld rfl rfl rfl rfl ?_ | refine Ops.bs1 rfl rfl rfl rfl rfl rfl rfl (noPd rfl) (fun b => ?_) | refine Cd.condT rfl (by first | rfl | assumption | (simp only [decide_eq_true_eq, decide_eq_false_iff_not, Bool.not_eq_true', Bool.not_eq_false', Bool.not_eq_eq_eq_not, Bool.not_true, Bool.not_false, beq_iff_eq, beq_eq_false_iff_ne, ne_eq, decide_eq_decide, eq_self, true_iff, iff_true, not_true_eq_false, not_false_eq_true]; first | done | omega)) ?_)
      refine Ops.app1 (rows := jobs.map RJ.row) hO (by rw [hll]; omega) (by rw [hll]; omega) rfl rfl rfl rfl (by rfl) (by rfl) rfl (noPd rfl) rfl (fun v G' hG' => ?_)
      have hG2 : OwnR v (jobs ++ [⟨0, 0, 0, 0, [], none, 0⟩]) G' := by
        unfold OwnR; rw [List.map_append]; exact hG'
      clear hG'
      obtain ⟨a', c', rfl⟩ := hG2.form
      repeat' (first | refine Ops.nilP rfl rfl rfl rfl ?_ | refine Ops.fa0 rfl rfl rfl rfl ?_ | refine Ops.st1 rfl rfl rfl rfl rfl (noPd rfl) ?_)
      exact Ops.nilN (meet_end (Q := fun _ _ _ => True) (jobs ++ [(⟨0, 0, 0, 0, [], none, 0⟩ : RJ)], a', c', G') ⟨hG2, by show (jobs ++ [_]).length ≤ 8; rw [List.length_append, List.length_singleton]; omega, fun x hx => by
        rcases List.mem_append.1 hx with hx | hx
        · exact keep_self x hx
        · obtain rfl := List.mem_singleton.1 hx; exact .inr (.inl ⟨rfl, rfl, rfl⟩)⟩ ⟨rfl, rfl, rfl, trivial⟩ (fun w h => h.split))
    · repeat' (first | refine Cd.seq ?_)
      refine Cd.draw [(0, 0, []), (1, 1, []), (2, 0, []), (3, 0, []), (4, 0, []), (5, 1, []), (6, 1, []), (7, 0, []), (8, 0, [])] (by kernel_rfl) (by kernel_rfl) (by simp only [picked, nth]; exact rfl) ?_
      repeat' (first | refine Ops.nil ?_ | refine Ops.mv rfl rfl rfl rfl ?_ | refine Ops.nilP rfl rfl rfl rfl ?_ | refine Ops.fa0 rfl rfl rfl rfl ?_ | refine Ops.ld1 rfl rfl rfl rfl rfl ?_ | refine Ops.lenS rfl rfl rfl rfl ?_ | refine Ops.addI rfl rfl rfl rfl (by omega) (by omega) rfl ?_ | refine Ops.bin rfl rfl rfl rfl rfl ?_ | refine Cd.condF rfl (by first | rfl | assumption | (simp only [decide_eq_true_eq, decide_eq_false_iff_not, Bool.not_eq_true', Bool.not_eq_false', Bool.not_eq_eq_eq_not, Bool.not_true, Bool.not_false, beq_iff_eq, beq_eq_false_iff_ne, ne_eq, decide_eq_decide, eq_self, true_iff, iff_true, not_true_eq_false, not_false_eq_true]; first | done | omega)) ?_)
      exact Cd.skip (meet_end (Q := fun _ _ _ => True) (jobs, ja, jc, JG) ⟨hO, few, keep_self⟩ ⟨rfl, rfl, rfl, trivial⟩ (fun w h => h.split))
  obtain ⟨jobs2, ja2, jc2, JG2⟩ := s
  obtain ⟨hO, few2, hkeep⟩ := hs
  dsimp only at hO few2 hkeep ⊢
  clear hsw2
  by_cases hk : 1 ≤ e.job ∧ e.job ≤ jobs2.length
  · skip
    obtain ⟨x, hx⟩ : ∃ x, jobs2[(e.job - 1).toNat]? = some x := ⟨_, List.getElem?_eq_getElem (by omega)⟩
    have hlt := (List.getElem?_eq_some_iff.1 hx).1
    obtain ⟨g, spare, rfl, _, rfl, hsp, hle⟩ := hO.some_ (by omega)
    have hok := rj_ok jobs2
    have hrow : (jobs2.map RJ.row)[(e.job - 1).toNat]? = some x.row := by rw [List.getElem?_map, hx]; rfl
    subst hc12
    have hmt : (e.texts.map srow).length = e.texts.length := List.length_map _
    repeat' (first | refine Cd.seq ?_ | refine Cd.reg ?_ | refine Ops.mv rfl rfl rfl rfl ?_ | refine Ops.fa0 rfl rfl rfl rfl ?_ | refine Ops.ld1 rfl rfl rfl rfl rfl ?_)
    refine Ops.call (rknown_spec bd (some ⟨g, 0, none⟩) jobs2.length jc2 (.int .i64 gr) (.slice ea em.length ec) v3 (.slice na en.length nc) v5 v6 (.bool sh) (.int .i64 shn) e.job) rfl (noPd rfl) rfl rfl rfl (fun v A' hR => ?_)
    obtain ⟨rfl, rfl⟩ := hR
    rw [decide_eq_true hk]
    repeat' (first | refine Cd.seq ?_ | refine Ops.nil ?_ | refine Cd.condT rfl rfl ?_)
    refine Cd.draw [(0, 0, []), (1, 0, []), (2, 0, []), (3, 1, []), (4, 0, []), (5, 1, []), (6, 0, []), (7, 0, []), (8, 1, []), (9, 0, []), (10, 1, []), (11, 0, []), (12, 1, []), (14, 0, []), (15, 1, []), (13, 2, [3, 5, 8, 10, 12, 15]), (16, 2, [3, 5, 8, 10, 12]), (17, 0, []), (18, 0, []), (19, 2, [])] (by kernel_rfl) (by kernel_rfl) (by simp only [picked, nth]; exact rfl) ?_
    repeat' (first | refine Ops.mv rfl rfl rfl rfl ?_ | refine Ops.nilP rfl rfl rfl rfl ?_ | refine Ops.fa0 rfl rfl rfl rfl ?_ | refine Ops.ld1 rfl rfl rfl rfl rfl ?_ | refine Ops.ldN rfl rfl rfl rfl ?_ | refine Ops.subI rfl rfl rfl rfl (by omega) (by omega) rfl ?_ | refine Ops.bs0 rfl rfl rfl (by first | exact noPd rfl | (intro v A' hR i hi; obtain ⟨b, rfl, rfl⟩ := hR; (repeat (rcases List.mem_cons.1 hi with rfl | hi; · (first | exact Still.ld1 rfl rfl rfl rfl rfl | exact Still.ldN rfl rfl rfl rfl | exact Still.len rfl rfl rfl rfl rfl | exact Still.skip rfl rfl rfl | exact Still.ldRow1 rfl rfl rfl (by assumption) (by assumption) rfl rfl | exact Still.ldR rfl rfl rfl (by apply_assumption) rfl))); cases hi)) (fun b => ?_))
    refine Ops.appS (rows := []) (news := e.texts.map srow) Own.empty ((hS.ext hB).reads e.tc _) (by rw [hmt, List.length_nil]; omega) (by rw [hmt, List.length_nil]; omega) rfl rfl rfl rfl rfl (by first | exact noPd rfl | (intro v A' hR i hi; obtain ⟨G2, hR, rfl⟩ := hR; (repeat (rcases List.mem_cons.1 hi with rfl | hi; · (first | exact Still.ld1 rfl rfl rfl rfl rfl | exact Still.ldN rfl rfl rfl rfl | exact Still.len rfl rfl rfl rfl rfl | exact Still.skip rfl rfl rfl | exact Still.ldRow1 rfl rfl rfl (by assumption) (by assumption) rfl rfl | exact Still.ldR rfl rfl rfl (by apply_assumption) rfl))); cases hi)) rfl (fun v G2 hG => ?_)
    have hG2 : OwnT v e.texts G2 := by
      rw [List.nil_append] at hG; exact hG
    clear hG
    obtain ⟨a2, c2, rfl⟩ := hG2.form
    repeat' (first | refine Ops.bld rfl rfl rfl rfl ?_ | refine Ops.ixa0 rfl rfl rfl rfl (by omega) (by omega) rfl ?_)
    refine Ops.stRow rfl rfl rfl rfl rfl rfl hok (by rw [List.length_map]; exact hlt) (noPd rfl) ?_
    repeat' (first | refine Ops.nil ?_)
    refine Cd.draw [(0, 0, []), (1, 0, []), (2, 0, []), (3, 0, []), (4, 1, []), (5, 0, []), (6, 1, []), (7, 0, []), (8, 0, []), (9, 0, []), (10, 2, [])] (by kernel_rfl) (by kernel_rfl) (by simp only [picked, nth]; exact rfl) ?_
    repeat' (first | refine Cd.seq ?_ | refine Cd.reg ?_ | refine Ops.nil ?_ | refine Ops.mv rfl rfl rfl rfl ?_ | refine Ops.asg rfl rfl rfl rfl ?_ | refine Ops.nilP rfl rfl rfl rfl ?_ | refine Ops.fa0 rfl rfl rfl rfl ?_ | refine Ops.ld1 rfl rfl rfl rfl rfl ?_ | refine Ops.maxI rfl rfl rfl rfl rfl ?_ | refine Ops.st1 rfl rfl rfl rfl rfl (noPd rfl) ?_)
    exact Cd.ret (ret1 (A' := BKv bd (.slice (some ⟨g, 0, none⟩) jobs2.length jc2) (.int .i64 (max gr e.badge)) (.slice ea em.length ec) v3 (.slice na en.length nc) v5 v6 (.bool sh) (.int .i64 e.job) :: ([(g, cl (((jobs2.map RJ.row).set (e.job - 1).toNat [.int .i64 e.status, .int .i64 e.badge, .int .i64 e.rcode, .int .u64 e.rbits, .slice a2 e.texts.length c2]).flatten ++ spare) 78)] ++ (G2 ++ XG))) rfl (Res.tmp rfl) (fun _ h => h.split)
      ⟨jobs2.set (e.job - 1).toNat ⟨e.status, e.badge, e.rcode, e.rbits, e.texts, a2, c2⟩, _, jc2, _, max gr e.badge, e.job, G2, ys, XG, by rw [List.length_set] <;> rfl, own_setR hO hsp hle _ rfl, by rw [List.length_set]; exact few2, hOs, by omega, ⟨by omega, hj8⟩, fun y hy => by
        rcases List.mem_or_eq_of_mem_set hy with hy | rfl
        · rcases hkeep y hy with h | h | ⟨h, h'⟩
          · exact .inl h
          · exact .inr (.inl h)
          · exact .inr (.inl (own_nil h'))
        · exact .inr (.inr ⟨by show e.texts.length ≤ _; omega, hG2⟩)⟩)
  · subst hc12
    repeat' (first | refine Cd.seq ?_ | refine Cd.reg ?_ | refine Ops.mv rfl rfl rfl rfl ?_ | refine Ops.fa0 rfl rfl rfl rfl ?_ | refine Ops.ld1 rfl rfl rfl rfl rfl ?_)
    refine Ops.call (rknown_spec bd ja2 jobs2.length jc2 (.int .i64 gr) (.slice ea em.length ec) v3 (.slice na en.length nc) v5 v6 (.bool sh) (.int .i64 shn) e.job) rfl (noPd rfl) rfl rfl rfl (fun v A' hR => ?_)
    obtain ⟨rfl, rfl⟩ := hR
    rw [decide_eq_false hk]
    repeat' (first | refine Cd.seq ?_ | refine Cd.reg ?_ | refine Ops.nil ?_ | refine Ops.mv rfl rfl rfl rfl ?_ | refine Ops.asg rfl rfl rfl rfl ?_ | refine Ops.nilP rfl rfl rfl rfl ?_ | refine Ops.fa0 rfl rfl rfl rfl ?_ | refine Ops.ld1 rfl rfl rfl rfl rfl ?_ | refine Ops.st1 rfl rfl rfl rfl rfl (noPd rfl) ?_ | refine Cd.condF rfl rfl ?_ | refine Cd.skip (Cd.next ?_))
    exact Cd.ret (ret1 (A' := BKv bd (.slice ja2 jobs2.length jc2) (.int .i64 gr) (.slice ea em.length ec) v3 (.slice na en.length nc) v5 v6 (.bool sh) (.int .i64 e.job) :: (JG2 ++ ([] ++ XG))) rfl (Res.tmp rfl) (fun _ h => h.split) ⟨jobs2, ja2, jc2, JG2, gr, e.job, [], ys, XG, rfl, hO, few2, hOs, by omega, ⟨by omega, hj8⟩, hkeep⟩)
end Go.Proofs.Ytfghnepmbgbnoaa
