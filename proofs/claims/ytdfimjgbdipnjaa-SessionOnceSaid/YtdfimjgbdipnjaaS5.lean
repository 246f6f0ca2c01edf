import Derived.Test.YtdfimjgbdipnjaaS3
import Derived.Test.YtdfimjgbdipnjaaSep14
namespace Go.Proofs.Ytdfimjgbdipnjaa
open Go Go.Sep Go.Proofs
set_option maxRecDepth 10000
set_option maxHeartbeats 1000000
set_option linter.unusedSimpArgs false
set_option linter.unusedVariables false

theorem ask_nohas (n : Nat) (sv : Value) (rs : List Dk) (G : List Blk) (slot life session number : Int) (hO : OwnK sv rs G) (hh : hasB slot rs.length = false) : Con Try.prog 25 #[ptr n, .int .i64 slot, .int .i64 life, .int .i64 session, .int .i64 number] (TabB n sv G) fun v A => v = .tuple #[.int .i64 1, .string ⟨#[]⟩] ∧ A = TabB n sv G := by
  refine Con.intro (vs := [_, _, _, _, _]) Try.func25 rfl Try.ntmps25 rfl (fun B => ?_)
  repeat' (first | refine Cd.seq ?_ | refine Cd.reg ?_ | refine Ops.mv rfl rfl rfl rfl ?_ | refine Ops.asg rfl rfl rfl rfl ?_)
  refine Ops.call (has_spec n sv rs G slot hO) rfl (noPd rfl) rfl rfl rfl (fun v A' hR => ?_)
  obtain ⟨rfl, rfl⟩ := hR
  rw [hh]
  repeat' (first | refine Cd.seq ?_ | refine Cd.reg ?_ | refine Ops.nil ?_ | refine Ops.asg rfl rfl rfl rfl ?_ | refine Ops.un rfl rfl rfl rfl ?_ | refine Cd.condT rfl rfl ?_)
  exact Cd.ret (ret2 rfl (Res.tmp rfl) (Res.tmp rfl) (fun _ h => h.split) ⟨rfl, rfl⟩)
theorem task_stale (n : Nat) (sv : Value) (rs : List Dk) (G : List Blk) (slot life session number : Int) (r : Dk) (hO : OwnK sv rs G) (hh : hasB slot rs.length = true) (hr : rs[slot.toNat]? = some r) (hb0 : 0 ≤ r.last) (hb1 : r.last ≤ 1099511627776) (hl : r.life = 0 ∨ r.life ≠ life ∨ r.session ≠ session) : Con Try.prog 25 #[ptr n, .int .i64 slot, .int .i64 life, .int .i64 session, .int .i64 number] (TabB n sv G) fun v A => v = .tuple #[.int .i64 1, .string ⟨#[]⟩] ∧ A = TabB n sv G := by
  have hO0 := hO
  obtain ⟨h0, h1⟩ : 0 ≤ slot ∧ slot < rs.length := by simpa [hasB] using hh
  obtain ⟨g, c, spare, rfl, rfl, hsp, hle⟩ := hO.some_ (by omega)
  have hok := dks_ok rs
  have hx : (dks rs)[slot.toNat]? = some [.int .i64 r.slot, .int .i64 r.life, .int .i64 r.session, .int .i64 r.last, .string r.reply] := by simp [dks, hr]
  refine Con.intro (vs := [_, _, _, _, _]) Try.func25 rfl Try.ntmps25 rfl (fun B => ?_)
  repeat' (first | refine Cd.seq ?_ | refine Cd.reg ?_ | refine Ops.mv rfl rfl rfl rfl ?_ | refine Ops.asg rfl rfl rfl rfl ?_)
  refine Ops.call (has_spec n _ rs _ slot hO0) rfl (noPd rfl) rfl rfl rfl (fun v A' hR => ?_)
  obtain ⟨rfl, rfl⟩ := hR
  rw [hh]
  repeat' (first | refine Cd.seq ?_ | refine Cd.reg ?_ | refine Ops.nil ?_ | refine Ops.mv rfl rfl rfl rfl ?_ | refine Ops.asg rfl rfl rfl rfl ?_ | refine Ops.nilP rfl rfl rfl rfl ?_ | refine Ops.fa0 rfl rfl rfl rfl ?_ | refine Ops.ld1 rfl rfl rfl rfl rfl ?_ | refine Ops.bin rfl rfl rfl rfl rfl ?_ | refine Ops.un rfl rfl rfl rfl ?_ | refine Ops.pickT rfl rfl rfl rfl rfl ?_ | refine Ops.pickF rfl rfl rfl rfl rfl ?_ | refine Ops.alloc rfl rfl rfl (noPd rfl) (fun b => ?_) | refine Ops.stN rfl rfl rfl rfl rfl rfl (noPd rfl) ?_ | refine Ops.gSkip rfl rfl rfl ?_ | refine Cd.condT rfl rfl ?_ | refine Cd.condF rfl rfl ?_ | refine Cd.block ?_ | refine Cd.skip (Cd.next ?_) | refine Ops.ixa0 rfl rfl rfl rfl (by omega) (by omega) rfl ?_ | refine Ops.ldRow rfl rfl rfl (by assumption) (by assumption) rfl ?_ | refine Cd.condT rfl (by first | rfl | assumption | (simp only [decide_eq_true_eq, decide_eq_false_iff_not, Bool.not_eq_true', Bool.not_eq_false', Bool.not_eq_eq_eq_not, Bool.not_true, Bool.not_false, beq_iff_eq, beq_eq_false_iff_ne, ne_eq, decide_eq_decide, eq_self, true_iff, iff_true, not_true_eq_false, not_false_eq_true]; first | done | omega)) ?_ | ((fail_if_success refine Ops.probe rfl ?_); refine Ops.gSplit rfl rfl (fun hc => ?_) (fun hc => ?_) <;> (try simp only [decide_eq_true_eq, decide_eq_false_iff_not, Bool.not_eq_true', Bool.not_eq_false', Bool.not_eq_eq_eq_not, Bool.not_true, Bool.not_false, Int.not_lt, Int.not_le] at hc)))
  all_goals exact Cd.ret (ret2 rfl (Res.tmp rfl) (Res.tmp rfl) (fun _ h => h.split) ⟨rfl, rfl⟩)
theorem task_zero (n : Nat) (sv : Value) (rs : List Dk) (G : List Blk) (slot life session number : Int) (r : Dk) (hO : OwnK sv rs G) (hh : hasB slot rs.length = true) (hr : rs[slot.toNat]? = some r) (hb0 : 0 ≤ r.last) (hb1 : r.last ≤ 1099511627776) (hl : r.life ≠ 0 ∧ r.life = life ∧ r.session = session ∧ number < 1) : Con Try.prog 25 #[ptr n, .int .i64 slot, .int .i64 life, .int .i64 session, .int .i64 number] (TabB n sv G) fun v A => v = .tuple #[.int .i64 0, .string ⟨#[]⟩] ∧ A = TabB n sv G := by
  have hO0 := hO
  obtain ⟨h0, h1⟩ : 0 ≤ slot ∧ slot < rs.length := by simpa [hasB] using hh
  obtain ⟨g, c, spare, rfl, rfl, hsp, hle⟩ := hO.some_ (by omega)
  have hok := dks_ok rs
  have hx : (dks rs)[slot.toNat]? = some [.int .i64 r.slot, .int .i64 r.life, .int .i64 r.session, .int .i64 r.last, .string r.reply] := by simp [dks, hr]
  refine Con.intro (vs := [_, _, _, _, _]) Try.func25 rfl Try.ntmps25 rfl (fun B => ?_)
  repeat' (first | refine Cd.seq ?_ | refine Cd.reg ?_ | refine Ops.mv rfl rfl rfl rfl ?_ | refine Ops.asg rfl rfl rfl rfl ?_)
  refine Ops.call (has_spec n _ rs _ slot hO0) rfl (noPd rfl) rfl rfl rfl (fun v A' hR => ?_)
  obtain ⟨rfl, rfl⟩ := hR
  rw [hh]
  repeat' (first | refine Cd.seq ?_ | refine Cd.reg ?_ | refine Ops.nil ?_ | refine Ops.mv rfl rfl rfl rfl ?_ | refine Ops.asg rfl rfl rfl rfl ?_ | refine Ops.nilP rfl rfl rfl rfl ?_ | refine Ops.fa0 rfl rfl rfl rfl ?_ | refine Ops.ld1 rfl rfl rfl rfl rfl ?_ | refine Ops.bin rfl rfl rfl rfl rfl ?_ | refine Ops.un rfl rfl rfl rfl ?_ | refine Ops.pickF rfl rfl rfl rfl rfl ?_ | refine Ops.alloc rfl rfl rfl (noPd rfl) (fun b => ?_) | refine Ops.stN rfl rfl rfl rfl rfl rfl (noPd rfl) ?_ | refine Cd.condF rfl rfl ?_ | refine Cd.block ?_ | refine Cd.skip (Cd.next ?_) | refine Ops.ixa0 rfl rfl rfl rfl (by omega) (by omega) rfl ?_ | refine Ops.ldRow rfl rfl rfl (by assumption) (by assumption) rfl ?_ | refine Cd.condT rfl (by first | rfl | assumption | (simp only [decide_eq_true_eq, decide_eq_false_iff_not, Bool.not_eq_true', Bool.not_eq_false', Bool.not_eq_eq_eq_not, Bool.not_true, Bool.not_false, beq_iff_eq, beq_eq_false_iff_ne, ne_eq, decide_eq_decide, eq_self, true_iff, iff_true, not_true_eq_false, not_false_eq_true]; first | done | omega)) ?_ | refine Cd.condF rfl (by first | rfl | assumption | (simp only [decide_eq_true_eq, decide_eq_false_iff_not, Bool.not_eq_true', Bool.not_eq_false', Bool.not_eq_eq_eq_not, Bool.not_true, Bool.not_false, beq_iff_eq, beq_eq_false_iff_ne, ne_eq, decide_eq_decide, eq_self, true_iff, iff_true, not_true_eq_false, not_false_eq_true]; first | done | omega)) ?_ | ((fail_if_success refine Ops.probe rfl ?_); refine Ops.gF rfl rfl (by first | rfl | assumption | (simp only [decide_eq_true_eq, decide_eq_false_iff_not, Bool.not_eq_true', Bool.not_eq_false', Bool.not_eq_eq_eq_not, Bool.not_true, Bool.not_false, beq_iff_eq, beq_eq_false_iff_ne, ne_eq, decide_eq_decide, eq_self, true_iff, iff_true, not_true_eq_false, not_false_eq_true]; first | done | omega)) ?_))
  all_goals exact Cd.ret (ret2 rfl (Res.tmp rfl) (Res.tmp rfl) (fun _ h => h.split) ⟨rfl, rfl⟩)
theorem task_again (n : Nat) (sv : Value) (rs : List Dk) (G : List Blk) (slot life session number : Int) (r : Dk) (hO : OwnK sv rs G) (hh : hasB slot rs.length = true) (hr : rs[slot.toNat]? = some r) (hb0 : 0 ≤ r.last) (hb1 : r.last ≤ 1099511627776) (hl : r.life ≠ 0 ∧ r.life = life ∧ r.session = session ∧ 1 ≤ number ∧ number = r.last) : Con Try.prog 25 #[ptr n, .int .i64 slot, .int .i64 life, .int .i64 session, .int .i64 number] (TabB n sv G) fun v A => v = .tuple #[.int .i64 2, .string r.reply] ∧ A = TabB n sv G := by
  have hO0 := hO
  obtain ⟨h0, h1⟩ : 0 ≤ slot ∧ slot < rs.length := by simpa [hasB] using hh
  obtain ⟨g, c, spare, rfl, rfl, hsp, hle⟩ := hO.some_ (by omega)
  have hok := dks_ok rs
  have hx : (dks rs)[slot.toNat]? = some [.int .i64 r.slot, .int .i64 r.life, .int .i64 r.session, .int .i64 r.last, .string r.reply] := by simp [dks, hr]
  refine Con.intro (vs := [_, _, _, _, _]) Try.func25 rfl Try.ntmps25 rfl (fun B => ?_)
  repeat' (first | refine Cd.seq ?_ | refine Cd.reg ?_ | refine Ops.mv rfl rfl rfl rfl ?_ | refine Ops.asg rfl rfl rfl rfl ?_)
  refine Ops.call (has_spec n _ rs _ slot hO0) rfl (noPd rfl) rfl rfl rfl (fun v A' hR => ?_)
  obtain ⟨rfl, rfl⟩ := hR
  rw [hh]
  repeat' (first | refine Cd.seq ?_ | refine Cd.reg ?_ | refine Ops.nil ?_ | refine Ops.mv rfl rfl rfl rfl ?_ | refine Ops.asg rfl rfl rfl rfl ?_ | refine Ops.nilP rfl rfl rfl rfl ?_ | refine Ops.fa0 rfl rfl rfl rfl ?_ | refine Ops.ld1 rfl rfl rfl rfl rfl ?_ | refine Ops.bin rfl rfl rfl rfl rfl ?_ | refine Ops.un rfl rfl rfl rfl ?_ | refine Ops.pickF rfl rfl rfl rfl rfl ?_ | refine Ops.alloc rfl rfl rfl (noPd rfl) (fun b => ?_) | refine Ops.stN rfl rfl rfl rfl rfl rfl (noPd rfl) ?_ | refine Cd.condF rfl rfl ?_ | refine Cd.block ?_ | refine Cd.skip (Cd.next ?_) | refine Ops.ixa0 rfl rfl rfl rfl (by omega) (by omega) rfl ?_ | refine Ops.ldRow rfl rfl rfl (by assumption) (by assumption) rfl ?_ | refine Cd.condT rfl (by first | rfl | assumption | (simp only [decide_eq_true_eq, decide_eq_false_iff_not, Bool.not_eq_true', Bool.not_eq_false', Bool.not_eq_eq_eq_not, Bool.not_true, Bool.not_false, beq_iff_eq, beq_eq_false_iff_ne, ne_eq, decide_eq_decide, eq_self, true_iff, iff_true, not_true_eq_false, not_false_eq_true]; first | done | omega)) ?_ | refine Cd.condF rfl (by first | rfl | assumption | (simp only [decide_eq_true_eq, decide_eq_false_iff_not, Bool.not_eq_true', Bool.not_eq_false', Bool.not_eq_eq_eq_not, Bool.not_true, Bool.not_false, beq_iff_eq, beq_eq_false_iff_ne, ne_eq, decide_eq_decide, eq_self, true_iff, iff_true, not_true_eq_false, not_false_eq_true]; first | done | omega)) ?_ | ((fail_if_success refine Ops.probe rfl ?_); refine Ops.gF rfl rfl (by first | rfl | assumption | (simp only [decide_eq_true_eq, decide_eq_false_iff_not, Bool.not_eq_true', Bool.not_eq_false', Bool.not_eq_eq_eq_not, Bool.not_true, Bool.not_false, beq_iff_eq, beq_eq_false_iff_ne, ne_eq, decide_eq_decide, eq_self, true_iff, iff_true, not_true_eq_false, not_false_eq_true]; first | done | omega)) ?_))
  refine Cd.draw [(0, 0, []), (1, 1, []), (2, 0, []), (3, 0, [])] (by kernel_rfl) (by kernel_rfl) (by simp only [picked, nth]; exact rfl) ?_
  repeat' (first | refine Ops.nil ?_ | refine Ops.asg rfl rfl rfl rfl ?_ | refine Ops.fa0 rfl rfl rfl rfl ?_ | refine Ops.ld1 rfl rfl rfl rfl rfl ?_)
  all_goals exact Cd.ret (ret2 rfl (Res.tmp rfl) (Res.tmp rfl) (fun _ h => h.split) ⟨rfl, rfl⟩)
theorem task_new (n : Nat) (sv : Value) (rs : List Dk) (G : List Blk) (slot life session number : Int) (r : Dk) (hO : OwnK sv rs G) (hh : hasB slot rs.length = true) (hr : rs[slot.toNat]? = some r) (hb0 : 0 ≤ r.last) (hb1 : r.last ≤ 1099511627776) (hl : r.life ≠ 0 ∧ r.life = life ∧ r.session = session ∧ 1 ≤ number ∧ number = r.last + 1) : Con Try.prog 25 #[ptr n, .int .i64 slot, .int .i64 life, .int .i64 session, .int .i64 number] (TabB n sv G) fun v A => v = .tuple #[.int .i64 3, .string ⟨#[]⟩] ∧ A = TabB n sv G := by
  have hO0 := hO
  obtain ⟨h0, h1⟩ : 0 ≤ slot ∧ slot < rs.length := by simpa [hasB] using hh
  obtain ⟨g, c, spare, rfl, rfl, hsp, hle⟩ := hO.some_ (by omega)
  have hok := dks_ok rs
  have hx : (dks rs)[slot.toNat]? = some [.int .i64 r.slot, .int .i64 r.life, .int .i64 r.session, .int .i64 r.last, .string r.reply] := by simp [dks, hr]
  refine Con.intro (vs := [_, _, _, _, _]) Try.func25 rfl Try.ntmps25 rfl (fun B => ?_)
  repeat' (first | refine Cd.seq ?_ | refine Cd.reg ?_ | refine Ops.mv rfl rfl rfl rfl ?_ | refine Ops.asg rfl rfl rfl rfl ?_)
  refine Ops.call (has_spec n _ rs _ slot hO0) rfl (noPd rfl) rfl rfl rfl (fun v A' hR => ?_)
  obtain ⟨rfl, rfl⟩ := hR
  rw [hh]
  repeat' (first | refine Cd.seq ?_ | refine Cd.reg ?_ | refine Ops.nil ?_ | refine Ops.mv rfl rfl rfl rfl ?_ | refine Ops.asg rfl rfl rfl rfl ?_ | refine Ops.nilP rfl rfl rfl rfl ?_ | refine Ops.fa0 rfl rfl rfl rfl ?_ | refine Ops.ld1 rfl rfl rfl rfl rfl ?_ | refine Ops.addI rfl rfl rfl rfl (by omega) (by omega) rfl ?_ | refine Ops.bin rfl rfl rfl rfl rfl ?_ | refine Ops.un rfl rfl rfl rfl ?_ | refine Ops.pickF rfl rfl rfl rfl rfl ?_ | refine Ops.alloc rfl rfl rfl (noPd rfl) (fun b => ?_) | refine Ops.stN rfl rfl rfl rfl rfl rfl (noPd rfl) ?_ | refine Cd.condF rfl rfl ?_ | refine Cd.block ?_ | refine Cd.skip (Cd.next ?_) | refine Ops.ixa0 rfl rfl rfl rfl (by omega) (by omega) rfl ?_ | refine Ops.ldRow rfl rfl rfl (by assumption) (by assumption) rfl ?_ | refine Cd.condT rfl (by first | rfl | assumption | (simp only [decide_eq_true_eq, decide_eq_false_iff_not, Bool.not_eq_true', Bool.not_eq_false', Bool.not_eq_eq_eq_not, Bool.not_true, Bool.not_false, beq_iff_eq, beq_eq_false_iff_ne, ne_eq, decide_eq_decide, eq_self, true_iff, iff_true, not_true_eq_false, not_false_eq_true]; first | done | omega)) ?_ | refine Cd.condF rfl (by first | rfl | assumption | (simp only [decide_eq_true_eq, decide_eq_false_iff_not, Bool.not_eq_true', Bool.not_eq_false', Bool.not_eq_eq_eq_not, Bool.not_true, Bool.not_false, beq_iff_eq, beq_eq_false_iff_ne, ne_eq, decide_eq_decide, eq_self, true_iff, iff_true, not_true_eq_false, not_false_eq_true]; first | done | omega)) ?_ | ((fail_if_success refine Ops.probe rfl ?_); refine Ops.gF rfl rfl (by first | rfl | assumption | (simp only [decide_eq_true_eq, decide_eq_false_iff_not, Bool.not_eq_true', Bool.not_eq_false', Bool.not_eq_eq_eq_not, Bool.not_true, Bool.not_false, beq_iff_eq, beq_eq_false_iff_ne, ne_eq, decide_eq_decide, eq_self, true_iff, iff_true, not_true_eq_false, not_false_eq_true]; first | done | omega)) ?_))
  all_goals exact Cd.ret (ret2 rfl (Res.tmp rfl) (Res.tmp rfl) (fun _ h => h.split) ⟨rfl, rfl⟩)
theorem task_pass (n : Nat) (sv : Value) (rs : List Dk) (G : List Blk) (slot life session number : Int) (r : Dk) (hO : OwnK sv rs G) (hh : hasB slot rs.length = true) (hr : rs[slot.toNat]? = some r) (hb0 : 0 ≤ r.last) (hb1 : r.last ≤ 1099511627776) (hl : r.life ≠ 0 ∧ r.life = life ∧ r.session = session ∧ 1 ≤ number ∧ number ≠ r.last ∧ number ≠ r.last + 1) : Con Try.prog 25 #[ptr n, .int .i64 slot, .int .i64 life, .int .i64 session, .int .i64 number] (TabB n sv G) fun v A => v = .tuple #[.int .i64 0, .string ⟨#[]⟩] ∧ A = TabB n sv G := by
  have hO0 := hO
  obtain ⟨h0, h1⟩ : 0 ≤ slot ∧ slot < rs.length := by simpa [hasB] using hh
  obtain ⟨g, c, spare, rfl, rfl, hsp, hle⟩ := hO.some_ (by omega)
  have hok := dks_ok rs
  have hx : (dks rs)[slot.toNat]? = some [.int .i64 r.slot, .int .i64 r.life, .int .i64 r.session, .int .i64 r.last, .string r.reply] := by simp [dks, hr]
  refine Con.intro (vs := [_, _, _, _, _]) Try.func25 rfl Try.ntmps25 rfl (fun B => ?_)
  repeat' (first | refine Cd.seq ?_ | refine Cd.reg ?_ | refine Ops.mv rfl rfl rfl rfl ?_ | refine Ops.asg rfl rfl rfl rfl ?_)
  refine Ops.call (has_spec n _ rs _ slot hO0) rfl (noPd rfl) rfl rfl rfl (fun v A' hR => ?_)
  obtain ⟨rfl, rfl⟩ := hR
  rw [hh]
  repeat' (first | refine Cd.seq ?_ | refine Cd.reg ?_ | refine Ops.nil ?_ | refine Ops.mv rfl rfl rfl rfl ?_ | refine Ops.asg rfl rfl rfl rfl ?_ | refine Ops.nilP rfl rfl rfl rfl ?_ | refine Ops.fa0 rfl rfl rfl rfl ?_ | refine Ops.ld1 rfl rfl rfl rfl rfl ?_ | refine Ops.addI rfl rfl rfl rfl (by omega) (by omega) rfl ?_ | refine Ops.bin rfl rfl rfl rfl rfl ?_ | refine Ops.un rfl rfl rfl rfl ?_ | refine Ops.pickF rfl rfl rfl rfl rfl ?_ | refine Ops.alloc rfl rfl rfl (noPd rfl) (fun b => ?_) | refine Ops.stN rfl rfl rfl rfl rfl rfl (noPd rfl) ?_ | refine Cd.condF rfl rfl ?_ | refine Cd.block ?_ | refine Cd.skip (Cd.next ?_) | refine Cd.skip (Cd.next (Q' := fun _ _ _ => True) ?_) | refine Ops.ixa0 rfl rfl rfl rfl (by omega) (by omega) rfl ?_ | refine Ops.ldRow rfl rfl rfl (by assumption) (by assumption) rfl ?_ | refine Cd.condF rfl (by first | rfl | assumption | (simp only [decide_eq_true_eq, decide_eq_false_iff_not, Bool.not_eq_true', Bool.not_eq_false', Bool.not_eq_eq_eq_not, Bool.not_true, Bool.not_false, beq_iff_eq, beq_eq_false_iff_ne, ne_eq, decide_eq_decide, eq_self, true_iff, iff_true, not_true_eq_false, not_false_eq_true]; first | done | omega)) ?_ | ((fail_if_success refine Ops.probe rfl ?_); refine Ops.gF rfl rfl (by first | rfl | assumption | (simp only [decide_eq_true_eq, decide_eq_false_iff_not, Bool.not_eq_true', Bool.not_eq_false', Bool.not_eq_eq_eq_not, Bool.not_true, Bool.not_false, beq_iff_eq, beq_eq_false_iff_ne, ne_eq, decide_eq_decide, eq_self, true_iff, iff_true, not_true_eq_false, not_false_eq_true]; first | done | omega)) ?_))
  all_goals exact Cd.ret (ret2 rfl (Res.tmp rfl) (Res.tmp rfl) (fun _ h => h.split) ⟨rfl, rfl⟩)
theorem answer_nohas (n : Nat) (sv : Value) (rs : List Dk) (G : List Blk) (slot : Int) (reply : ByteArray) (hO : OwnK sv rs G) (hh : hasB slot rs.length = false) : Con Try.prog 23 #[ptr n, .int .i64 slot, .string reply] (TabB n sv G) fun v A => v = .int .i64 130 ∧ A = TabB n sv G := by
  refine Con.intro (vs := [_, _, _]) Try.func23 rfl Try.ntmps23 rfl (fun B => ?_)
  repeat' (first | refine Cd.seq ?_ | refine Cd.reg ?_ | refine Ops.mv rfl rfl rfl rfl ?_ | refine Ops.asg rfl rfl rfl rfl ?_)
  refine Ops.call (has_spec n sv rs G slot hO) rfl (noPd rfl) rfl rfl rfl (fun v A' hR => ?_)
  obtain ⟨rfl, rfl⟩ := hR
  rw [hh]
  repeat' (first | refine Cd.seq ?_ | refine Cd.reg ?_ | refine Ops.nil ?_ | refine Ops.asg rfl rfl rfl rfl ?_ | refine Ops.un rfl rfl rfl rfl ?_ | refine Cd.condT rfl rfl ?_)
  exact Cd.ret (ret1 rfl (Res.tmp rfl) (fun _ h => h.split) ⟨rfl, rfl⟩)
theorem answer_none (n : Nat) (sv : Value) (rs : List Dk) (G : List Blk) (slot : Int) (reply : ByteArray) (r : Dk) (hO : OwnK sv rs G) (hh : hasB slot rs.length = true) (hr : rs[slot.toNat]? = some r) (hl : r.life = 0 ∨ r.last = 1099511627776) : Con Try.prog 23 #[ptr n, .int .i64 slot, .string reply] (TabB n sv G) fun v A => v = .int .i64 132 ∧ A = TabB n sv G := by
  have hO0 := hO
  obtain ⟨h0, h1⟩ : 0 ≤ slot ∧ slot < rs.length := by simpa [hasB] using hh
  obtain ⟨g, c, spare, rfl, rfl, hsp, hle⟩ := hO.some_ (by omega)
  have hok := dks_ok rs
  have hx : (dks rs)[slot.toNat]? = some [.int .i64 r.slot, .int .i64 r.life, .int .i64 r.session, .int .i64 r.last, .string r.reply] := by simp [dks, hr]
  refine Con.intro (vs := [_, _, _]) Try.func23 rfl Try.ntmps23 rfl (fun B => ?_)
  repeat' (first | refine Cd.seq ?_ | refine Cd.reg ?_ | refine Ops.mv rfl rfl rfl rfl ?_ | refine Ops.asg rfl rfl rfl rfl ?_)
  refine Ops.call (has_spec n _ rs _ slot hO0) rfl (noPd rfl) rfl rfl rfl (fun v A' hR => ?_)
  obtain ⟨rfl, rfl⟩ := hR
  rw [hh]
  repeat' (first | refine Cd.seq ?_ | refine Cd.reg ?_ | refine Ops.nil ?_ | refine Ops.mv rfl rfl rfl rfl ?_ | refine Ops.asg rfl rfl rfl rfl ?_ | refine Ops.nilP rfl rfl rfl rfl ?_ | refine Ops.fa0 rfl rfl rfl rfl ?_ | refine Ops.fa rfl rfl rfl rfl ?_ | refine Ops.ld1 rfl rfl rfl rfl rfl ?_ | refine Ops.bin rfl rfl rfl rfl rfl ?_ | refine Ops.un rfl rfl rfl rfl ?_ | refine Ops.pickT rfl rfl rfl rfl rfl ?_ | refine Ops.pickF rfl rfl rfl rfl rfl ?_ | refine Ops.gSkip rfl rfl rfl ?_ | refine Cd.condT rfl rfl ?_ | refine Cd.condF rfl rfl ?_ | refine Cd.skip (Cd.next ?_) | refine Ops.ixa0 rfl rfl rfl rfl (by omega) (by omega) rfl ?_ | refine Ops.ldRow1 rfl rfl rfl (by assumption) (by assumption) rfl rfl ?_ | refine Cd.condT rfl (by first | rfl | assumption | (simp only [decide_eq_true_eq, decide_eq_false_iff_not, Bool.not_eq_true', Bool.not_eq_false', Bool.not_eq_eq_eq_not, Bool.not_true, Bool.not_false, beq_iff_eq, beq_eq_false_iff_ne, ne_eq, decide_eq_decide, eq_self, true_iff, iff_true, not_true_eq_false, not_false_eq_true]; first | done | omega)) ?_ | ((fail_if_success refine Ops.probe rfl ?_); refine Ops.gSplit rfl rfl (fun hc => ?_) (fun hc => ?_) <;> (try simp only [decide_eq_true_eq, decide_eq_false_iff_not, Bool.not_eq_true', Bool.not_eq_false', Bool.not_eq_eq_eq_not, Bool.not_true, Bool.not_false, Int.not_lt, Int.not_le] at hc)))
  all_goals exact Cd.ret (ret1 rfl (Res.tmp rfl) (fun _ h => h.split) ⟨rfl, rfl⟩)
theorem answer_ok (n : Nat) (sv : Value) (rs : List Dk) (G : List Blk) (slot : Int) (reply : ByteArray) (r : Dk) (hO : OwnK sv rs G) (hh : hasB slot rs.length = true) (hr : rs[slot.toNat]? = some r) (hb0 : 0 ≤ r.last) (hb1 : r.last ≤ 1099511627776) (hl : r.life ≠ 0) (hl2 : r.last ≠ 1099511627776) : Con Try.prog 23 #[ptr n, .int .i64 slot, .string reply] (TabB n sv G) fun v A => v = .int .i64 0 ∧ ∃ G', A = TabB n sv G' ∧ OwnK sv (rs.set slot.toNat { r with last := r.last + 1, reply := reply }) G' := by
  have hO0 := hO
  obtain ⟨h0, h1⟩ : 0 ≤ slot ∧ slot < rs.length := by simpa [hasB] using hh
  obtain ⟨g, c, spare, rfl, rfl, hsp, hle⟩ := hO.some_ (by omega)
  have hok := dks_ok rs
  have hx : (dks rs)[slot.toNat]? = some [.int .i64 r.slot, .int .i64 r.life, .int .i64 r.session, .int .i64 r.last, .string r.reply] := by simp [dks, hr]
  refine Con.intro (vs := [_, _, _]) Try.func23 rfl Try.ntmps23 rfl (fun B => ?_)
  repeat' (first | refine Cd.seq ?_ | refine Cd.reg ?_ | refine Ops.mv rfl rfl rfl rfl ?_ | refine Ops.asg rfl rfl rfl rfl ?_)
  refine Ops.call (has_spec n _ rs _ slot hO0) rfl (noPd rfl) rfl rfl rfl (fun v A' hR => ?_)
  obtain ⟨rfl, rfl⟩ := hR
  rw [hh]
  repeat' (first | refine Cd.seq ?_ | refine Cd.reg ?_ | refine Ops.nil ?_ | refine Ops.mv rfl rfl rfl rfl ?_ | refine Ops.asg rfl rfl rfl rfl ?_ | refine Ops.nilP rfl rfl rfl rfl ?_ | refine Ops.fa0 rfl rfl rfl rfl ?_ | refine Ops.fa rfl rfl rfl rfl ?_ | refine Ops.ld1 rfl rfl rfl rfl rfl ?_ | refine Ops.addI rfl rfl rfl rfl (by omega) (by omega) rfl ?_ | refine Ops.bin rfl rfl rfl rfl rfl ?_ | refine Ops.un rfl rfl rfl rfl ?_ | refine Ops.pickF rfl rfl rfl rfl rfl ?_ | refine Cd.condF rfl rfl ?_ | refine Cd.skip (Cd.next ?_) | refine Ops.ixa0 rfl rfl rfl rfl (by omega) (by omega) rfl ?_ | refine Ops.ldRow1 rfl rfl rfl (by assumption) (by assumption) rfl rfl ?_ | refine Cd.condF rfl (by first | rfl | assumption | (simp only [decide_eq_true_eq, decide_eq_false_iff_not, Bool.not_eq_true', Bool.not_eq_false', Bool.not_eq_eq_eq_not, Bool.not_true, Bool.not_false, beq_iff_eq, beq_eq_false_iff_ne, ne_eq, decide_eq_decide, eq_self, true_iff, iff_true, not_true_eq_false, not_false_eq_true]; first | done | omega)) ?_ | ((fail_if_success refine Ops.probe rfl ?_); refine Ops.gF rfl rfl (by first | rfl | assumption | (simp only [decide_eq_true_eq, decide_eq_false_iff_not, Bool.not_eq_true', Bool.not_eq_false', Bool.not_eq_eq_eq_not, Bool.not_true, Bool.not_false, beq_iff_eq, beq_eq_false_iff_ne, ne_eq, decide_eq_decide, eq_self, true_iff, iff_true, not_true_eq_false, not_false_eq_true]; first | done | omega)) ?_))
  refine Ops.stRow1 (sz := 5) (rows := dks rs) (i := slot.toNat) (o := 3) rfl rfl rfl rfl rfl hok hx rfl (noPd rfl) ?_
  have hok1 : RowsOk 5 ((dks rs).set slot.toNat ([.int .i64 r.slot, .int .i64 r.life, .int .i64 r.session, .int .i64 r.last, .string r.reply].set 3 (.int .i64 (r.last + 1)))) := fun x hx => by
    rcases List.mem_or_eq_of_mem_set hx with h | h
    · exact hok x h
    · subst h; exact ⟨rfl, rfl⟩
  have hx1 : ((dks rs).set slot.toNat ([.int .i64 r.slot, .int .i64 r.life, .int .i64 r.session, .int .i64 r.last, .string r.reply].set 3 (.int .i64 (r.last + 1))))[slot.toNat]? = some [.int .i64 r.slot, .int .i64 r.life, .int .i64 r.session, .int .i64 (r.last + 1), .string r.reply] := by
    rw [List.getElem?_set_self (by rw [dks_len]; omega)]; rfl
  repeat' (first | refine Cd.seq ?_ | refine Cd.reg ?_ | refine Ops.mv rfl rfl rfl rfl ?_ | refine Ops.nilP rfl rfl rfl rfl ?_ | refine Ops.fa rfl rfl rfl rfl ?_)
  refine Ops.stRow1 (sz := 5) (i := slot.toNat) (o := 4) rfl rfl rfl rfl rfl hok1 hx1 rfl (noPd rfl) ?_
  repeat' (first | refine Cd.seq ?_ | refine Cd.reg ?_ | refine Ops.nil ?_ | refine Ops.asg rfl rfl rfl rfl ?_)
  refine Cd.ret (ret1 (A' := TabB n (.slice (some ⟨g, 0, none⟩) rs.length c) [(g, cl (((dks rs).set slot.toNat [.int .i64 r.slot, .int .i64 r.life, .int .i64 r.session, .int .i64 (r.last + 1), .string reply]).flatten ++ spare) 98)]) rfl (Res.tmp rfl) (fun _ h => by rw [List.set_set] at h; exact h) ⟨rfl, _, rfl, ?_⟩)
  have := Own.set (rows := dks rs) (spare := spare) (c := c) (g := g) (by rw [dks_len]; exact hO0) hsp (by rw [dks_len]; exact hle) (i := slot.toNat) (r := [.int .i64 r.slot, .int .i64 r.life, .int .i64 r.session, .int .i64 (r.last + 1), .string reply]) rfl rfl
  unfold OwnK dks
  rw [List.map_set]
  simpa [dks] using this
end Go.Proofs.Ytdfimjgbdipnjaa
