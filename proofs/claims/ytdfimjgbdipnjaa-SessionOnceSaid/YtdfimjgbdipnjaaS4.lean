import Derived.Test.YtdfimjgbdipnjaaS3
import Derived.Test.YtdfimjgbdipnjaaSep14
namespace Go.Proofs.Ytdfimjgbdipnjaa
open Go Go.Sep Go.Proofs
set_option maxRecDepth 10000
set_option maxHeartbeats 1000000
set_option linter.unusedSimpArgs false
set_option linter.unusedVariables false

theorem hello_nohas (n : Nat) (sv : Value) (rs : List Dk) (G : List Blk) (slot life : Int) (hO : OwnK sv rs G) (hh : hasB slot rs.length = false) : Con Try.prog 24 #[ptr n, .int .i64 slot, .int .i64 life] (TabB n sv G) fun v A => v = .tuple #[.int .i64 0, .int .i64 0] ∧ A = TabB n sv G := by
  refine Con.intro (vs := [_, _, _]) Try.func24 rfl Try.ntmps24 rfl (fun B => ?_)
  repeat' (first | refine Cd.seq ?_ | refine Cd.reg ?_ | refine Ops.mv rfl rfl rfl rfl ?_ | refine Ops.asg rfl rfl rfl rfl ?_ | refine Cd.block ?_)
  refine Ops.call (has_spec n sv rs G slot hO) rfl (noPd rfl) rfl rfl rfl (fun v A' hR => ?_)
  obtain ⟨rfl, rfl⟩ := hR
  rw [hh]
  repeat' (first | refine Cd.seq ?_ | refine Cd.reg ?_ | refine Ops.nil ?_ | refine Ops.mv rfl rfl rfl rfl ?_ | refine Ops.asg rfl rfl rfl rfl ?_ | refine Ops.un rfl rfl rfl rfl ?_ | refine Ops.pickT rfl rfl rfl rfl rfl ?_ | refine Ops.gSkip rfl rfl rfl ?_ | refine Cd.condT rfl rfl ?_)
  exact Cd.ret (ret2 rfl (Res.tmp rfl) (Res.tmp rfl) (fun _ h => h.split) ⟨rfl, rfl⟩)
theorem hello_nocnt (n : Nat) (sv : Value) (rs : List Dk) (G : List Blk) (slot life : Int) (hO : OwnK sv rs G) (hh : hasB slot rs.length = true) (hc : cntB life = false) : Con Try.prog 24 #[ptr n, .int .i64 slot, .int .i64 life] (TabB n sv G) fun v A => v = .tuple #[.int .i64 0, .int .i64 0] ∧ A = TabB n sv G := by
  refine Con.intro (vs := [_, _, _]) Try.func24 rfl Try.ntmps24 rfl (fun B => ?_)
  repeat' (first | refine Cd.seq ?_ | refine Cd.reg ?_ | refine Ops.mv rfl rfl rfl rfl ?_ | refine Ops.asg rfl rfl rfl rfl ?_ | refine Cd.block ?_)
  refine Ops.call (has_spec n sv rs G slot hO) rfl (noPd rfl) rfl rfl rfl (fun v A' hR => ?_)
  obtain ⟨rfl, rfl⟩ := hR
  rw [hh]
  repeat' (first | refine Ops.mv rfl rfl rfl rfl ?_ | refine Ops.un rfl rfl rfl rfl ?_)
  refine Ops.call (counts_spec life) rfl (noPd rfl) rfl rfl rfl (fun v A' hR => ?_)
  obtain ⟨rfl, rfl⟩ := hR
  rw [hc]
  repeat' (first | refine Cd.seq ?_ | refine Cd.reg ?_ | refine Ops.nil ?_ | refine Ops.mv rfl rfl rfl rfl ?_ | refine Ops.asg rfl rfl rfl rfl ?_ | refine Ops.un rfl rfl rfl rfl ?_ | refine Ops.pickT rfl rfl rfl rfl rfl ?_ | refine Ops.pickF rfl rfl rfl rfl rfl ?_ | refine Ops.gSkip rfl rfl rfl ?_ | refine Cd.condT rfl rfl ?_)
  exact Cd.ret (ret2 rfl (Res.tmp rfl) (Res.tmp rfl) (fun _ h => h.split) ⟨rfl, rfl⟩)
theorem hello_old (n : Nat) (sv : Value) (rs : List Dk) (G : List Blk) (slot life : Int) (r : Dk) (hO : OwnK sv rs G) (hh : hasB slot rs.length = true) (hc : cntB life = true) (hr : rs[slot.toNat]? = some r) (hl : life < r.life) : Con Try.prog 24 #[ptr n, .int .i64 slot, .int .i64 life] (TabB n sv G) fun v A => v = .tuple #[.int .i64 0, .int .i64 0] ∧ A = TabB n sv G := by
  have hO0 := hO
  obtain ⟨h0, h1⟩ : 0 ≤ slot ∧ slot < rs.length := by simpa [hasB] using hh
  obtain ⟨g, c, spare, rfl, rfl, hsp, hle⟩ := hO.some_ (by omega)
  have hok := dks_ok rs
  have hx : (dks rs)[slot.toNat]? = some [.int .i64 r.slot, .int .i64 r.life, .int .i64 r.session, .int .i64 r.last, .string r.reply] := by simp [dks, hr]
  refine Con.intro (vs := [_, _, _]) Try.func24 rfl Try.ntmps24 rfl (fun B => ?_)
  repeat' (first | refine Cd.seq ?_ | refine Cd.reg ?_ | refine Ops.mv rfl rfl rfl rfl ?_ | refine Ops.asg rfl rfl rfl rfl ?_ | refine Cd.block ?_)
  refine Ops.call (has_spec n _ rs _ slot hO0) rfl (noPd rfl) rfl rfl rfl (fun v A' hR => ?_)
  obtain ⟨rfl, rfl⟩ := hR
  rw [hh]
  repeat' (first | refine Ops.mv rfl rfl rfl rfl ?_ | refine Ops.un rfl rfl rfl rfl ?_)
  refine Ops.call (counts_spec life) rfl (noPd rfl) rfl rfl rfl (fun v A' hR => ?_)
  obtain ⟨rfl, rfl⟩ := hR
  rw [hc]
  repeat' (first | refine Cd.seq ?_ | refine Cd.reg ?_ | refine Ops.nil ?_ | refine Ops.mv rfl rfl rfl rfl ?_ | refine Ops.asg rfl rfl rfl rfl ?_ | refine Ops.nilP rfl rfl rfl rfl ?_ | refine Ops.fa0 rfl rfl rfl rfl ?_ | refine Ops.fa rfl rfl rfl rfl ?_ | refine Ops.ld1 rfl rfl rfl rfl rfl ?_ | refine Ops.bin rfl rfl rfl rfl rfl ?_ | refine Ops.un rfl rfl rfl rfl ?_ | refine Ops.pickF rfl rfl rfl rfl rfl ?_ | refine Ops.ixa0 rfl rfl rfl rfl (by omega) (by omega) rfl ?_ | refine Ops.ldRow1 rfl rfl rfl (by assumption) (by assumption) rfl rfl ?_ | refine Cd.condT rfl (by first | rfl | assumption | (simp only [decide_eq_true_eq, decide_eq_false_iff_not, Bool.not_eq_true', Bool.not_eq_false', Bool.not_eq_eq_eq_not, Bool.not_true, Bool.not_false, beq_iff_eq, beq_eq_false_iff_ne, ne_eq, decide_eq_decide, eq_self, true_iff, iff_true, not_true_eq_false, not_false_eq_true]; first | done | omega)) ?_)
  exact Cd.ret (ret2 rfl (Res.tmp rfl) (Res.tmp rfl) (fun _ h => h.split) ⟨rfl, rfl⟩)
theorem hello_known (n : Nat) (sv : Value) (rs : List Dk) (G : List Blk) (slot life : Int) (r : Dk) (hO : OwnK sv rs G) (hh : hasB slot rs.length = true) (hc : cntB life = true) (hr : rs[slot.toNat]? = some r) (hl : r.life = life) : Con Try.prog 24 #[ptr n, .int .i64 slot, .int .i64 life] (TabB n sv G) fun v A => v = .tuple #[.int .i64 1, .int .i64 r.session] ∧ A = TabB n sv G := by
  have hO0 := hO
  obtain ⟨h0, h1⟩ : 0 ≤ slot ∧ slot < rs.length := by simpa [hasB] using hh
  obtain ⟨g, c, spare, rfl, rfl, hsp, hle⟩ := hO.some_ (by omega)
  have hok := dks_ok rs
  have hx : (dks rs)[slot.toNat]? = some [.int .i64 r.slot, .int .i64 r.life, .int .i64 r.session, .int .i64 r.last, .string r.reply] := by simp [dks, hr]
  refine Con.intro (vs := [_, _, _]) Try.func24 rfl Try.ntmps24 rfl (fun B => ?_)
  repeat' (first | refine Cd.seq ?_ | refine Cd.reg ?_ | refine Ops.mv rfl rfl rfl rfl ?_ | refine Ops.asg rfl rfl rfl rfl ?_ | refine Cd.block ?_)
  refine Ops.call (has_spec n _ rs _ slot hO0) rfl (noPd rfl) rfl rfl rfl (fun v A' hR => ?_)
  obtain ⟨rfl, rfl⟩ := hR
  rw [hh]
  repeat' (first | refine Ops.mv rfl rfl rfl rfl ?_ | refine Ops.un rfl rfl rfl rfl ?_)
  refine Ops.call (counts_spec life) rfl (noPd rfl) rfl rfl rfl (fun v A' hR => ?_)
  obtain ⟨rfl, rfl⟩ := hR
  rw [hc]
  repeat' (first | refine Cd.seq ?_ | refine Cd.reg ?_ | refine Ops.nil ?_ | refine Ops.mv rfl rfl rfl rfl ?_ | refine Ops.asg rfl rfl rfl rfl ?_ | refine Ops.nilP rfl rfl rfl rfl ?_ | refine Ops.fa0 rfl rfl rfl rfl ?_ | refine Ops.fa rfl rfl rfl rfl ?_ | refine Ops.ld1 rfl rfl rfl rfl rfl ?_ | refine Ops.bin rfl rfl rfl rfl rfl ?_ | refine Ops.un rfl rfl rfl rfl ?_ | refine Ops.pickF rfl rfl rfl rfl rfl ?_ | refine Ops.ixa0 rfl rfl rfl rfl (by omega) (by omega) rfl ?_ | refine Ops.ldRow1 rfl rfl rfl (by assumption) (by assumption) rfl rfl ?_ | refine Cd.condT rfl (by first | rfl | assumption | (simp only [decide_eq_true_eq, decide_eq_false_iff_not, Bool.not_eq_true', Bool.not_eq_false', Bool.not_eq_eq_eq_not, Bool.not_true, Bool.not_false, beq_iff_eq, beq_eq_false_iff_ne, ne_eq, decide_eq_decide, eq_self, true_iff, iff_true, not_true_eq_false, not_false_eq_true]; first | done | omega)) ?_ | refine Cd.condF rfl (by first | rfl | assumption | (simp only [decide_eq_true_eq, decide_eq_false_iff_not, Bool.not_eq_true', Bool.not_eq_false', Bool.not_eq_eq_eq_not, Bool.not_true, Bool.not_false, beq_iff_eq, beq_eq_false_iff_ne, ne_eq, decide_eq_decide, eq_self, true_iff, iff_true, not_true_eq_false, not_false_eq_true]; first | done | omega)) ?_)
  refine Cd.draw [(0, 0, []), (1, 0, []), (2, 0, []), (3, 1, []), (4, 0, []), (5, 0, []), (6, 0, []), (7, 1, []), (8, 0, []), (9, 0, [])] (by kernel_rfl) (by kernel_rfl) (by simp only [picked, nth]; exact rfl) ?_
  repeat' (first | refine Ops.nil ?_ | refine Ops.mv rfl rfl rfl rfl ?_ | refine Ops.asg rfl rfl rfl rfl ?_ | refine Ops.nilP rfl rfl rfl rfl ?_ | refine Ops.fa0 rfl rfl rfl rfl ?_ | refine Ops.fa rfl rfl rfl rfl ?_ | refine Ops.ld1 rfl rfl rfl rfl rfl ?_ | refine Ops.ixa0 rfl rfl rfl rfl (by omega) (by omega) rfl ?_ | refine Ops.ldRow1 rfl rfl rfl (by assumption) (by assumption) rfl rfl ?_)
  exact Cd.ret (ret2 rfl (Res.tmp rfl) (Res.tmp rfl) (fun _ h => h.split) ⟨rfl, rfl⟩)
theorem hello_fresh (n : Nat) (sv : Value) (rs : List Dk) (G : List Blk) (slot life : Int) (r : Dk) (hO : OwnK sv rs G) (hh : hasB slot rs.length = true) (hc : cntB life = true) (hr : rs[slot.toNat]? = some r) (hl : r.life < life) : Con Try.prog 24 #[ptr n, .int .i64 slot, .int .i64 life] (TabB n sv G) fun v A => v = .tuple #[.int .i64 2, .int .i64 0] ∧ A = TabB n sv G := by
  have hO0 := hO
  obtain ⟨h0, h1⟩ : 0 ≤ slot ∧ slot < rs.length := by simpa [hasB] using hh
  obtain ⟨g, c, spare, rfl, rfl, hsp, hle⟩ := hO.some_ (by omega)
  have hok := dks_ok rs
  have hx : (dks rs)[slot.toNat]? = some [.int .i64 r.slot, .int .i64 r.life, .int .i64 r.session, .int .i64 r.last, .string r.reply] := by simp [dks, hr]
  refine Con.intro (vs := [_, _, _]) Try.func24 rfl Try.ntmps24 rfl (fun B => ?_)
  repeat' (first | refine Cd.seq ?_ | refine Cd.reg ?_ | refine Ops.mv rfl rfl rfl rfl ?_ | refine Ops.asg rfl rfl rfl rfl ?_ | refine Cd.block ?_)
  refine Ops.call (has_spec n _ rs _ slot hO0) rfl (noPd rfl) rfl rfl rfl (fun v A' hR => ?_)
  obtain ⟨rfl, rfl⟩ := hR
  rw [hh]
  repeat' (first | refine Ops.mv rfl rfl rfl rfl ?_ | refine Ops.un rfl rfl rfl rfl ?_)
  refine Ops.call (counts_spec life) rfl (noPd rfl) rfl rfl rfl (fun v A' hR => ?_)
  obtain ⟨rfl, rfl⟩ := hR
  rw [hc]
  repeat' (first | refine Cd.seq ?_ | refine Cd.reg ?_ | refine Ops.nil ?_ | refine Ops.mv rfl rfl rfl rfl ?_ | refine Ops.asg rfl rfl rfl rfl ?_ | refine Ops.nilP rfl rfl rfl rfl ?_ | refine Ops.fa0 rfl rfl rfl rfl ?_ | refine Ops.fa rfl rfl rfl rfl ?_ | refine Ops.ld1 rfl rfl rfl rfl rfl ?_ | refine Ops.bin rfl rfl rfl rfl rfl ?_ | refine Ops.un rfl rfl rfl rfl ?_ | refine Ops.pickF rfl rfl rfl rfl rfl ?_ | refine Cd.skip (Cd.next (Q' := fun _ _ _ => True) ?_) | refine Ops.ixa0 rfl rfl rfl rfl (by omega) (by omega) rfl ?_ | refine Ops.ldRow1 rfl rfl rfl (by assumption) (by assumption) rfl rfl ?_ | refine Cd.condF rfl (by first | rfl | assumption | (simp only [decide_eq_true_eq, decide_eq_false_iff_not, Bool.not_eq_true', Bool.not_eq_false', Bool.not_eq_eq_eq_not, Bool.not_true, Bool.not_false, beq_iff_eq, beq_eq_false_iff_ne, ne_eq, decide_eq_decide, eq_self, true_iff, iff_true, not_true_eq_false, not_false_eq_true]; first | done | omega)) ?_)
  exact Cd.ret (ret2 rfl (Res.tmp rfl) (Res.tmp rfl) (fun _ h => h.split) ⟨rfl, rfl⟩)
theorem open_nohas (n : Nat) (sv : Value) (rs : List Dk) (G : List Blk) (slot life session : Int) (hO : OwnK sv rs G) (hh : hasB slot rs.length = false) : Con Try.prog 22 #[ptr n, .int .i64 slot, .int .i64 life, .int .i64 session] (TabB n sv G) fun v A => v = .int .i64 130 ∧ A = TabB n sv G := by
  refine Con.intro (vs := [_, _, _, _]) Try.func22 rfl Try.ntmps22 rfl (fun B => ?_)
  repeat' (first | refine Cd.seq ?_ | refine Cd.reg ?_ | refine Ops.mv rfl rfl rfl rfl ?_ | refine Ops.asg rfl rfl rfl rfl ?_ | refine Cd.block ?_)
  refine Ops.call (has_spec n sv rs G slot hO) rfl (noPd rfl) rfl rfl rfl (fun v A' hR => ?_)
  obtain ⟨rfl, rfl⟩ := hR
  rw [hh]
  repeat' (first | refine Cd.seq ?_ | refine Cd.reg ?_ | refine Ops.nil ?_ | refine Ops.asg rfl rfl rfl rfl ?_ | refine Ops.un rfl rfl rfl rfl ?_ | refine Cd.condT rfl rfl ?_)
  exact Cd.ret (ret1 rfl (Res.tmp rfl) (fun _ h => h.split) ⟨rfl, rfl⟩)
theorem open_nolife (n : Nat) (sv : Value) (rs : List Dk) (G : List Blk) (slot life session : Int) (hO : OwnK sv rs G) (hh : hasB slot rs.length = true) (hc : cntB life = false) : Con Try.prog 22 #[ptr n, .int .i64 slot, .int .i64 life, .int .i64 session] (TabB n sv G) fun v A => v = .int .i64 132 ∧ A = TabB n sv G := by
  refine Con.intro (vs := [_, _, _, _]) Try.func22 rfl Try.ntmps22 rfl (fun B => ?_)
  repeat' (first | refine Cd.seq ?_ | refine Cd.reg ?_ | refine Ops.mv rfl rfl rfl rfl ?_ | refine Ops.asg rfl rfl rfl rfl ?_ | refine Cd.block ?_)
  refine Ops.call (has_spec n sv rs G slot hO) rfl (noPd rfl) rfl rfl rfl (fun v A' hR => ?_)
  obtain ⟨rfl, rfl⟩ := hR
  rw [hh]
  repeat' (first | refine Cd.seq ?_ | refine Cd.reg ?_ | refine Ops.nil ?_ | refine Ops.mv rfl rfl rfl rfl ?_ | refine Ops.asg rfl rfl rfl rfl ?_ | refine Ops.un rfl rfl rfl rfl ?_ | refine Cd.condF rfl rfl ?_)
  refine Ops.call (counts_spec life) rfl (noPd rfl) rfl rfl rfl (fun v A' hR => ?_)
  obtain ⟨rfl, rfl⟩ := hR
  rw [hc]
  repeat' (first | refine Cd.seq ?_ | refine Cd.reg ?_ | refine Ops.nil ?_ | refine Ops.mv rfl rfl rfl rfl ?_ | refine Ops.asg rfl rfl rfl rfl ?_ | refine Ops.un rfl rfl rfl rfl ?_ | refine Ops.pickT rfl rfl rfl rfl rfl ?_ | refine Ops.gSkip rfl rfl rfl ?_ | refine Cd.condT rfl rfl ?_)
  exact Cd.ret (ret1 rfl (Res.tmp rfl) (fun _ h => h.split) ⟨rfl, rfl⟩)
theorem open_nosess (n : Nat) (sv : Value) (rs : List Dk) (G : List Blk) (slot life session : Int) (hO : OwnK sv rs G) (hh : hasB slot rs.length = true) (hc : cntB life = true) (hd : cntB session = false) : Con Try.prog 22 #[ptr n, .int .i64 slot, .int .i64 life, .int .i64 session] (TabB n sv G) fun v A => v = .int .i64 132 ∧ A = TabB n sv G := by
  refine Con.intro (vs := [_, _, _, _]) Try.func22 rfl Try.ntmps22 rfl (fun B => ?_)
  repeat' (first | refine Cd.seq ?_ | refine Cd.reg ?_ | refine Ops.mv rfl rfl rfl rfl ?_ | refine Ops.asg rfl rfl rfl rfl ?_ | refine Cd.block ?_)
  refine Ops.call (has_spec n sv rs G slot hO) rfl (noPd rfl) rfl rfl rfl (fun v A' hR => ?_)
  obtain ⟨rfl, rfl⟩ := hR
  rw [hh]
  repeat' (first | refine Cd.seq ?_ | refine Cd.reg ?_ | refine Ops.nil ?_ | refine Ops.mv rfl rfl rfl rfl ?_ | refine Ops.asg rfl rfl rfl rfl ?_ | refine Ops.un rfl rfl rfl rfl ?_ | refine Cd.condF rfl rfl ?_)
  refine Ops.call (counts_spec life) rfl (noPd rfl) rfl rfl rfl (fun v A' hR => ?_)
  obtain ⟨rfl, rfl⟩ := hR
  rw [hc]
  repeat' (first | refine Ops.mv rfl rfl rfl rfl ?_ | refine Ops.un rfl rfl rfl rfl ?_)
  refine Ops.call (counts_spec session) rfl (noPd rfl) rfl rfl rfl (fun v A' hR => ?_)
  obtain ⟨rfl, rfl⟩ := hR
  rw [hd]
  repeat' (first | refine Cd.seq ?_ | refine Cd.reg ?_ | refine Ops.nil ?_ | refine Ops.mv rfl rfl rfl rfl ?_ | refine Ops.asg rfl rfl rfl rfl ?_ | refine Ops.un rfl rfl rfl rfl ?_ | refine Ops.pickT rfl rfl rfl rfl rfl ?_ | refine Ops.pickF rfl rfl rfl rfl rfl ?_ | refine Ops.gSkip rfl rfl rfl ?_ | refine Cd.condT rfl rfl ?_)
  exact Cd.ret (ret1 rfl (Res.tmp rfl) (fun _ h => h.split) ⟨rfl, rfl⟩)
theorem open_old (n : Nat) (sv : Value) (rs : List Dk) (G : List Blk) (slot life session : Int) (r : Dk) (hO : OwnK sv rs G) (hh : hasB slot rs.length = true) (hc : cntB life = true) (hd : cntB session = true) (hr : rs[slot.toNat]? = some r) (hl : life < r.life) : Con Try.prog 22 #[ptr n, .int .i64 slot, .int .i64 life, .int .i64 session] (TabB n sv G) fun v A => v = .int .i64 132 ∧ A = TabB n sv G := by
  have hO0 := hO
  obtain ⟨h0, h1⟩ : 0 ≤ slot ∧ slot < rs.length := by simpa [hasB] using hh
  obtain ⟨g, c, spare, rfl, rfl, hsp, hle⟩ := hO.some_ (by omega)
  have hok := dks_ok rs
  have hx : (dks rs)[slot.toNat]? = some [.int .i64 r.slot, .int .i64 r.life, .int .i64 r.session, .int .i64 r.last, .string r.reply] := by simp [dks, hr]
  refine Con.intro (vs := [_, _, _, _]) Try.func22 rfl Try.ntmps22 rfl (fun B => ?_)
  repeat' (first | refine Cd.seq ?_ | refine Cd.reg ?_ | refine Ops.mv rfl rfl rfl rfl ?_ | refine Ops.asg rfl rfl rfl rfl ?_ | refine Cd.block ?_)
  refine Ops.call (has_spec n _ rs _ slot hO0) rfl (noPd rfl) rfl rfl rfl (fun v A' hR => ?_)
  obtain ⟨rfl, rfl⟩ := hR
  rw [hh]
  repeat' (first | refine Cd.seq ?_ | refine Cd.reg ?_ | refine Ops.nil ?_ | refine Ops.mv rfl rfl rfl rfl ?_ | refine Ops.asg rfl rfl rfl rfl ?_ | refine Ops.un rfl rfl rfl rfl ?_ | refine Cd.condF rfl rfl ?_)
  refine Ops.call (counts_spec life) rfl (noPd rfl) rfl rfl rfl (fun v A' hR => ?_)
  obtain ⟨rfl, rfl⟩ := hR
  rw [hc]
  repeat' (first | refine Ops.mv rfl rfl rfl rfl ?_ | refine Ops.un rfl rfl rfl rfl ?_)
  refine Ops.call (counts_spec session) rfl (noPd rfl) rfl rfl rfl (fun v A' hR => ?_)
  obtain ⟨rfl, rfl⟩ := hR
  rw [hd]
  repeat' (first | refine Cd.seq ?_ | refine Cd.reg ?_ | refine Ops.nil ?_ | refine Ops.mv rfl rfl rfl rfl ?_ | refine Ops.asg rfl rfl rfl rfl ?_ | refine Ops.nilP rfl rfl rfl rfl ?_ | refine Ops.fa0 rfl rfl rfl rfl ?_ | refine Ops.fa rfl rfl rfl rfl ?_ | refine Ops.ld1 rfl rfl rfl rfl rfl ?_ | refine Ops.bin rfl rfl rfl rfl rfl ?_ | refine Ops.un rfl rfl rfl rfl ?_ | refine Ops.pickF rfl rfl rfl rfl rfl ?_ | refine Ops.ixa0 rfl rfl rfl rfl (by omega) (by omega) rfl ?_ | refine Ops.ldRow1 rfl rfl rfl (by assumption) (by assumption) rfl rfl ?_ | refine Cd.condT rfl (by first | rfl | assumption | (simp only [decide_eq_true_eq, decide_eq_false_iff_not, Bool.not_eq_true', Bool.not_eq_false', Bool.not_eq_eq_eq_not, Bool.not_true, Bool.not_false, beq_iff_eq, beq_eq_false_iff_ne, ne_eq, decide_eq_decide, eq_self, true_iff, iff_true, not_true_eq_false, not_false_eq_true]; first | done | omega)) ?_)
  exact Cd.ret (ret1 rfl (Res.tmp rfl) (fun _ h => h.split) ⟨rfl, rfl⟩)
theorem open_ok (n : Nat) (sv : Value) (rs : List Dk) (G : List Blk) (slot life session : Int) (r : Dk) (hO : OwnK sv rs G) (hh : hasB slot rs.length = true) (hc : cntB life = true) (hd : cntB session = true) (hr : rs[slot.toNat]? = some r) (hl : r.life ≤ life) : Con Try.prog 22 #[ptr n, .int .i64 slot, .int .i64 life, .int .i64 session] (TabB n sv G) fun v A => v = .int .i64 0 ∧ ∃ G', A = TabB n sv G' ∧ OwnK sv (rs.set slot.toNat ⟨slot, life, session, 0, ⟨#[]⟩⟩) G' := by
  have hO0 := hO
  obtain ⟨h0, h1⟩ : 0 ≤ slot ∧ slot < rs.length := by simpa [hasB] using hh
  obtain ⟨g, c, spare, rfl, rfl, hsp, hle⟩ := hO.some_ (by omega)
  have hok := dks_ok rs
  have hx : (dks rs)[slot.toNat]? = some [.int .i64 r.slot, .int .i64 r.life, .int .i64 r.session, .int .i64 r.last, .string r.reply] := by simp [dks, hr]
  refine Con.intro (vs := [_, _, _, _]) Try.func22 rfl Try.ntmps22 rfl (fun B => ?_)
  repeat' (first | refine Cd.seq ?_ | refine Cd.reg ?_ | refine Ops.mv rfl rfl rfl rfl ?_ | refine Ops.asg rfl rfl rfl rfl ?_ | refine Cd.block ?_)
  refine Ops.call (has_spec n _ rs _ slot hO0) rfl (noPd rfl) rfl rfl rfl (fun v A' hR => ?_)
  obtain ⟨rfl, rfl⟩ := hR
  rw [hh]
  repeat' (first | refine Cd.seq ?_ | refine Cd.reg ?_ | refine Ops.nil ?_ | refine Ops.mv rfl rfl rfl rfl ?_ | refine Ops.asg rfl rfl rfl rfl ?_ | refine Ops.un rfl rfl rfl rfl ?_ | refine Cd.condF rfl rfl ?_)
  refine Ops.call (counts_spec life) rfl (noPd rfl) rfl rfl rfl (fun v A' hR => ?_)
  obtain ⟨rfl, rfl⟩ := hR
  rw [hc]
  repeat' (first | refine Ops.mv rfl rfl rfl rfl ?_ | refine Ops.un rfl rfl rfl rfl ?_)
  refine Ops.call (counts_spec session) rfl (noPd rfl) rfl rfl rfl (fun v A' hR => ?_)
  obtain ⟨rfl, rfl⟩ := hR
  rw [hd]
  repeat' (first | refine Cd.seq ?_ | refine Cd.reg ?_ | refine Ops.nil ?_ | refine Ops.mv rfl rfl rfl rfl ?_ | refine Ops.asg rfl rfl rfl rfl ?_ | refine Ops.nilP rfl rfl rfl rfl ?_ | refine Ops.fa0 rfl rfl rfl rfl ?_ | refine Ops.fa rfl rfl rfl rfl ?_ | refine Ops.ld1 rfl rfl rfl rfl rfl ?_ | refine Ops.bin rfl rfl rfl rfl rfl ?_ | refine Ops.un rfl rfl rfl rfl ?_ | refine Ops.pickF rfl rfl rfl rfl rfl ?_ | refine Ops.bld rfl rfl rfl rfl ?_ | refine Cd.skip (Cd.next (Q' := fun _ _ _ => True) ?_) | refine Ops.ixa0 rfl rfl rfl rfl (by omega) (by omega) rfl ?_ | refine Ops.ldRow1 rfl rfl rfl (by assumption) (by assumption) rfl rfl ?_ | refine Cd.condF rfl (by first | rfl | assumption | (simp only [decide_eq_true_eq, decide_eq_false_iff_not, Bool.not_eq_true', Bool.not_eq_false', Bool.not_eq_eq_eq_not, Bool.not_true, Bool.not_false, beq_iff_eq, beq_eq_false_iff_ne, ne_eq, decide_eq_decide, eq_self, true_iff, iff_true, not_true_eq_false, not_false_eq_true]; first | done | omega)) ?_)
  refine Ops.stRow (rows := dks rs) (i := slot.toNat) rfl rfl rfl rfl rfl rfl hok (by rw [dks_len]; omega) (noPd rfl) ?_
  repeat' (first | refine Cd.seq ?_ | refine Cd.reg ?_ | refine Ops.nil ?_ | refine Ops.asg rfl rfl rfl rfl ?_)
  refine Cd.ret (ret1 (A' := TabB n (.slice (some ⟨g, 0, none⟩) rs.length c) [(g, cl (((dks rs).set slot.toNat [.int .i64 slot, .int .i64 life, .int .i64 session, .int .i64 0, .string ⟨#[]⟩]).flatten ++ spare) 98)]) rfl (Res.tmp rfl) (fun _ h => h) ⟨rfl, _, rfl, ?_⟩)
  have := Own.set (rows := dks rs) (spare := spare) (c := c) (g := g) (by rw [dks_len]; exact hO0) hsp (by rw [dks_len]; exact hle) (i := slot.toNat) (r := [.int .i64 slot, .int .i64 life, .int .i64 session, .int .i64 0, .string ⟨#[]⟩]) rfl rfl
  unfold OwnK dks
  rw [List.map_set]
  simpa [dks] using this
end Go.Proofs.Ytdfimjgbdipnjaa
