import Derived.Test.YtnmjdoaogdaehaaGreatA27
import Derived.Test.YtnmjdoaogdaehaaGreatA08
import Derived.Test.YtnmjdoaogdaehaaGreatA22
import Derived.Test.YtnmjdoaogdaehaaGreatA25
namespace Go.Proofs.YtnmjdoaogdaehaaGreat.Se
open Go Go.Sep Go.Proofs
set_option maxRecDepth 10000
set_option maxHeartbeats 1000000
set_option linter.unusedSimpArgs false
set_option linter.unusedVariables false
theorem hello_nohas (n : Nat) (sv : Value) (rs : List Dk) (G : List Blk) (slot life : Int) (hO : OwnK sv rs G) (hh : hasB slot rs.length = false) : Con Tryz.prog 103 #[ptr n, .int .i64 slot, .int .i64 life] (TabB n sv G) fun v A => v = .tuple #[.int .i64 0, .int .i64 0] ∧ A = TabB n sv G := by
  refine Con.intro (vs := [_, _, _]) Tryz.func103 rfl Tryz.ntmps103 rfl (fun B => ?_)
  repeat' (first | refine Cd.seq ?_ | refine Cd.reg ?_ | refine Ops.mv rfl rfl rfl rfl ?_ | refine Ops.asg rfl rfl rfl rfl ?_ | refine Cd.block ?_)
  refine Ops.call (has_spec n sv rs G slot hO) rfl (noPd rfl) rfl rfl rfl (fun v A' hR => ?_)
  obtain ⟨rfl, rfl⟩ := hR
  rw [hh]
  repeat' (first | refine Cd.seq ?_ | refine Cd.reg ?_ | refine Ops.nil ?_ | refine Ops.mv rfl rfl rfl rfl ?_ | refine Ops.asg rfl rfl rfl rfl ?_ | refine Ops.un rfl rfl rfl rfl ?_ | refine Ops.pickT rfl rfl rfl rfl rfl ?_ | refine Ops.gSkip rfl rfl rfl ?_ | refine Cd.condT rfl rfl ?_)
  exact Cd.ret (ret2 rfl (Res.tmp rfl) (Res.tmp rfl) (fun _ h => h.split) ⟨rfl, rfl⟩)
theorem hello_nocnt (n : Nat) (sv : Value) (rs : List Dk) (G : List Blk) (slot life : Int) (hO : OwnK sv rs G) (hh : hasB slot rs.length = true) (hc : cntB life = false) : Con Tryz.prog 103 #[ptr n, .int .i64 slot, .int .i64 life] (TabB n sv G) fun v A => v = .tuple #[.int .i64 0, .int .i64 0] ∧ A = TabB n sv G := by
  refine Con.intro (vs := [_, _, _]) Tryz.func103 rfl Tryz.ntmps103 rfl (fun B => ?_)
  repeat' (first | refine Cd.seq ?_ | refine Cd.reg ?_ | refine Ops.mv rfl rfl rfl rfl ?_ | refine Ops.asg rfl rfl rfl rfl ?_ | refine Cd.block ?_)
  refine Ops.call (has_spec n sv rs G slot hO) rfl (noPd rfl) rfl rfl rfl (fun v A' hR => ?_)
  obtain ⟨rfl, rfl⟩ := hR
  rw [hh]
  repeat' (first | refine Ops.mv rfl rfl rfl rfl ?_ | refine Ops.un rfl rfl rfl rfl ?_ | fail)
  refine Ops.call (counts_spec life) rfl (noPd rfl) rfl rfl rfl (fun v A' hR => ?_)
  obtain ⟨rfl, rfl⟩ := hR
  rw [hc]
  repeat' (first | refine Cd.seq ?_ | refine Cd.reg ?_ | refine Ops.nil ?_ | refine Ops.mv rfl rfl rfl rfl ?_ | refine Ops.asg rfl rfl rfl rfl ?_ | refine Ops.un rfl rfl rfl rfl ?_ | refine Ops.pickT rfl rfl rfl rfl rfl ?_ | refine Ops.pickF rfl rfl rfl rfl rfl ?_ | refine Ops.gSkip rfl rfl rfl ?_ | refine Cd.condT rfl rfl ?_)
  exact Cd.ret (ret2 rfl (Res.tmp rfl) (Res.tmp rfl) (fun _ h => h.split) ⟨rfl, rfl⟩)
theorem hello_old (n : Nat) (sv : Value) (rs : List Dk) (G : List Blk) (slot life : Int) (r : Dk) (hO : OwnK sv rs G) (hh : hasB slot rs.length = true) (hc : cntB life = true) (hr : rs[slot.toNat]? = some r) (hl : life < r.life) : Con Tryz.prog 103 #[ptr n, .int .i64 slot, .int .i64 life] (TabB n sv G) fun v A => v = .tuple #[.int .i64 0, .int .i64 0] ∧ A = TabB n sv G := by
  have hO0 := hO
  obtain ⟨h0, h1⟩ : 0 ≤ slot ∧ slot < rs.length := by simpa [hasB] using hh
  obtain ⟨g, c, spare, rfl, rfl, hsp, hle⟩ := hO.some_ (by omega)
  have hok := dks_ok rs
  have hx : (dks rs)[slot.toNat]? = some [.int .i64 r.slot, .int .i64 r.life, .int .i64 r.session, .int .i64 r.last, .string r.reply] := by simp [dks, hr]
  refine Con.intro (vs := [_, _, _]) Tryz.func103 rfl Tryz.ntmps103 rfl (fun B => ?_)
  repeat' (first | refine Cd.seq ?_ | refine Cd.reg ?_ | refine Ops.mv rfl rfl rfl rfl ?_ | refine Ops.asg rfl rfl rfl rfl ?_ | refine Cd.block ?_)
  refine Ops.call (has_spec n _ rs _ slot hO0) rfl (noPd rfl) rfl rfl rfl (fun v A' hR => ?_)
  obtain ⟨rfl, rfl⟩ := hR
  rw [hh]
  repeat' (first | refine Ops.mv rfl rfl rfl rfl ?_ | refine Ops.un rfl rfl rfl rfl ?_ | fail)
  refine Ops.call (counts_spec life) rfl (noPd rfl) rfl rfl rfl (fun v A' hR => ?_)
  obtain ⟨rfl, rfl⟩ := hR
  rw [hc]
  repeat' (first | refine Cd.seq ?_ | refine Cd.reg ?_ | refine Ops.nil ?_ | refine Ops.mv rfl rfl rfl rfl ?_ | refine Ops.asg rfl rfl rfl rfl ?_ | refine Ops.nilP rfl rfl rfl rfl ?_ | refine Ops.fa0 rfl rfl rfl rfl ?_ | refine Ops.fa rfl rfl rfl rfl ?_ | refine Ops.ld1 rfl rfl rfl rfl rfl ?_ | refine Ops.bin rfl rfl rfl rfl rfl ?_ | refine Ops.un rfl rfl rfl rfl ?_ | refine Ops.pickF rfl rfl rfl rfl rfl ?_ | refine Ops.ixa0 rfl rfl rfl rfl (by omega) (by omega) rfl ?_ | refine Ops.ldRow1 rfl rfl rfl (by assumption) (by assumption) rfl rfl ?_ | refine Cd.condT rfl (by first | rfl | assumption | (simp only [decide_eq_true_eq, decide_eq_false_iff_not, Bool.not_eq_true', Bool.not_eq_false', Bool.not_eq_eq_eq_not, Bool.not_true, Bool.not_false, beq_iff_eq, beq_eq_false_iff_ne, ne_eq, decide_eq_decide, eq_self, true_iff, iff_true, not_true_eq_false, not_false_eq_true]; first | done | omega)) ?_)
  exact Cd.ret (ret2 rfl (Res.tmp rfl) (Res.tmp rfl) (fun _ h => h.split) ⟨rfl, rfl⟩)
theorem hello_known (n : Nat) (sv : Value) (rs : List Dk) (G : List Blk) (slot life : Int) (r : Dk) (hO : OwnK sv rs G) (hh : hasB slot rs.length = true) (hc : cntB life = true) (hr : rs[slot.toNat]? = some r) (hl : r.life = life) : Con Tryz.prog 103 #[ptr n, .int .i64 slot, .int .i64 life] (TabB n sv G) fun v A => v = .tuple #[.int .i64 1, .int .i64 r.session] ∧ A = TabB n sv G := by
  have hO0 := hO
  obtain ⟨h0, h1⟩ : 0 ≤ slot ∧ slot < rs.length := by simpa [hasB] using hh
  obtain ⟨g, c, spare, rfl, rfl, hsp, hle⟩ := hO.some_ (by omega)
  have hok := dks_ok rs
  have hx : (dks rs)[slot.toNat]? = some [.int .i64 r.slot, .int .i64 r.life, .int .i64 r.session, .int .i64 r.last, .string r.reply] := by simp [dks, hr]
  refine Con.intro (vs := [_, _, _]) Tryz.func103 rfl Tryz.ntmps103 rfl (fun B => ?_)
  repeat' (first | refine Cd.seq ?_ | refine Cd.reg ?_ | refine Ops.mv rfl rfl rfl rfl ?_ | refine Ops.asg rfl rfl rfl rfl ?_ | refine Cd.block ?_)
  refine Ops.call (has_spec n _ rs _ slot hO0) rfl (noPd rfl) rfl rfl rfl (fun v A' hR => ?_)
  obtain ⟨rfl, rfl⟩ := hR
  rw [hh]
  repeat' (first | refine Ops.mv rfl rfl rfl rfl ?_ | refine Ops.un rfl rfl rfl rfl ?_ | fail)
  refine Ops.call (counts_spec life) rfl (noPd rfl) rfl rfl rfl (fun v A' hR => ?_)
  obtain ⟨rfl, rfl⟩ := hR
  rw [hc]
  repeat' (first | refine Cd.seq ?_ | refine Cd.reg ?_ | refine Ops.nil ?_ | refine Ops.mv rfl rfl rfl rfl ?_ | refine Ops.asg rfl rfl rfl rfl ?_ | refine Ops.nilP rfl rfl rfl rfl ?_ | refine Ops.fa0 rfl rfl rfl rfl ?_ | refine Ops.fa rfl rfl rfl rfl ?_ | refine Ops.ld1 rfl rfl rfl rfl rfl ?_ | refine Ops.bin rfl rfl rfl rfl rfl ?_ | refine Ops.un rfl rfl rfl rfl ?_ | refine Ops.pickF rfl rfl rfl rfl rfl ?_ | refine Ops.ixa0 rfl rfl rfl rfl (by omega) (by omega) rfl ?_ | refine Ops.ldRow1 rfl rfl rfl (by assumption) (by assumption) rfl rfl ?_ | refine Cd.condT rfl (by first | rfl | assumption | (simp only [decide_eq_true_eq, decide_eq_false_iff_not, Bool.not_eq_true', Bool.not_eq_false', Bool.not_eq_eq_eq_not, Bool.not_true, Bool.not_false, beq_iff_eq, beq_eq_false_iff_ne, ne_eq, decide_eq_decide, eq_self, true_iff, iff_true, not_true_eq_false, not_false_eq_true]; first | done | omega)) ?_ | refine Cd.condF rfl (by first | rfl | assumption | (simp only [decide_eq_true_eq, decide_eq_false_iff_not, Bool.not_eq_true', Bool.not_eq_false', Bool.not_eq_eq_eq_not, Bool.not_true, Bool.not_false, beq_iff_eq, beq_eq_false_iff_ne, ne_eq, decide_eq_decide, eq_self, true_iff, iff_true, not_true_eq_false, not_false_eq_true]; first | done | omega)) ?_)
  refine Cd.draw [(0, 0, []), (1, 0, []), (2, 0, []), (3, 1, []), (4, 0, []), (5, 0, []), (6, 0, []), (7, 1, []), (8, 0, []), (9, 0, [])] (by kernel_rfl) (by kernel_rfl) (by simp only [picked, nth]; exact rfl) ?_
  repeat' (first | refine Ops.nil ?_ | refine Ops.mv rfl rfl rfl rfl ?_ | refine Ops.asg rfl rfl rfl rfl ?_ | refine Ops.nilP rfl rfl rfl rfl ?_ | refine Ops.fa0 rfl rfl rfl rfl ?_ | refine Ops.fa rfl rfl rfl rfl ?_ | refine Ops.ld1 rfl rfl rfl rfl rfl ?_ | refine Ops.ixa0 rfl rfl rfl rfl (by omega) (by omega) rfl ?_ | refine Ops.ldRow1 rfl rfl rfl (by assumption) (by assumption) rfl rfl ?_ | fail)
  exact Cd.ret (ret2 rfl (Res.tmp rfl) (Res.tmp rfl) (fun _ h => h.split) ⟨rfl, rfl⟩)
theorem hello_fresh (n : Nat) (sv : Value) (rs : List Dk) (G : List Blk) (slot life : Int) (r : Dk) (hO : OwnK sv rs G) (hh : hasB slot rs.length = true) (hc : cntB life = true) (hr : rs[slot.toNat]? = some r) (hl : r.life < life) : Con Tryz.prog 103 #[ptr n, .int .i64 slot, .int .i64 life] (TabB n sv G) fun v A => v = .tuple #[.int .i64 2, .int .i64 0] ∧ A = TabB n sv G := by
  have hO0 := hO
  obtain ⟨h0, h1⟩ : 0 ≤ slot ∧ slot < rs.length := by simpa [hasB] using hh
  obtain ⟨g, c, spare, rfl, rfl, hsp, hle⟩ := hO.some_ (by omega)
  have hok := dks_ok rs
  have hx : (dks rs)[slot.toNat]? = some [.int .i64 r.slot, .int .i64 r.life, .int .i64 r.session, .int .i64 r.last, .string r.reply] := by simp [dks, hr]
  refine Con.intro (vs := [_, _, _]) Tryz.func103 rfl Tryz.ntmps103 rfl (fun B => ?_)
  repeat' (first | refine Cd.seq ?_ | refine Cd.reg ?_ | refine Ops.mv rfl rfl rfl rfl ?_ | refine Ops.asg rfl rfl rfl rfl ?_ | refine Cd.block ?_)
  refine Ops.call (has_spec n _ rs _ slot hO0) rfl (noPd rfl) rfl rfl rfl (fun v A' hR => ?_)
  obtain ⟨rfl, rfl⟩ := hR
  rw [hh]
  repeat' (first | refine Ops.mv rfl rfl rfl rfl ?_ | refine Ops.un rfl rfl rfl rfl ?_ | fail)
  refine Ops.call (counts_spec life) rfl (noPd rfl) rfl rfl rfl (fun v A' hR => ?_)
  obtain ⟨rfl, rfl⟩ := hR
  rw [hc]
  repeat' (first | refine Cd.seq ?_ | refine Cd.reg ?_ | refine Ops.nil ?_ | refine Ops.mv rfl rfl rfl rfl ?_ | refine Ops.asg rfl rfl rfl rfl ?_ | refine Ops.nilP rfl rfl rfl rfl ?_ | refine Ops.fa0 rfl rfl rfl rfl ?_ | refine Ops.fa rfl rfl rfl rfl ?_ | refine Ops.ld1 rfl rfl rfl rfl rfl ?_ | refine Ops.bin rfl rfl rfl rfl rfl ?_ | refine Ops.un rfl rfl rfl rfl ?_ | refine Ops.pickF rfl rfl rfl rfl rfl ?_ | refine Cd.skip (Cd.next (Q' := fun _ _ _ => True) ?_) | refine Ops.ixa0 rfl rfl rfl rfl (by omega) (by omega) rfl ?_ | refine Ops.ldRow1 rfl rfl rfl (by assumption) (by assumption) rfl rfl ?_ | refine Cd.condF rfl (by first | rfl | assumption | (simp only [decide_eq_true_eq, decide_eq_false_iff_not, Bool.not_eq_true', Bool.not_eq_false', Bool.not_eq_eq_eq_not, Bool.not_true, Bool.not_false, beq_iff_eq, beq_eq_false_iff_ne, ne_eq, decide_eq_decide, eq_self, true_iff, iff_true, not_true_eq_false, not_false_eq_true]; first | done | omega)) ?_)
  exact Cd.ret (ret2 rfl (Res.tmp rfl) (Res.tmp rfl) (fun _ h => h.split) ⟨rfl, rfl⟩)
theorem open_nohas (n : Nat) (sv : Value) (rs : List Dk) (G : List Blk) (slot life session : Int) (hO : OwnK sv rs G) (hh : hasB slot rs.length = false) : Con Tryz.prog 106 #[ptr n, .int .i64 slot, .int .i64 life, .int .i64 session] (TabB n sv G) fun v A => v = .int .i64 130 ∧ A = TabB n sv G := by
  refine Con.intro (vs := [_, _, _, _]) Tryz.func106 rfl Tryz.ntmps106 rfl (fun B => ?_)
  repeat' (first | refine Cd.seq ?_ | refine Cd.reg ?_ | refine Ops.mv rfl rfl rfl rfl ?_ | refine Ops.asg rfl rfl rfl rfl ?_ | refine Cd.block ?_)
  refine Ops.call (has_spec n sv rs G slot hO) rfl (noPd rfl) rfl rfl rfl (fun v A' hR => ?_)
  obtain ⟨rfl, rfl⟩ := hR
  rw [hh]
  repeat' (first | refine Cd.seq ?_ | refine Cd.reg ?_ | refine Ops.nil ?_ | refine Ops.asg rfl rfl rfl rfl ?_ | refine Ops.un rfl rfl rfl rfl ?_ | refine Cd.condT rfl rfl ?_)
  exact Cd.ret (ret1 rfl (Res.tmp rfl) (fun _ h => h.split) ⟨rfl, rfl⟩)
theorem open_nolife (n : Nat) (sv : Value) (rs : List Dk) (G : List Blk) (slot life session : Int) (hO : OwnK sv rs G) (hh : hasB slot rs.length = true) (hc : cntB life = false) : Con Tryz.prog 106 #[ptr n, .int .i64 slot, .int .i64 life, .int .i64 session] (TabB n sv G) fun v A => v = .int .i64 132 ∧ A = TabB n sv G := by
  refine Con.intro (vs := [_, _, _, _]) Tryz.func106 rfl Tryz.ntmps106 rfl (fun B => ?_)
  repeat' (first | refine Cd.seq ?_ | refine Cd.reg ?_ | refine Ops.mv rfl rfl rfl rfl ?_ | refine Ops.asg rfl rfl rfl rfl ?_ | refine Cd.block ?_)
  refine Ops.call (has_spec n sv rs G slot hO) rfl (noPd rfl) rfl rfl rfl (fun v A' hR => ?_)
  obtain ⟨rfl, rfl⟩ := hR
  rw [hh]
  repeat' (first | refine Cd.seq ?_ | refine Cd.reg ?_ | refine Ops.nil ?_ | refine Ops.mv rfl rfl rfl rfl ?_ | refine Ops.asg rfl rfl rfl rfl ?_ | refine Ops.un rfl rfl rfl rfl ?_ | refine Cd.condF rfl rfl ?_)
  refine Ops.call (counts_spec life) rfl (noPd rfl) rfl rfl rfl (fun v A' hR => ?_)
  obtain ⟨rfl, rfl⟩ := hR
  rw [hc]
  repeat' (first | refine Cd.seq ?_ | refine Cd.reg ?_ | refine Ops.nil ?_ | refine Ops.mv rfl rfl rfl rfl ?_ | refine Ops.asg rfl rfl rfl rfl ?_ | refine Ops.un rfl rfl rfl rfl ?_ | refine Ops.pickT rfl rfl rfl rfl rfl ?_ | refine Ops.gSkip rfl rfl rfl ?_ | refine Cd.condT rfl rfl ?_)
  exact Cd.ret (ret1 rfl (Res.tmp rfl) (fun _ h => h.split) ⟨rfl, rfl⟩)
theorem open_nosess (n : Nat) (sv : Value) (rs : List Dk) (G : List Blk) (slot life session : Int) (hO : OwnK sv rs G) (hh : hasB slot rs.length = true) (hc : cntB life = true) (hd : cntB session = false) : Con Tryz.prog 106 #[ptr n, .int .i64 slot, .int .i64 life, .int .i64 session] (TabB n sv G) fun v A => v = .int .i64 132 ∧ A = TabB n sv G := by
  refine Con.intro (vs := [_, _, _, _]) Tryz.func106 rfl Tryz.ntmps106 rfl (fun B => ?_)
  repeat' (first | refine Cd.seq ?_ | refine Cd.reg ?_ | refine Ops.mv rfl rfl rfl rfl ?_ | refine Ops.asg rfl rfl rfl rfl ?_ | refine Cd.block ?_)
  refine Ops.call (has_spec n sv rs G slot hO) rfl (noPd rfl) rfl rfl rfl (fun v A' hR => ?_)
  obtain ⟨rfl, rfl⟩ := hR
  rw [hh]
  repeat' (first | refine Cd.seq ?_ | refine Cd.reg ?_ | refine Ops.nil ?_ | refine Ops.mv rfl rfl rfl rfl ?_ | refine Ops.asg rfl rfl rfl rfl ?_ | refine Ops.un rfl rfl rfl rfl ?_ | refine Cd.condF rfl rfl ?_)
  refine Ops.call (counts_spec life) rfl (noPd rfl) rfl rfl rfl (fun v A' hR => ?_)
  obtain ⟨rfl, rfl⟩ := hR
  rw [hc]
  repeat' (first | refine Ops.mv rfl rfl rfl rfl ?_ | refine Ops.un rfl rfl rfl rfl ?_ | fail)
  refine Ops.call (counts_spec session) rfl (noPd rfl) rfl rfl rfl (fun v A' hR => ?_)
  obtain ⟨rfl, rfl⟩ := hR
  rw [hd]
  repeat' (first | refine Cd.seq ?_ | refine Cd.reg ?_ | refine Ops.nil ?_ | refine Ops.mv rfl rfl rfl rfl ?_ | refine Ops.asg rfl rfl rfl rfl ?_ | refine Ops.un rfl rfl rfl rfl ?_ | refine Ops.pickT rfl rfl rfl rfl rfl ?_ | refine Ops.pickF rfl rfl rfl rfl rfl ?_ | refine Ops.gSkip rfl rfl rfl ?_ | refine Cd.condT rfl rfl ?_)
  exact Cd.ret (ret1 rfl (Res.tmp rfl) (fun _ h => h.split) ⟨rfl, rfl⟩)
theorem open_old (n : Nat) (sv : Value) (rs : List Dk) (G : List Blk) (slot life session : Int) (r : Dk) (hO : OwnK sv rs G) (hh : hasB slot rs.length = true) (hc : cntB life = true) (hd : cntB session = true) (hr : rs[slot.toNat]? = some r) (hl : life < r.life) : Con Tryz.prog 106 #[ptr n, .int .i64 slot, .int .i64 life, .int .i64 session] (TabB n sv G) fun v A => v = .int .i64 132 ∧ A = TabB n sv G := by
  have hO0 := hO
  obtain ⟨h0, h1⟩ : 0 ≤ slot ∧ slot < rs.length := by simpa [hasB] using hh
  obtain ⟨g, c, spare, rfl, rfl, hsp, hle⟩ := hO.some_ (by omega)
  have hok := dks_ok rs
  have hx : (dks rs)[slot.toNat]? = some [.int .i64 r.slot, .int .i64 r.life, .int .i64 r.session, .int .i64 r.last, .string r.reply] := by simp [dks, hr]
  refine Con.intro (vs := [_, _, _, _]) Tryz.func106 rfl Tryz.ntmps106 rfl (fun B => ?_)
  repeat' (first | refine Cd.seq ?_ | refine Cd.reg ?_ | refine Ops.mv rfl rfl rfl rfl ?_ | refine Ops.asg rfl rfl rfl rfl ?_ | refine Cd.block ?_)
  refine Ops.call (has_spec n _ rs _ slot hO0) rfl (noPd rfl) rfl rfl rfl (fun v A' hR => ?_)
  obtain ⟨rfl, rfl⟩ := hR
  rw [hh]
  repeat' (first | refine Cd.seq ?_ | refine Cd.reg ?_ | refine Ops.nil ?_ | refine Ops.mv rfl rfl rfl rfl ?_ | refine Ops.asg rfl rfl rfl rfl ?_ | refine Ops.un rfl rfl rfl rfl ?_ | refine Cd.condF rfl rfl ?_)
  refine Ops.call (counts_spec life) rfl (noPd rfl) rfl rfl rfl (fun v A' hR => ?_)
  obtain ⟨rfl, rfl⟩ := hR
  rw [hc]
  repeat' (first | refine Ops.mv rfl rfl rfl rfl ?_ | refine Ops.un rfl rfl rfl rfl ?_ | fail)
  refine Ops.call (counts_spec session) rfl (noPd rfl) rfl rfl rfl (fun v A' hR => ?_)
  obtain ⟨rfl, rfl⟩ := hR
  rw [hd]
  repeat' (first | refine Cd.seq ?_ | refine Cd.reg ?_ | refine Ops.nil ?_ | refine Ops.mv rfl rfl rfl rfl ?_ | refine Ops.asg rfl rfl rfl rfl ?_ | refine Ops.nilP rfl rfl rfl rfl ?_ | refine Ops.fa0 rfl rfl rfl rfl ?_ | refine Ops.fa rfl rfl rfl rfl ?_ | refine Ops.ld1 rfl rfl rfl rfl rfl ?_ | refine Ops.bin rfl rfl rfl rfl rfl ?_ | refine Ops.un rfl rfl rfl rfl ?_ | refine Ops.pickF rfl rfl rfl rfl rfl ?_ | refine Ops.ixa0 rfl rfl rfl rfl (by omega) (by omega) rfl ?_ | refine Ops.ldRow1 rfl rfl rfl (by assumption) (by assumption) rfl rfl ?_ | refine Cd.condT rfl (by first | rfl | assumption | (simp only [decide_eq_true_eq, decide_eq_false_iff_not, Bool.not_eq_true', Bool.not_eq_false', Bool.not_eq_eq_eq_not, Bool.not_true, Bool.not_false, beq_iff_eq, beq_eq_false_iff_ne, ne_eq, decide_eq_decide, eq_self, true_iff, iff_true, not_true_eq_false, not_false_eq_true]; first | done | omega)) ?_)
  exact Cd.ret (ret1 rfl (Res.tmp rfl) (fun _ h => h.split) ⟨rfl, rfl⟩)
theorem open_ok (n : Nat) (sv : Value) (rs : List Dk) (G : List Blk) (slot life session : Int) (r : Dk) (hO : OwnK sv rs G) (hh : hasB slot rs.length = true) (hc : cntB life = true) (hd : cntB session = true) (hr : rs[slot.toNat]? = some r) (hl : r.life ≤ life) : Con Tryz.prog 106 #[ptr n, .int .i64 slot, .int .i64 life, .int .i64 session] (TabB n sv G) fun v A => v = .int .i64 0 ∧ ∃ G', A = TabB n sv G' ∧ OwnK sv (rs.set slot.toNat ⟨slot, life, session, 0, ⟨#[]⟩⟩) G' := by
  have hO0 := hO
  obtain ⟨h0, h1⟩ : 0 ≤ slot ∧ slot < rs.length := by simpa [hasB] using hh
  obtain ⟨g, c, spare, rfl, rfl, hsp, hle⟩ := hO.some_ (by omega)
  have hok := dks_ok rs
  have hx : (dks rs)[slot.toNat]? = some [.int .i64 r.slot, .int .i64 r.life, .int .i64 r.session, .int .i64 r.last, .string r.reply] := by simp [dks, hr]
  refine Con.intro (vs := [_, _, _, _]) Tryz.func106 rfl Tryz.ntmps106 rfl (fun B => ?_)
  repeat' (first | refine Cd.seq ?_ | refine Cd.reg ?_ | refine Ops.mv rfl rfl rfl rfl ?_ | refine Ops.asg rfl rfl rfl rfl ?_ | refine Cd.block ?_)
  refine Ops.call (has_spec n _ rs _ slot hO0) rfl (noPd rfl) rfl rfl rfl (fun v A' hR => ?_)
  obtain ⟨rfl, rfl⟩ := hR
  rw [hh]
  repeat' (first | refine Cd.seq ?_ | refine Cd.reg ?_ | refine Ops.nil ?_ | refine Ops.mv rfl rfl rfl rfl ?_ | refine Ops.asg rfl rfl rfl rfl ?_ | refine Ops.un rfl rfl rfl rfl ?_ | refine Cd.condF rfl rfl ?_)
  refine Ops.call (counts_spec life) rfl (noPd rfl) rfl rfl rfl (fun v A' hR => ?_)
  obtain ⟨rfl, rfl⟩ := hR
  rw [hc]
  repeat' (first | refine Ops.mv rfl rfl rfl rfl ?_ | refine Ops.un rfl rfl rfl rfl ?_ | fail)
  refine Ops.call (counts_spec session) rfl (noPd rfl) rfl rfl rfl (fun v A' hR => ?_)
  obtain ⟨rfl, rfl⟩ := hR
  rw [hd]
  repeat' (first | refine Cd.seq ?_ | refine Cd.reg ?_ | refine Ops.nil ?_ | refine Ops.mv rfl rfl rfl rfl ?_ | refine Ops.asg rfl rfl rfl rfl ?_ | refine Ops.nilP rfl rfl rfl rfl ?_ | refine Ops.fa0 rfl rfl rfl rfl ?_ | refine Ops.fa rfl rfl rfl rfl ?_ | refine Ops.ld1 rfl rfl rfl rfl rfl ?_ | refine Ops.bin rfl rfl rfl rfl rfl ?_ | refine Ops.un rfl rfl rfl rfl ?_ | refine Ops.pickF rfl rfl rfl rfl rfl ?_ | refine Ops.bld rfl rfl rfl rfl ?_ | refine Cd.skip (Cd.next (Q' := fun _ _ _ => True) ?_) | refine Ops.ixa0 rfl rfl rfl rfl (by omega) (by omega) rfl ?_ | refine Ops.ldRow1 rfl rfl rfl (by assumption) (by assumption) rfl rfl ?_ | refine Cd.condF rfl (by first | rfl | assumption | (simp only [decide_eq_true_eq, decide_eq_false_iff_not, Bool.not_eq_true', Bool.not_eq_false', Bool.not_eq_eq_eq_not, Bool.not_true, Bool.not_false, beq_iff_eq, beq_eq_false_iff_ne, ne_eq, decide_eq_decide, eq_self, true_iff, iff_true, not_true_eq_false, not_false_eq_true]; first | done | omega)) ?_)
  refine Ops.stRow (rows := dks rs) (i := slot.toNat) rfl rfl rfl rfl rfl rfl hok (by rw [dks_len]; omega) (noPd rfl) ?_
  repeat' (first | refine Cd.seq ?_ | refine Cd.reg ?_ | refine Ops.nil ?_ | refine Ops.asg rfl rfl rfl rfl ?_)
  refine Cd.ret (ret1 (A' := TabB n (.slice (some ⟨g, 0, none⟩) rs.length c) [(g, cl (((dks rs).set slot.toNat [.int .i64 slot, .int .i64 life, .int .i64 session, .int .i64 0, .string ⟨#[]⟩]).flatten ++ spare) 247)]) rfl (Res.tmp rfl) (fun _ h => h) ⟨rfl, _, rfl, ?_⟩)
  have := Own.set (rows := dks rs) (spare := spare) (c := c) (g := g) (by rw [dks_len]; exact hO0) hsp (by rw [dks_len]; exact hle) (i := slot.toNat) (r := [.int .i64 slot, .int .i64 life, .int .i64 session, .int .i64 0, .string ⟨#[]⟩]) rfl rfl
  unfold OwnK dks
  rw [List.map_set]
  simpa [dks] using this
end Go.Proofs.YtnmjdoaogdaehaaGreat.Se
namespace Go.Proofs.YtnmjdoaogdaehaaGreat.Se
open Go Go.Sep Go.Proofs
set_option maxRecDepth 10000
set_option maxHeartbeats 1000000
set_option linter.unusedSimpArgs false
set_option linter.unusedVariables false
end Go.Proofs.YtnmjdoaogdaehaaGreat.Se
namespace Go.Proofs.YtnmjdoaogdaehaaGreat.Se
open Go Go.Sep Go.Proofs
set_option maxRecDepth 10000
set_option maxHeartbeats 1000000
set_option linter.unusedSimpArgs false
set_option linter.unusedVariables false
/-- The row of a slot, if there is such a slot. -/
def rowAt (rs : List Dk) (slot : Int) : Option Dk := if hasB slot rs.length then rs[slot.toNat]? else none
def RowsI (rs : List Dk) : Prop := ∀ r ∈ rs, 0 ≤ r.last ∧ r.last ≤ 1099511627776
theorem rowAt_some {rs : List Dk} {slot : Int} {r : Dk} (h : rowAt rs slot = some r) : hasB slot rs.length = true ∧ rs[slot.toNat]? = some r := by
  unfold rowAt at h
  split at h
  · rename_i hb; exact ⟨hb, h⟩
  · cases h
theorem rowAt_none {rs : List Dk} {slot : Int} (h : rowAt rs slot = none) : hasB slot rs.length = false := by
  unfold rowAt at h
  split at h
  · rename_i hb
    have : 0 ≤ slot ∧ slot < rs.length := by simpa [hasB] using hb
    rw [List.getElem?_eq_none_iff] at h
    omega
  · rename_i hb; simpa using hb
theorem RowsI.set {rs : List Dk} {i : Nat} {r : Dk} (h : RowsI rs) (h0 : 0 ≤ r.last) (h1 : r.last ≤ 1099511627776) : RowsI (rs.set i r) := fun x hx => by
  rcases List.mem_or_eq_of_mem_set hx with hx | hx
  · exact h x hx
  · subst hx; exact ⟨h0, h1⟩
theorem RowsI.fresh (k : Nat) : RowsI (fresh k) := fun r hr => by
  obtain ⟨i, _, rfl⟩ := List.mem_map.1 hr
  exact ⟨Int.le_refl _, by show (0 : Int) ≤ 1099511627776; omega⟩
def helloV (o : Option Dk) (life : Int) : Int × Int := match o with
  | none => (0, 0)
  | some r => if cntB life then (if life < r.life then (0, 0) else if r.life = life then (1, r.session) else (2, 0)) else (0, 0)
/-- What Open makes of a row. -/
def openV (o : Option Dk) (slot life session : Int) : Option Dk := match o with
  | none => none
  | some r => if cntB life = true ∧ cntB session = true ∧ r.life ≤ life then some ⟨slot, life, session, 0, ⟨#[]⟩⟩ else none
/-- A row is written, if there is one. -/
def putRow (rs : List Dk) (slot : Int) (n : Option Dk) : List Dk := match n with
  | none => rs
  | some r => rs.set slot.toNat r
theorem hello_fun (n : Nat) (sv : Value) (rs : List Dk) (G : List Blk) (slot life : Int) (hO : OwnK sv rs G) : Con Tryz.prog 103 #[ptr n, .int .i64 slot, .int .i64 life] (TabB n sv G) fun v A => v = .tuple #[.int .i64 (helloV (rowAt rs slot) life).1, .int .i64 (helloV (rowAt rs slot) life).2] ∧ A = TabB n sv G := by
  cases h : rowAt rs slot with
  | none => exact hello_nohas n sv rs G slot life hO (rowAt_none h)
  | some r =>
    obtain ⟨hh, hr⟩ := rowAt_some h
    unfold helloV
    dsimp only
    by_cases hc : cntB life = true
    · rw [if_pos hc]
      by_cases h1 : life < r.life
      · rw [if_pos h1]; exact hello_old n sv rs G slot life r hO hh hc hr h1
      · rw [if_neg h1]
        by_cases h2 : r.life = life
        · rw [if_pos h2]; exact hello_known n sv rs G slot life r hO hh hc hr h2
        · rw [if_neg h2]; exact hello_fresh n sv rs G slot life r hO hh hc hr (by omega)
    · rw [if_neg hc]; exact hello_nocnt n sv rs G slot life hO hh (by simpa using hc)
theorem open_fun (n : Nat) (sv : Value) (rs : List Dk) (G : List Blk) (slot life session : Int) (hO : OwnK sv rs G) : Con Tryz.prog 106 #[ptr n, .int .i64 slot, .int .i64 life, .int .i64 session] (TabB n sv G) fun v A => (∃ x, v = .int .i64 x) ∧ ∃ G', A = TabB n sv G' ∧ OwnK sv (putRow rs slot (openV (rowAt rs slot) slot life session)) G' := by
  cases h : rowAt rs slot with
  | none => exact (open_nohas n sv rs G slot life session hO (rowAt_none h)).mono fun v A ⟨e, h⟩ => ⟨⟨_, e⟩, G, h, hO⟩
  | some r =>
    obtain ⟨hh, hr⟩ := rowAt_some h
    unfold openV
    dsimp only
    by_cases hc : cntB life = true
    · by_cases hd : cntB session = true
      · by_cases h1 : r.life ≤ life
        · rw [if_pos ⟨hc, hd, h1⟩]; exact (open_ok n sv rs G slot life session r hO hh hc hd hr h1).mono fun v A ⟨e, h⟩ => ⟨⟨_, e⟩, h⟩
        · rw [if_neg (by simp [h1])]; exact (open_old n sv rs G slot life session r hO hh hc hd hr (by omega)).mono fun v A ⟨e, h⟩ => ⟨⟨_, e⟩, G, h, hO⟩
      · rw [if_neg (by simp [hd])]; exact (open_nosess n sv rs G slot life session hO hh hc (by simpa using hd)).mono fun v A ⟨e, h⟩ => ⟨⟨_, e⟩, G, h, hO⟩
    · rw [if_neg (by simp [hc])]; exact (open_nolife n sv rs G slot life session hO hh (by simpa using hc)).mono fun v A ⟨e, h⟩ => ⟨⟨_, e⟩, G, h, hO⟩
end Go.Proofs.YtnmjdoaogdaehaaGreat.Se
namespace Go.Proofs.YtnmjdoaogdaehaaGreat
open Go Go.Sep Go.Proofs
set_option maxRecDepth 10000
set_option maxHeartbeats 40000000
set_option synthInstance.maxSize 2000
set_option linter.unusedSimpArgs false
set_option linter.unusedVariables false
/-! a coordinator begins -/
@[reducible] def CoB (xb lb tb cb mb db wb sb : Nat) (c : Cf) (tv : Value) (dead : Bool) : Blk :=
  (xb, cl [ptr lb, ptr tb, ptr cb, .map (some mb), .int .i64 c.runners, .int .i64 c.lease, .int .i64 c.resend, .int .i64 c.attempts, .int .i64 c.window, .int .i64 c.quantum, .int .i64 c.block, .int .i64 c.every, .int .i64 c.half, ptr db, ptr wb, ptr sb, tv, .bool dead] 77)
theorem newt_int (r : Int) (h1 : 1 ≤ r) (h2 : r ≤ 8) : Con Tryz.prog 79 #[.int .i64 r] [] fun v A => ∃ b sv G, v = .tuple #[ptr b, .int .i64 0] ∧ A = Se.TabB b sv G ∧ Se.OwnK sv (Se.fresh r.toNat) G := by
  obtain ⟨n, rfl⟩ := Int.eq_ofNat_of_zero_le (show 0 ≤ r by omega)
  exact Se.newt_yes n (by omega) (by omega)
theorem begun_spec (c : Cf) (hc : CfOk c) (r : Int) (h0 : 0 ≤ r) (h1 : r ≤ 1099511627776) : Con Tryz.prog 42 #[.agg c.row.toArray, .int .i64 r] [] fun v A => ∃ lb lm tb sv G cb mb, v = .agg [ptr lb, ptr tb, ptr cb, .map (some mb)].toArray ∧ A = Ls.TB lb lm c.lease [] 0 ++ (Se.TabB tb sv G ++ [CtB cb c.block r r, (mb, mpo [] 0)]) ∧ Se.OwnK sv (Se.fresh c.runners.toNat) G := by
  obtain ⟨⟨a1, a2⟩, ⟨b1, b2⟩, _, _, _, _, ⟨g1, g2⟩, _, _⟩ := hc
  refine Con.intro (vs := [_, _]) Tryz.func42 rfl Tryz.ntmps42 rfl (fun B => ?_)
  repeat' (first | refine Cd.seq ?_ | refine Cd.reg ?_ | refine Ops.fa0 rfl rfl rfl rfl ?_ | refine Ops.ld1 rfl rfl rfl rfl rfl ?_ | refine Ops.box rfl rfl rfl rfl (noPd rfl) (fun b => ?_) | refine Ops.alloc rfl rfl rfl (noPd rfl) (fun b => ?_))
  refine Ops.call (Ls.new_yes c.lease b1 b2) rfl (noPd rfl) rfl rfl rfl (fun v A' hR => ?_)
  obtain ⟨lb, lm, rfl, rfl⟩ := hR
  repeat' (first | refine Cd.seq ?_ | refine Cd.reg ?_ | refine Ops.mv rfl rfl rfl rfl ?_ | refine Ops.fa0 rfl rfl rfl rfl ?_ | refine Ops.ld1 rfl rfl rfl rfl rfl ?_ | refine Ops.ext rfl rfl rfl rfl rfl ?_ | refine Ops.st1 rfl rfl rfl rfl rfl (noPd rfl) ?_)
  refine Ops.call (newt_int c.runners a1 a2) rfl (noPd rfl) rfl rfl rfl (fun v A' hR => ?_)
  obtain ⟨tb, sv, G, rfl, rfl, hO⟩ := hR
  repeat' (first | refine Cd.seq ?_ | refine Cd.reg ?_ | refine Ops.mv rfl rfl rfl rfl ?_ | refine Ops.fa0 rfl rfl rfl rfl ?_ | refine Ops.ld1 rfl rfl rfl rfl rfl ?_ | refine Ops.ext rfl rfl rfl rfl rfl ?_ | refine Ops.st1 rfl rfl rfl rfl rfl (noPd rfl) ?_)
  refine Ops.call (bnew_yes c.block r g1 g2 h0 h1) rfl (noPd rfl) rfl rfl rfl (fun v A' hR => ?_)
  obtain ⟨cb, rfl, rfl⟩ := hR
  repeat' (first | refine Ops.mkM rfl rfl rfl (noPd rfl) (fun b => ?_) | refine Cd.seq ?_ | refine Cd.reg ?_ | refine Ops.nil ?_ | refine Ops.mv rfl rfl rfl rfl ?_ | refine Ops.fa0 rfl rfl rfl rfl ?_ | refine Ops.ldN rfl rfl rfl rfl ?_ | refine Ops.ext rfl rfl rfl rfl rfl ?_ | refine Ops.st1 rfl rfl rfl rfl rfl (noPd rfl) ?_ | refine Ops.stN rfl rfl rfl rfl rfl rfl (noPd rfl) ?_)
  rename Nat => mb
  exact Cd.ret (ret1 (A' := Ls.TB lb lm c.lease [] 0 ++ (Se.TabB tb sv G ++ [CtB cb c.block r r, (mb, mpo [] 0)])) rfl (Res.cellN rfl) (fun _ h => h.split) ⟨lb, lm, tb, sv, G, cb, mb, rfl, rfl, hO⟩)
/-- Behind New and Open: nothing is there yet but the log. -/
theorem loaded_new (B0 : Base) (n : Int) (h1 : 1 ≤ n) (h2 : n ≤ 8) (a : Option Addr) (c : Nat) : ConB Tryz.prog B0 39 #[.int .i64 n, .string ⟨#[]⟩, .slice a 0 c] [] fun v A => ∃ sb, v = ptr sb ∧ StA sb ⟨n, [], 0, [], []⟩ A := by
  refine ConB.intro (vs := [_, _, _]) Tryz.func39 rfl Tryz.ntmps39 rfl (fun B hB => ?_)
  repeat' (first | refine Cd.seq ?_ | refine Cd.reg ?_ | refine Ops.mv rfl rfl rfl rfl ?_ | refine Ops.asg rfl rfl rfl rfl ?_)
  refine Ops.call (snew_yes n h1 h2) rfl (noPd rfl) rfl rfl rfl (fun v A' hR => ?_)
  obtain ⟨sb, qb, rfl, rfl⟩ := hR
  repeat' (first | refine Cd.seq ?_ | refine Cd.reg ?_ | refine Ops.nil ?_ | refine Ops.mv rfl rfl rfl rfl ?_ | refine Ops.asg rfl rfl rfl rfl ?_ | refine Ops.lenS rfl rfl rfl rfl ?_ | refine Ops.bin rfl rfl rfl rfl rfl ?_ | refine Ops.ext rfl rfl rfl rfl rfl ?_ | refine Cd.condF rfl rfl ?_ | refine Cd.block ?_ | refine Cd.skip (Cd.next ?_))
  refine Cd.loopK (σ := Unit) (fun _ => True) (fun _ => [(7, ptr sb), (31, .int .i64 0), (32, .int .i64 0)]) (fun _ => [StB sb qb 0 (.slice none 0 0) (.slice none 0 0), QuB qb n (.slice none 0 0)]) (fun _ => 0) () trivial ⟨rfl, rfl, rfl, trivial⟩ (fun w h => h.split) (fun _ _ => ?_)
  repeat' (first | refine Cd.seq ?_ | refine Cd.reg ?_ | refine Ops.nil ?_ | refine Ops.mv rfl rfl rfl rfl ?_ | refine Ops.asg rfl rfl rfl rfl ?_ | refine Ops.bin rfl rfl rfl rfl rfl ?_ | refine Cd.condF rfl rfl ?_ | refine Cd.exit (Cd.next (Q' := fun _ _ _ => True) ?_))
  exact Cd.ret (ret1 (A' := [StB sb qb 0 (.slice none 0 0) (.slice none 0 0), QuB qb n (.slice none 0 0)]) rfl (Res.tmp rfl) (fun _ h => h.split) ⟨sb, rfl, qb, .slice none 0 0, [], .slice none 0 0, [], .slice none 0 0, [], [], rfl, Own.none, Own.none, Own.none, fun x hx => (by cases hx), rfl⟩)
theorem stOk_new {n : Int} (h1 : 1 ≤ n) (h2 : n ≤ 8) : StOk ⟨n, [], 0, [], []⟩ := ⟨h1, h2, by simp, rfl, rfl, fun l h => (by cases h), fun i r h => (by cases h)⟩
theorem view_own (B0 : Base) (sb : Nat) (s : StP) (D : List Blk) (hD : StA sb s D) (ok : StOk s) : ConB Tryz.prog B0 44 #[ptr sb] D fun v X => ∃ A', ViewA v s A' ∧ X = A' ++ D :=
  ConB.lend (A1 := []) fun B1 e hG => view_spec B1 sb s (hD.in_ hG) ok
theorem res_own (sb : Nat) (s : StP) (D : List Blk) (hD : StA sb s D) : Con Tryz.prog 43 #[ptr sb] D fun v A => v = .int .i64 s.res ∧ A = D := by
  obtain ⟨qb, rv, RG, pv, PG, lv, LG, ls, rfl, h⟩ := hD
  refine ((reserved_spec sb qb s.res pv lv).beside (F := QuB qb s.att rv :: (RG ++ (PG ++ (LG ++ ls.flatMap Lg.G))))).mono fun v A hR => ?_
  obtain ⟨A', ⟨rfl, rfl⟩, rfl⟩ := hR
  exact ⟨rfl, rfl⟩
/-- A coordinator at its beginning, of no jobs. -/
@[reducible] def CoN (xb lb lm tb cb mb db wb sb : Nat) (c : Cf) (sv : Value) (G SD D : List Blk) (h : Hd) : List Blk :=
  CoB xb lb tb cb mb db wb sb c (.slice none 0 0) false :: (Ls.TB lb lm c.lease [] 0 ++ (Se.TabB tb sv G ++ (CtB cb c.block 0 0 :: (mb, mpo [] 0) :: WlB wb db ⟨h, 0, false⟩ :: (SD ++ D))))
def OpenN (c : Cf) (db : Nat) (D : List Blk) (h : Hd) (v : Value) (A : List Blk) : Prop :=
  ∃ xb lb lm tb cb mb wb sb sv G SD, v = .tuple #[ptr xb, .int .i64 0] ∧ A = CoN xb lb lm tb cb mb db wb sb c sv G SD D h ∧ Se.OwnK sv (Se.fresh c.runners.toNat) G ∧ StA sb ⟨c.attempts, [], 0, [], []⟩ SD
theorem open_new (B0 : Base) (c : Cf) (hc : CfOk c) (db : Nat) (x : Dk) (k : Nat) (D : List Blk) (hD : DkA db x k D) (hf : (x.S.length : Int) = 2 + 2 * c.half) (h : Hd) (how : openW x = (some (h, ⟨#[]⟩, []), 0)) :
    ConB Tryz.prog B0 19 #[.agg c.row.toArray, ptr db] D (OpenN c db D h) := by
  refine ConB.intro (vs := [_, _]) Tryz.func19 rfl Tryz.ntmps19 rfl (fun B hB => ?_)
  have hfit : fitsF c x = true := by unfold fitsF; rw [show checkC c = 0 from if_pos hc]; simp [hf]
  repeat' (first | refine Cd.seq ?_ | refine Cd.reg ?_ | refine Ops.mv rfl rfl rfl rfl ?_ | refine Ops.asg rfl rfl rfl rfl ?_ | refine Ops.ldN rfl rfl rfl rfl ?_ | refine Ops.box rfl rfl rfl rfl (noPd rfl) (fun b => ?_))
  rename Nat => bc
  refine Ops.call (fits_spec c db x k D hD) rfl (noPd rfl) rfl rfl rfl (fun v A' hR => ?_)
  obtain ⟨rfl, e⟩ := hR
  subst A'
  rw [hfit]
  repeat' (first | refine Cd.seq ?_ | refine Cd.reg ?_ | refine Ops.nil ?_ | refine Ops.mv rfl rfl rfl rfl ?_ | refine Ops.un rfl rfl rfl rfl ?_ | refine Cd.condF rfl rfl ?_ | refine Cd.skip (Cd.next ?_))
  refine Ops.callB (wopen_spec B0 db x k D hD) hB rfl (noPd rfl) rfl rfl rfl (fun v A' hR => ?_)
  rcases hR with ⟨hn, _⟩ | ⟨h2, s2, l2, wb, rv, RG, ho2, rfl, rfl, hrs⟩
  · rw [how] at hn; cases hn
  rw [how] at ho2
  injection ho2 with ho2 _
  injection ho2 with ho2
  injection ho2 with e1 ho2
  injection ho2 with e2 e3
  subst e1
  subst e2
  subst e3
  obtain ⟨ra, rc, rfl⟩ := hrs.form
  repeat' (first | refine Cd.seq ?_ | refine Cd.reg ?_ | refine Ops.nil ?_ | refine Ops.mv rfl rfl rfl rfl ?_ | refine Ops.asg rfl rfl rfl rfl ?_ | refine Ops.fa0 rfl rfl rfl rfl ?_ | refine Ops.ld1 rfl rfl rfl rfl rfl ?_ | refine Ops.bin rfl rfl rfl rfl rfl ?_ | refine Ops.ext rfl rfl rfl rfl rfl ?_ | refine Cd.condF rfl rfl ?_ | refine Cd.skip (Cd.next ?_))
  rw [show ([] : List ByteArray).length = 0 from rfl, show (((0 : Nat) : Int)) = 0 from rfl]
  obtain ⟨⟨a1, a2⟩, ⟨b1, b2⟩, _, ⟨c1, c2⟩, _⟩ := id hc
  refine Ops.callB (loaded_new B0 c.attempts c1 c2 ra rc) hB rfl (noPd rfl) rfl rfl rfl (fun v A' hR => ?_)
  obtain ⟨sb, rfl, hS⟩ := hR
  rename List Blk => SD
  repeat' (first | refine Cd.seq ?_ | refine Cd.reg ?_ | refine Ops.nil ?_ | refine Ops.mv rfl rfl rfl rfl ?_ | refine Ops.asg rfl rfl rfl rfl ?_ | refine Ops.lenS rfl rfl rfl rfl ?_ | refine Ops.bin rfl rfl rfl rfl rfl ?_ | refine Ops.pickF rfl rfl rfl rfl rfl ?_ | refine Ops.gSkip rfl rfl rfl ?_ | refine Cd.condF rfl rfl ?_ | refine Cd.skip (Cd.next ?_))
  refine Cd.draw [(0, 1, []), (1, 0, []), (4, 1, []), (5, 0, []), (6, 0, []), (7, 0, []), (2, 2, [0, 4]), (3, 2, [4]), (8, 0, []), (9, 2, []), (10, 0, [])] (by kernel_rfl) (by kernel_rfl) (by simp only [picked, nth]; exact rfl) ?_
  repeat' (first | refine Ops.mv rfl rfl rfl rfl ?_ | refine Ops.ldN rfl rfl rfl rfl ?_ | fail)
  refine Ops.call (res_own sb _ SD hS) rfl (by first | exact noPd rfl | (intro v A' hR i hi; obtain ⟨A2, hR, rfl⟩ := hR; (try obtain ⟨rfl, rfl⟩ := hR); (repeat (rcases List.mem_cons.1 hi with rfl | hi; · (first | exact Still.ld1 rfl rfl rfl rfl rfl | exact Still.ldN rfl rfl rfl rfl | exact Still.len rfl rfl rfl rfl rfl | exact Still.skip rfl rfl rfl | exact Still.ldRow1 rfl rfl rfl (by assumption) (by assumption) rfl rfl | exact Still.ldR rfl rfl rfl (by apply_assumption) rfl))); cases hi)) rfl rfl rfl (fun v A' hR => ?_)
  obtain ⟨rfl, e⟩ := hR
  subst A'
  skip
  refine Ops.call (begun_spec c hc 0 (by omega) (by omega)) rfl (by intro v A' hR i hi; obtain ⟨A2, hR, rfl⟩ := hR; obtain ⟨lb, lm, tb, sv, G, cb, mb, rfl, rfl, hO⟩ := hR; (repeat (rcases List.mem_cons.1 hi with rfl | hi; · (first | exact Still.ld1 rfl rfl rfl rfl rfl | exact Still.ldN rfl rfl rfl rfl | exact Still.len rfl rfl rfl rfl rfl | exact Still.skip rfl rfl rfl | exact Still.ldRow1 rfl rfl rfl (by assumption) (by assumption) rfl rfl | exact Still.ldR rfl rfl rfl (by apply_assumption) rfl))); cases hi) rfl rfl rfl (fun v A' hR => ?_)
  obtain ⟨lb, lm, tb, sv, G, cb, mb, rfl, rfl, hO⟩ := hR
  repeat' (first | refine Cd.seq ?_ | refine Cd.reg ?_ | refine Ops.nil ?_ | refine Ops.mv rfl rfl rfl rfl ?_ | refine Ops.asg rfl rfl rfl rfl ?_ | refine Ops.bld rfl rfl rfl rfl ?_ | refine Ops.box rfl rfl rfl rfl (by first | exact noPd rfl | (intro v A' hR i hi; obtain ⟨b, rfl, rfl⟩ := hR; (repeat (rcases List.mem_cons.1 hi with rfl | hi; · (first | exact Still.ld1 rfl rfl rfl rfl rfl | exact Still.ldN rfl rfl rfl rfl | exact Still.len rfl rfl rfl rfl rfl | exact Still.skip rfl rfl rfl | exact Still.ldRow1 rfl rfl rfl (by assumption) (by assumption) rfl rfl | exact Still.ldR rfl rfl rfl (by apply_assumption) rfl))); cases hi)) (fun b => ?_))
  rename Nat => xb
  refine Ops.callB (view_own B0 sb _ SD hS (stOk_new c1 c2)) hB rfl (noPd rfl) rfl rfl rfl (fun v A' hR => ?_)
  obtain ⟨VG, ⟨va, ps, JG, rfl, rfl, hJ, hT, hps⟩, rfl⟩ := hR
  dsimp only [List.length_nil]
  refine Ops.fld ⟨_, _, _, Tryz.underlying99, rfl, Tryz.underlying97, rfl, rfl⟩ rfl rfl rfl rfl rfl ?_
  repeat' (first | refine Ops.nil ?_ | refine Ops.mv rfl rfl rfl rfl ?_ | refine Ops.lenS rfl rfl rfl rfl ?_ | refine Cd.block ?_)
  refine Cd.loopK (σ := Unit) (fun _ => True) (fun _ => [(11, ptr xb), (60, .int .i64 0), (61, .int .i64 0)]) (fun _ => CoN xb lb lm tb cb mb db wb sb c sv G SD D h) (fun _ => 0) () trivial ⟨rfl, rfl, rfl, trivial⟩ (fun w h => h.split) (fun _ _ => ?_)
  repeat' (first | refine Cd.seq ?_ | refine Cd.reg ?_ | refine Ops.nil ?_ | refine Ops.mv rfl rfl rfl rfl ?_ | refine Ops.asg rfl rfl rfl rfl ?_ | refine Ops.bin rfl rfl rfl rfl rfl ?_ | refine Cd.condF rfl rfl ?_ | refine Cd.exit (Cd.next (Q' := fun _ _ _ => True) ?_))
  exact Cd.ret (ret2 (A' := CoN xb lb lm tb cb mb db wb sb c sv G SD D h) rfl (Res.tmp rfl) (Res.tmp rfl) (fun _ h => h.split) ⟨xb, lb, lm, tb, cb, mb, wb, sb, sv, G, SD, rfl, rfl, hO, hS⟩)
end Go.Proofs.YtnmjdoaogdaehaaGreat
