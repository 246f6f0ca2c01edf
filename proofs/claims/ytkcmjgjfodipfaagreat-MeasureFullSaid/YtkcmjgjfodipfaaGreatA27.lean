import Derived.Test.YtkcmjgjfodipfaaGreatA26
namespace Go.Proofs.YtkcmjgjfodipfaaGreat
open Go Go.Sep Go.Proofs
set_option maxRecDepth 10000
set_option maxHeartbeats 40000000
set_option synthInstance.maxSize 2000
set_option linter.unusedSimpArgs false
set_option linter.unusedVariables false
/-! Full, and what a look at a new fleet counts -/
def fullF (c : Cf) : Int := if checkC c = 0 then 2064 + c.lease else 0
def fullE (c : Cf) : Int := if checkC c = 0 then 0 else 1
theorem fullF_yes {c : Cf} (h : CfOk c) : fullF c = 2064 + c.lease := if_pos (if_pos h)
theorem fullE_yes {c : Cf} (h : CfOk c) : fullE c = 0 := if_pos (if_pos h)
theorem check_no {c : Cf} (h : ¬ CfOk c) : checkC c = 180 := if_neg h
theorem fullF_no {c : Cf} (h : ¬ CfOk c) : fullF c = 0 := if_neg (by rw [check_no h]; decide)
theorem fullE_no {c : Cf} (h : ¬ CfOk c) : fullE c = 1 := if_neg (by rw [check_no h]; decide)
theorem mf_spec (c : Cf) : Con Tryz.prog 4 #[.agg c.row.toArray] [] fun v A => v = .tuple #[.int .i64 (fullF c), .int .i64 (fullE c)] ∧ A = [] := by
  refine Con.intro (vs := [_]) Tryz.func4 rfl Tryz.ntmps4 rfl (fun B => ?_)
  repeat' (first | refine Cd.seq ?_ | refine Cd.reg ?_ | refine Ops.asg rfl rfl rfl rfl ?_ | refine Ops.ldN rfl rfl rfl rfl ?_ | refine Ops.box rfl rfl rfl rfl (noPd rfl) (fun b => ?_))
  refine Ops.call (ccheck_spec c) rfl (noPd rfl) rfl rfl rfl (fun v A' hR => ?_)
  obtain ⟨rfl, rfl⟩ := hR
  by_cases hc : CfOk c
  case neg =>
    rw [check_no hc, fullF_no hc, fullE_no hc]
    repeat' (first | refine Cd.seq ?_ | refine Cd.reg ?_ | refine Ops.nil ?_ | refine Ops.mv rfl rfl rfl rfl ?_ | refine Ops.asg rfl rfl rfl rfl ?_ | refine Ops.bin rfl rfl rfl rfl rfl ?_ | refine Cd.condT rfl rfl ?_)
    exact Cd.ret (ret2 (A' := []) rfl (Res.tmp rfl) (Res.tmp rfl) (fun _ h => h.split) ⟨rfl, rfl⟩)
  rw [show checkC c = 0 from if_pos hc, fullF_yes hc, fullE_yes hc]
  obtain ⟨_, ⟨b1, b2⟩, _⟩ := id hc
  repeat' (first | refine Cd.seq ?_ | refine Cd.reg ?_ | refine Ops.nil ?_ | refine Ops.mv rfl rfl rfl rfl ?_ | refine Ops.asg rfl rfl rfl rfl ?_ | refine Ops.fa0 rfl rfl rfl rfl ?_ | refine Ops.ld1 rfl rfl rfl rfl rfl ?_ | refine Ops.addI rfl rfl rfl rfl (by omega) (by omega) rfl ?_ | refine Ops.bin rfl rfl rfl rfl rfl ?_ | refine Cd.condF rfl rfl ?_ | refine Cd.skip (Cd.next ?_))
  exact Cd.ret (ret2 (A' := []) rfl (Res.tmp rfl) (Res.tmp rfl) (fun _ h => h.split) ⟨by rw [show 2048 + c.lease + 4 + 12 = 2064 + c.lease by omega], rfl⟩)
theorem rf_spec (c : Cf) : Con Tryz.prog 5 #[.agg c.row.toArray] [] fun v A => v = .tuple #[.int .i64 (fullF c), .int .i64 (fullE c)] ∧ A = [] := by
  refine Con.intro (vs := [_]) Tryz.func5 rfl Tryz.ntmps5 rfl (fun B => ?_)
  repeat' (first | refine Cd.seq ?_ | refine Cd.reg ?_ | refine Ops.asg rfl rfl rfl rfl ?_ | refine Ops.ldN rfl rfl rfl rfl ?_ | refine Ops.box rfl rfl rfl rfl (noPd rfl) (fun b => ?_))
  refine Ops.call (rcheck18_spec c) rfl (noPd rfl) rfl rfl rfl (fun v A' hR => ?_)
  obtain ⟨rfl, rfl⟩ := hR
  by_cases hc : CfOk c
  case neg =>
    rw [check_no hc, fullF_no hc, fullE_no hc]
    repeat' (first | refine Cd.seq ?_ | refine Cd.reg ?_ | refine Ops.nil ?_ | refine Ops.asg rfl rfl rfl rfl ?_ | refine Ops.bin rfl rfl rfl rfl rfl ?_ | refine Cd.condT rfl rfl ?_)
    exact Cd.ret (ret2 (A' := []) rfl (Res.tmp rfl) (Res.tmp rfl) (fun _ h => h.split) ⟨rfl, rfl⟩)
  rw [show checkC c = 0 from if_pos hc, fullF_yes hc, fullE_yes hc]
  obtain ⟨_, ⟨b1, b2⟩, _⟩ := id hc
  repeat' (first | refine Cd.seq ?_ | refine Cd.reg ?_ | refine Ops.nil ?_ | refine Ops.asg rfl rfl rfl rfl ?_ | refine Ops.fa0 rfl rfl rfl rfl ?_ | refine Ops.ld1 rfl rfl rfl rfl rfl ?_ | refine Ops.addI rfl rfl rfl rfl (by omega) (by omega) rfl ?_ | refine Ops.bin rfl rfl rfl rfl rfl ?_ | refine Cd.condF rfl rfl ?_ | refine Cd.skip (Cd.next ?_))
  exact Cd.ret (ret2 (A' := []) rfl (Res.tmp rfl) (Res.tmp rfl) (fun _ h => h.split) ⟨by rw [show 2048 + c.lease + 16 = 2064 + c.lease by omega], rfl⟩)
theorem idxh_nil (a : Option Addr) (fv : Value) : Con Tryz.prog 169 #[.slice a 0 0, fv] [] fun v A => v = .int .i64 (-1) ∧ A = [] := by
  refine Con.intro (vs := [_, _]) Tryz.func169 rfl Tryz.ntmps169 rfl (fun B => ?_)
  repeat' (first | refine Cd.seq ?_ | refine Cd.reg ?_ | refine Ops.nil ?_ | refine Ops.mv rfl rfl rfl rfl ?_ | refine Ops.asg rfl rfl rfl rfl ?_ | refine Ops.lenS rfl rfl rfl rfl ?_ | refine Cd.block ?_)
  refine Cd.loopK (σ := Unit) (fun _ => True) (fun _ => [(7, .int .i64 0), (8, .int .i64 0)]) (fun _ => []) (fun _ => 0) () trivial ⟨rfl, rfl, trivial⟩ (fun w h => h) (fun _ _ => ?_)
  repeat' (first | refine Cd.seq ?_ | refine Cd.reg ?_ | refine Ops.nil ?_ | refine Ops.asg rfl rfl rfl rfl ?_ | refine Ops.bin rfl rfl rfl rfl rfl ?_ | refine Cd.condF rfl rfl ?_ | refine Cd.exit (Cd.next (Q' := fun _ _ _ => True) ?_))
  exact Cd.ret (ret1 (A' := []) rfl (Res.tmp rfl) (fun _ h => h.split) ⟨rfl, rfl⟩)
theorem conh_nil (a : Option Addr) (fv : Value) : Con Tryz.prog 81 #[.slice a 0 0, fv] [] fun v A => v = .bool false ∧ A = [] := by
  refine Con.intro (vs := [_, _]) Tryz.func81 rfl Tryz.ntmps81 rfl (fun B => ?_)
  repeat' (first | refine Cd.seq ?_ | refine Cd.reg ?_ | refine Ops.mv rfl rfl rfl rfl ?_ | refine Ops.asg rfl rfl rfl rfl ?_)
  refine Ops.call (idxh_nil a fv) rfl (noPd rfl) rfl rfl rfl (fun v A' hR => ?_)
  obtain ⟨rfl, rfl⟩ := hR
  repeat' (first | refine Ops.nil ?_ | refine Ops.asg rfl rfl rfl rfl ?_ | refine Ops.bin rfl rfl rfl rfl rfl ?_ | fail)
  exact Cd.ret (ret1 (A' := []) rfl (Res.tmp rfl) (fun _ h => h.split) ⟨rfl, rfl⟩)
theorem idxp_nil (a : Option Addr) (fv : Value) : Con Tryz.prog 84 #[.slice a 0 0, fv] [] fun v A => v = .int .i64 (-1) ∧ A = [] := by
  refine Con.intro (vs := [_, _]) Tryz.func84 rfl Tryz.ntmps84 rfl (fun B => ?_)
  repeat' (first | refine Cd.seq ?_ | refine Cd.reg ?_ | refine Ops.nil ?_ | refine Ops.mv rfl rfl rfl rfl ?_ | refine Ops.asg rfl rfl rfl rfl ?_ | refine Ops.lenS rfl rfl rfl rfl ?_ | refine Cd.block ?_)
  refine Cd.loopK (σ := Unit) (fun _ => True) (fun _ => [(7, .int .i64 0), (8, .int .i64 0)]) (fun _ => []) (fun _ => 0) () trivial ⟨rfl, rfl, trivial⟩ (fun w h => h) (fun _ _ => ?_)
  repeat' (first | refine Cd.seq ?_ | refine Cd.reg ?_ | refine Ops.nil ?_ | refine Ops.asg rfl rfl rfl rfl ?_ | refine Ops.bin rfl rfl rfl rfl rfl ?_ | refine Cd.condF rfl rfl ?_ | refine Cd.exit (Cd.next (Q' := fun _ _ _ => True) ?_))
  exact Cd.ret (ret1 (A' := []) rfl (Res.tmp rfl) (fun _ h => h.split) ⟨rfl, rfl⟩)
theorem conp_nil (a : Option Addr) (fv : Value) : Con Tryz.prog 42 #[.slice a 0 0, fv] [] fun v A => v = .bool false ∧ A = [] := by
  refine Con.intro (vs := [_, _]) Tryz.func42 rfl Tryz.ntmps42 rfl (fun B => ?_)
  repeat' (first | refine Cd.seq ?_ | refine Cd.reg ?_ | refine Ops.mv rfl rfl rfl rfl ?_ | refine Ops.asg rfl rfl rfl rfl ?_)
  refine Ops.call (idxp_nil a fv) rfl (noPd rfl) rfl rfl rfl (fun v A' hR => ?_)
  obtain ⟨rfl, rfl⟩ := hR
  repeat' (first | refine Ops.nil ?_ | refine Ops.asg rfl rfl rfl rfl ?_ | refine Ops.bin rfl rfl rfl rfl rfl ?_ | fail)
  exact Cd.ret (ret1 (A' := []) rfl (Res.tmp rfl) (fun _ h => h.split) ⟨rfl, rfl⟩)
@[reducible] def FtB (ft : Nat) (va da : Option Addr) (dc : Nat) (la : Option Addr) (lc : Nat) : Blk := (ft, cl [.int .i64 1, .int .i64 40, .int .i64 2, .int .i64 2, .int .i64 2, .int .i64 8, .int .i64 4, .int .i64 4, .int .i64 160, .int .i64 0, .slice va 0 0, .slice none 0 0, .slice da 0 dc, .slice la 1 lc, .slice none 0 0] 91)
@[reducible] def desk0 : List Value := [.int .i64 0, .int .i64 0, .int .i64 0, .int .i64 0, .string ⟨#[]⟩]
theorem desk_spec (ft : Nat) (va da : Option Addr) (dc : Nat) (la : Option Addr) (lc : Nat) : Con Tryz.prog 37 #[ptr ft, .agg look0.toArray] [FtB ft va da dc la lc] fun v A => v = .tuple #[.agg desk0.toArray, .bool false] ∧ A = [FtB ft va da dc la lc] := by
  refine Con.intro (vs := [_, _]) Tryz.func37 rfl Tryz.ntmps37 rfl (fun B => ?_)
  repeat' (first | refine Cd.seq ?_ | refine Cd.reg ?_ | refine Ops.nil ?_ | refine Ops.mv rfl rfl rfl rfl ?_ | refine Ops.asg rfl rfl rfl rfl ?_ | refine Ops.nilP rfl rfl rfl rfl ?_ | refine Ops.fa0 rfl rfl rfl rfl ?_ | refine Ops.ld1 rfl rfl rfl rfl rfl ?_ | refine Ops.lenS rfl rfl rfl rfl ?_ | refine Ops.box rfl rfl rfl rfl (noPd rfl) (fun b => ?_) | refine Ops.alloc rfl rfl rfl (noPd rfl) (fun b => ?_) | refine Cd.block ?_)
  rename_i bx
  rename Nat => bz
  refine Cd.loopK (σ := Unit) (fun _ => True) (fun _ => [(4, ptr bz), (12, .int .i64 0), (13, .int .i64 0)]) (fun _ => [(bz, cl desk0 123), FtB ft va da dc la lc]) (fun _ => 0) () trivial ⟨rfl, rfl, rfl, trivial⟩ (fun w h => h.split) (fun _ _ => ?_)
  repeat' (first | refine Cd.seq ?_ | refine Cd.reg ?_ | refine Ops.nil ?_ | refine Ops.asg rfl rfl rfl rfl ?_ | refine Ops.bin rfl rfl rfl rfl rfl ?_ | refine Ops.bld rfl rfl rfl rfl ?_ | refine Ops.stN rfl rfl rfl rfl rfl rfl (noPd rfl) ?_ | refine Cd.condF rfl rfl ?_ | refine Cd.exit (Cd.next (Q' := fun _ _ _ => True) ?_))
  exact Cd.ret (ret2 (A' := [FtB ft va da dc la lc]) rfl (Res.cellN rfl) (Res.tmp rfl) (fun _ h => h.split) ⟨rfl, rfl⟩)
theorem misled_spec (ft : Nat) (va da : Option Addr) (dc : Nat) (la : Option Addr) (lc : Nat) : Con Tryz.prog 38 #[ptr ft, .agg look0.toArray] [FtB ft va da dc la lc] fun v A => v = .bool false ∧ A = [FtB ft va da dc la lc] := by
  refine Con.intro (vs := [_, _]) Tryz.func38 rfl Tryz.ntmps38 rfl (fun B => ?_)
  repeat' (first | refine Ops.mkF rfl rfl rfl rfl rfl ?_ | refine Cd.seq ?_ | refine Cd.reg ?_ | refine Ops.asg rfl rfl rfl rfl ?_ | refine Ops.nilP rfl rfl rfl rfl ?_ | refine Ops.fa0 rfl rfl rfl rfl ?_ | refine Ops.ld1 rfl rfl rfl rfl rfl ?_ | refine Ops.box rfl rfl rfl rfl (noPd rfl) (fun b => ?_))
  refine Ops.call (conh_nil none _) rfl (noPd rfl) rfl rfl rfl (fun v A' hR => ?_)
  obtain ⟨rfl, rfl⟩ := hR
  repeat' (first | refine Ops.nil ?_ | refine Ops.asg rfl rfl rfl rfl ?_)
  exact Cd.ret (ret1 (A' := [FtB ft va da dc la lc]) rfl (Res.tmp rfl) (fun _ h => h.split) ⟨rfl, rfl⟩)
theorem offered_spec (ft : Nat) (va da : Option Addr) (dc : Nat) (la : Option Addr) (lc : Nat) : Con Tryz.prog 39 #[ptr ft, .agg look0.toArray] [FtB ft va da dc la lc] fun v A => v = .int .i64 0 ∧ A = [FtB ft va da dc la lc] := by
  refine Con.intro (vs := [_, _]) Tryz.func39 rfl Tryz.ntmps39 rfl (fun B => ?_)
  repeat' (first | refine Cd.seq ?_ | refine Cd.reg ?_ | refine Ops.nil ?_ | refine Ops.mv rfl rfl rfl rfl ?_ | refine Ops.asg rfl rfl rfl rfl ?_ | refine Ops.fa0 rfl rfl rfl rfl ?_ | refine Ops.ld1 rfl rfl rfl rfl rfl ?_ | refine Ops.bin rfl rfl rfl rfl rfl ?_ | refine Ops.pickF rfl rfl rfl rfl rfl ?_ | refine Ops.box rfl rfl rfl rfl (noPd rfl) (fun b => ?_) | refine Cd.condT rfl rfl ?_)
  exact Cd.ret (ret1 (A' := [FtB ft va da dc la lc]) rfl (Res.tmp rfl) (fun _ h => h.split) ⟨rfl, rfl⟩)
theorem units_spec (ft : Nat) (va da : Option Addr) (dc : Nat) (la : Option Addr) (lc : Nat) (LG : List Blk) (rows : List (List Value)) (hrw : rows = [look0]) (hL : Own 102 20 (.slice la 1 lc) rows LG) :
    Con Tryz.prog 21 #[ptr ft] (FtB ft va da dc la lc :: LG) fun v A => v = .int .i64 1 ∧ A = FtB ft va da dc la lc :: LG := by
  have hrl : rows.length = 1 := by rw [hrw]; rfl
  have hok := hL.1
  obtain ⟨g, c2, spare, e1, rfl, hsp, hle⟩ := hL.some_ (by omega)
  injection e1 with q1 q2 q3
  subst q1; subst q3
  refine Con.intro (vs := [_]) Tryz.func21 rfl Tryz.ntmps21 rfl (fun B => ?_)
  repeat' (first | refine Cd.seq ?_ | refine Cd.reg ?_ | refine Ops.mv rfl rfl rfl rfl ?_ | refine Ops.asg rfl rfl rfl rfl ?_ | refine Ops.nilP rfl rfl rfl rfl ?_ | refine Ops.fa0 rfl rfl rfl rfl ?_ | refine Ops.ldN rfl rfl rfl rfl ?_ | fail)
  refine Ops.call (mf_spec cfm) rfl (noPd rfl) rfl rfl rfl (fun v A' hR => ?_)
  rw [fullF_yes cfm_ok, fullE_yes cfm_ok] at hR
  obtain ⟨rfl, rfl⟩ := hR
  repeat' (first | refine Cd.seq ?_ | refine Cd.reg ?_ | refine Ops.nil ?_ | refine Ops.mv rfl rfl rfl rfl ?_ | refine Ops.asg rfl rfl rfl rfl ?_ | refine Ops.nilP rfl rfl rfl rfl ?_ | refine Ops.fa0 rfl rfl rfl rfl ?_ | refine Ops.fa rfl rfl rfl rfl ?_ | refine Ops.ld1 rfl rfl rfl rfl rfl ?_ | refine Ops.lenS rfl rfl rfl rfl ?_ | refine Ops.ext rfl rfl rfl rfl rfl ?_ | refine Cd.block ?_)
  refine Cd.loopK (σ := Unit) (fun _ => True) (fun _ => [(0, ptr ft), (5, .int .i64 0), (26, .int .i64 0), (27, .int .i64 0)]) (fun _ => [FtB ft va da dc (some ⟨g, 0, none⟩) lc, (g, cl (rows.flatten ++ spare) 102)]) (fun _ => 0) () trivial ⟨rfl, rfl, rfl, rfl, trivial⟩ (fun w h => h.split) (fun _ _ => ?_)
  repeat' (first | refine Cd.seq ?_ | refine Cd.reg ?_ | refine Ops.nil ?_ | refine Ops.mv rfl rfl rfl rfl ?_ | refine Ops.nilP rfl rfl rfl rfl ?_ | refine Ops.fa0 rfl rfl rfl rfl ?_ | refine Ops.ld1 rfl rfl rfl rfl rfl ?_ | refine Ops.lenS rfl rfl rfl rfl ?_ | refine Ops.bin rfl rfl rfl rfl rfl ?_ | refine Cd.condF rfl rfl ?_ | refine Cd.block ?_ | refine Cd.exit (Cd.next (Q' := fun _ _ _ => True) ?_))
  refine Cd.loopK (σ := Int) (fun i => i = 0 ∨ i = 1) (fun i => [(0, ptr ft), (5, .int .i64 i), (61, .slice (some ⟨g, 0, none⟩) 1 lc), (62, .int .i64 1), (63, .int .i64 i)]) (fun _ => [FtB ft va da dc (some ⟨g, 0, none⟩) lc, (g, cl (rows.flatten ++ spare) 102)]) (fun i => (1 - i).toNat) 0 (.inl rfl) ⟨rfl, rfl, rfl, rfl, rfl, trivial⟩ (fun w h => h.split) (fun i hI => ?_)
  rcases hI with h0 | h0
  · have hi0 : 0 ≤ i := by omega
    have hil : i < 1 := by omega
    have hx : rows[i.toNat]? = some look0 := by rw [hrw, h0]; rfl
    repeat' (first | refine Cd.seq ?_ | refine Cd.reg ?_ | refine Ops.mv rfl rfl rfl rfl ?_ | refine Ops.ldN rfl rfl rfl rfl ?_ | refine Ops.bin rfl rfl rfl rfl rfl ?_ | refine Ops.alloc rfl rfl rfl (noPd rfl) (fun b => ?_) | refine Ops.stN rfl rfl rfl rfl rfl rfl (noPd rfl) ?_ | refine Cd.block ?_ | refine Cd.skip (Cd.next ?_) | refine Ops.ixa0 rfl rfl rfl rfl (by omega) (by omega) rfl ?_ | refine Ops.ldRow rfl rfl rfl (by assumption) (by assumption) rfl ?_ | refine Cd.condT rfl (by first | rfl | assumption | (simp only [decide_eq_true_eq, decide_eq_false_iff_not, Bool.not_eq_true', Bool.not_eq_false', Bool.not_eq_eq_eq_not, Bool.not_true, Bool.not_false, beq_iff_eq, beq_eq_false_iff_ne, ne_eq, decide_eq_decide, eq_self, true_iff, iff_true, not_true_eq_false, not_false_eq_true]; first | done | omega)) ?_)
    refine Ops.call (desk_spec ft va da dc (some ⟨g, 0, none⟩) lc) rfl (noPd rfl) rfl rfl rfl (fun v A' hR => ?_)
    obtain ⟨rfl, rfl⟩ := hR
    repeat' (first | refine Cd.seq ?_ | refine Cd.reg ?_ | refine Ops.mv rfl rfl rfl rfl ?_ | refine Ops.asg rfl rfl rfl rfl ?_ | refine Ops.fa0 rfl rfl rfl rfl ?_ | refine Ops.ld1 rfl rfl rfl rfl rfl ?_ | refine Ops.ldN rfl rfl rfl rfl ?_ | refine Ops.bin rfl rfl rfl rfl rfl ?_ | refine Ops.ext rfl rfl rfl rfl rfl ?_ | refine Ops.alloc rfl rfl rfl (noPd rfl) (fun b => ?_) | refine Ops.stN rfl rfl rfl rfl rfl rfl (noPd rfl) ?_ | refine Cd.block ?_)
    refine Ops.call (misled_spec ft va da dc (some ⟨g, 0, none⟩) lc) rfl (noPd rfl) rfl rfl rfl (fun v A' hR => ?_)
    obtain ⟨rfl, rfl⟩ := hR
    repeat' (first | refine Ops.nilN (inB (Cd.next ?_)) | refine Cd.seq ?_ | refine Cd.reg ?_ | refine Ops.nil ?_ | refine Ops.mv rfl rfl rfl rfl ?_ | refine Ops.asg rfl rfl rfl rfl ?_ | refine Ops.fa0 rfl rfl rfl rfl ?_ | refine Ops.ld1 rfl rfl rfl rfl rfl ?_ | refine Ops.ldN rfl rfl rfl rfl ?_ | refine Ops.addI rfl rfl rfl rfl (by omega) (by omega) rfl ?_ | refine Ops.bin rfl rfl rfl rfl rfl ?_ | refine Ops.pickT rfl rfl rfl rfl rfl ?_ | refine Cd.condT rfl rfl ?_ | refine Cd.condF rfl rfl ?_)
    refine Ops.call (offered_spec ft va da dc (some ⟨g, 0, none⟩) lc) rfl (noPd rfl) rfl rfl rfl (fun v A' hR => ?_)
    obtain ⟨rfl, rfl⟩ := hR
    repeat' (first | refine Cd.seq ?_ | refine Cd.reg ?_ | refine Ops.nil ?_ | refine Ops.mv rfl rfl rfl rfl ?_ | refine Ops.asg rfl rfl rfl rfl ?_ | refine Ops.addI rfl rfl rfl rfl (by omega) (by omega) rfl ?_ | refine Ops.bin rfl rfl rfl rfl rfl ?_ | refine Ops.pickF rfl rfl rfl rfl rfl ?_ | refine Ops.gSkip rfl rfl rfl ?_ | refine Cd.condF rfl rfl ?_ | refine Cd.skip (Cd.next (Q' := fun _ _ _ => True) ?_))
    exact Ops.nilN (round_end (i + 1) (.inr (by omega)) (by omega) ⟨rfl, rfl, rfl, rfl, rfl, trivial⟩ (fun w h => h.split))
  · subst h0
    repeat' (first | refine Cd.seq ?_ | refine Cd.reg ?_ | refine Ops.nil ?_ | refine Ops.mv rfl rfl rfl rfl ?_ | refine Ops.asg rfl rfl rfl rfl ?_ | refine Ops.bin rfl rfl rfl rfl rfl ?_ | refine Cd.condF rfl rfl ?_ | refine Cd.exit (Cd.next (Q' := fun _ _ _ => True) ?_))
    exact Cd.ret (ret1 (A' := [FtB ft va da dc (some ⟨g, 0, none⟩) lc, (g, cl (rows.flatten ++ spare) 102)]) rfl (Res.tmp rfl) (fun _ h => h.split) ⟨rfl, rfl⟩)
theorem settled_spec (B0 : Base) (fb nb gn gl kb rb xb lb tb cb mb db wb sb : Nat) (SD : List Blk) (hS : StA sb ⟨2, [], 0, [], []⟩ SD) :
    ConB Tryz.prog B0 22 #[ptr fb] (ClB fb db nb gn gl :: NdB gn xb kb rb :: CoB xb lb tb cb mb db wb sb cfm (.slice none 0 0) false :: SD) fun v A => v = .bool true ∧ A = ClB fb db nb gn gl :: NdB gn xb kb rb :: CoB xb lb tb cb mb db wb sb cfm (.slice none 0 0) false :: SD := by
  refine ConB.intro (vs := [_]) Tryz.func22 rfl Tryz.ntmps22 rfl (fun B hB => ?_)
  repeat' (first | refine Cd.seq ?_ | refine Cd.reg ?_ | refine Ops.mv rfl rfl rfl rfl ?_ | refine Ops.asg rfl rfl rfl rfl ?_)
  refine Ops.callB (fview_spec B0 fb nb gn gl kb rb xb lb tb cb mb db wb sb SD hS) hB rfl (noPd rfl) rfl rfl rfl (fun v A' hR => ?_)
  obtain ⟨⟨a, rfl⟩, rfl⟩ := hR
  repeat' (first | refine Cd.seq ?_ | refine Cd.reg ?_ | refine Ops.mv rfl rfl rfl rfl ?_ | refine Ops.asg rfl rfl rfl rfl ?_ | refine Ops.fa0 rfl rfl rfl rfl ?_ | refine Ops.ld1 rfl rfl rfl rfl rfl ?_ | refine Ops.ext rfl rfl rfl rfl rfl ?_ | refine Ops.alloc rfl rfl rfl (noPd rfl) (fun b => ?_) | refine Ops.stN rfl rfl rfl rfl rfl rfl (noPd rfl) ?_)
  refine Ops.call (conp_nil a _) rfl (noPd rfl) rfl rfl rfl (fun v A' hR => ?_)
  obtain ⟨rfl, rfl⟩ := hR
  repeat' (first | refine Ops.nil ?_ | refine Ops.asg rfl rfl rfl rfl ?_ | refine Ops.un rfl rfl rfl rfl ?_ | refine Ops.pickT rfl rfl rfl rfl rfl ?_)
  exact Cd.ret (ret1 (A' := ClB fb db nb gn gl :: NdB gn xb kb rb :: CoB xb lb tb cb mb db wb sb cfm (.slice none 0 0) false :: SD) rfl (Res.tmp rfl) (fun w h => h.split) ⟨rfl, rfl⟩)
end Go.Proofs.YtkcmjgjfodipfaaGreat
namespace Go.Proofs.YtkcmjgjfodipfaaGreat
open Go Go.Sep Go.Proofs
set_option maxRecDepth 10000
set_option maxHeartbeats 40000000
set_option synthInstance.maxSize 2000
set_option linter.unusedSimpArgs false
set_option linter.unusedVariables false
/-! a look at a new fleet; its measure -/
@[reducible] def FtC (ft : Nat) (va da : Option Addr) (dc : Nat) (lv : Value) : Blk := (ft, cl [.int .i64 1, .int .i64 40, .int .i64 2, .int .i64 2, .int .i64 2, .int .i64 8, .int .i64 4, .int .i64 4, .int .i64 160, .int .i64 0, .slice va 0 0, .slice none 0 0, .slice da 0 dc, lv, .slice none 0 0] 91)
theorem seen_spec (B0 : Base) (fb nb gn gl kb km rb rc xb lb lm tb cb mb db wb sb : Nat) (sv : Value) (G SD D : List Blk) (hO : Se.OwnK sv (Se.fresh 1) G) (hS : StA sb ⟨2, [], 0, [], []⟩ SD) :
    ConB Tryz.prog B0 20 #[ptr fb] (FlB fb nb gn gl kb km rb rc xb lb lm tb cb mb db wb sb sv G SD D) fun v A => ∃ ft va da dc la lc LG, v = .tuple #[ptr ft, .bool true] ∧ A = FtB ft va da dc la lc :: (LG ++ FlB fb nb gn gl kb km rb rc xb lb lm tb cb mb db wb sb sv G SD D) ∧ Own 102 20 (.slice la 1 lc) [look0] LG := by
  refine ConB.intro (vs := [_]) Tryz.func20 rfl Tryz.ntmps20 rfl (fun B hB => ?_)
  repeat' (first | refine Cd.seq ?_ | refine Cd.reg ?_ | refine Ops.mv rfl rfl rfl rfl ?_ | refine Ops.asg rfl rfl rfl rfl ?_)
  refine Ops.call (fconfig_spec fb db nb gn gl) rfl (noPd rfl) rfl rfl rfl (fun v A' hR => ?_)
  obtain ⟨rfl, rfl⟩ := hR
  repeat' (first | refine Cd.seq ?_ | refine Cd.reg ?_ | refine Ops.mv rfl rfl rfl rfl ?_ | refine Ops.asg rfl rfl rfl rfl ?_ | refine Ops.bld rfl rfl rfl rfl ?_ | refine Ops.box rfl rfl rfl rfl (noPd rfl) (fun b => ?_))
  rename Nat => ft
  refine Ops.callB (fview_spec B0 fb nb gn gl kb rb xb lb tb cb mb db wb sb SD hS) hB rfl (noPd rfl) rfl rfl rfl (fun v A' hR => ?_)
  obtain ⟨⟨va, rfl⟩, rfl⟩ := hR
  repeat' (first | refine Cd.seq ?_ | refine Cd.reg ?_ | refine Ops.mv rfl rfl rfl rfl ?_ | refine Ops.asg rfl rfl rfl rfl ?_ | refine Ops.nilP rfl rfl rfl rfl ?_ | refine Ops.fa0 rfl rfl rfl rfl ?_ | refine Ops.ext rfl rfl rfl rfl rfl ?_ | refine Ops.stN rfl rfl rfl rfl rfl rfl (noPd rfl) ?_)
  refine Ops.call (fleases_spec fb nb gn gl kb rb xb lb lm tb cb mb db wb sb) rfl (noPd rfl) rfl rfl rfl (fun v A' hR => ?_)
  obtain ⟨rfl, rfl⟩ := hR
  repeat' (first | refine Cd.seq ?_ | refine Cd.reg ?_ | refine Ops.mv rfl rfl rfl rfl ?_ | refine Ops.nilP rfl rfl rfl rfl ?_ | refine Ops.fa0 rfl rfl rfl rfl ?_ | refine Ops.ext rfl rfl rfl rfl rfl ?_ | refine Ops.st1 rfl rfl rfl rfl rfl (noPd rfl) ?_)
  refine Ops.call (fsessions_spec fb nb gn gl kb rb xb lb tb cb mb db wb sb sv G hO) rfl (noPd rfl) rfl rfl rfl (fun v A' hR => ?_)
  obtain ⟨⟨da, dc, rfl⟩, rfl⟩ := hR
  repeat' (first | refine Cd.seq ?_ | refine Cd.reg ?_ | refine Ops.nil ?_ | refine Ops.mv rfl rfl rfl rfl ?_ | refine Ops.nilP rfl rfl rfl rfl ?_ | refine Ops.fa0 rfl rfl rfl rfl ?_ | refine Ops.ld1 rfl rfl rfl rfl rfl ?_ | refine Ops.ext rfl rfl rfl rfl rfl ?_ | refine Ops.st1 rfl rfl rfl rfl rfl (noPd rfl) ?_ | refine Cd.block ?_)
  refine Cd.loopK (σ := Option (Option Addr × Nat × List Blk)) (fun s => match s with | none => True | some (la, lc, LG) => Own 102 20 (.slice la 1 lc) [look0] LG)
    (fun s => match s with | none => [(0, ptr fb), (4, ptr ft), (5, .bool true), (45, .int .i64 1), (46, .int .i64 0)] | some _ => [(0, ptr fb), (4, ptr ft), (5, .bool true), (45, .int .i64 1), (46, .int .i64 1)])
    (fun s => match s with | none => FtC ft va da dc (.slice none 0 0) :: FlB fb nb gn gl kb km rb rc xb lb lm tb cb mb db wb sb sv G SD D | some (la, lc, LG) => FtC ft va da dc (.slice la 1 lc) :: (LG ++ FlB fb nb gn gl kb km rb rc xb lb lm tb cb mb db wb sb sv G SD D))
    (fun s => match s with | none => 1 | some _ => 0) none trivial ⟨rfl, rfl, rfl, rfl, rfl, trivial⟩ (fun w h => h.split) (fun s hI => ?_)
  rcases s with _ | ⟨la, lc, LG⟩
  · dsimp only
    repeat' (first | refine Cd.seq ?_ | refine Cd.reg ?_ | refine Ops.mv rfl rfl rfl rfl ?_ | refine Ops.asg rfl rfl rfl rfl ?_ | refine Ops.bin rfl rfl rfl rfl rfl ?_ | refine Cd.condT rfl rfl ?_ | refine Cd.block ?_ | refine Cd.skip (Cd.next ?_))
    refine Ops.call (frunner_spec fb db nb gn gl xb kb rb rc) rfl (noPd rfl) rfl rfl rfl (fun v A' hR => ?_)
    obtain ⟨rfl, rfl⟩ := hR
    repeat' (first | refine Cd.seq ?_ | refine Cd.reg ?_ | refine Ops.nil ?_ | refine Ops.mv rfl rfl rfl rfl ?_ | refine Ops.asg rfl rfl rfl rfl ?_ | refine Ops.ext rfl rfl rfl rfl rfl ?_ | refine Ops.alloc rfl rfl rfl (noPd rfl) (fun b => ?_) | refine Ops.stN rfl rfl rfl rfl rfl rfl (noPd rfl) ?_ | refine Cd.condT rfl rfl ?_)
    refine Cd.draw [(0, 0, []), (1, 0, []), (2, 0, []), (3, 0, []), (4, 1, []), (5, 1, []), (6, 2, [4]), (7, 2, []), (8, 0, []), (9, 0, []), (10, 2, [])] (by kernel_rfl) (by kernel_rfl) (by simp only [picked, nth]; exact rfl) ?_
    repeat' (first | refine Ops.mv rfl rfl rfl rfl ?_ | refine Ops.nilP rfl rfl rfl rfl ?_ | refine Ops.fa0 rfl rfl rfl rfl ?_ | refine Ops.ld1 rfl rfl rfl rfl rfl ?_ | refine Ops.ldN rfl rfl rfl rfl ?_ | refine Ops.bs1 rfl rfl rfl rfl rfl rfl rfl (by first | exact noPd rfl | (intro v A' hR i hi; obtain ⟨b, rfl, rfl⟩ := hR; (repeat (rcases List.mem_cons.1 hi with rfl | hi; · (first | exact Still.ld1 rfl rfl rfl rfl rfl | exact Still.ldN rfl rfl rfl rfl | exact Still.len rfl rfl rfl rfl rfl | exact Still.skip rfl rfl rfl | exact Still.ldRow1 rfl rfl rfl (by assumption) (by assumption) rfl rfl | exact Still.ldR rfl rfl rfl (by apply_assumption) rfl))); cases hi)) (fun b => ?_))
    refine Ops.app1 (e := 102) (sz := 20) (rows := []) Own.none (by decide) (by decide) rfl rfl rfl rfl (by rfl) (by rfl) rfl (noPd rfl) rfl (fun v G' hG' => ?_)
    replace hG' : Own 102 20 v [look0] G' := hG'
    obtain ⟨la, lc, hv⟩ := hG'.form
    replace hv : v = .slice la 1 lc := hv
    subst hv
    repeat' (first | refine Ops.nilN (inB (Cd.next ?_)) | refine Cd.reg ?_ | refine Ops.mv rfl rfl rfl rfl ?_ | refine Ops.nilP rfl rfl rfl rfl ?_ | refine Ops.fa0 rfl rfl rfl rfl ?_ | refine Ops.addI rfl rfl rfl rfl (by omega) (by omega) rfl ?_ | refine Ops.st1 rfl rfl rfl rfl rfl (by first | exact noPd rfl | (intro v A' hR i hi; obtain rfl := hR; (repeat (rcases List.mem_cons.1 hi with rfl | hi; · (first | exact Still.ld1 rfl rfl rfl rfl rfl | exact Still.ldN rfl rfl rfl rfl | exact Still.len rfl rfl rfl rfl rfl | exact Still.skip rfl rfl rfl | exact Still.ldRow1 rfl rfl rfl (by assumption) (by assumption) rfl rfl | exact Still.ldR rfl rfl rfl (by apply_assumption) rfl))); cases hi)) ?_)
    exact Ops.nilN (round_end (some (la, lc, G')) hG' Nat.zero_lt_one ⟨rfl, rfl, rfl, rfl, rfl, trivial⟩ (fun w h => h.split))
  · dsimp only at hI ⊢
    repeat' (first | refine Cd.seq ?_ | refine Cd.reg ?_ | refine Ops.mv rfl rfl rfl rfl ?_ | refine Ops.bin rfl rfl rfl rfl rfl ?_ | refine Cd.condF rfl rfl ?_ | refine Cd.exit (Cd.next (Q' := fun _ _ _ => True) ?_))
    refine Ops.call (fbag_spec fb db nb gn gl) rfl (noPd rfl) rfl rfl rfl (fun v A' hR => ?_)
    obtain ⟨rfl, rfl⟩ := hR
    repeat' (first | refine Ops.nil ?_ | refine Ops.mv rfl rfl rfl rfl ?_ | refine Ops.lenS rfl rfl rfl rfl ?_ | refine Cd.block ?_)
    refine Cd.loopK (σ := Unit) (fun _ => True) (fun _ => [(4, ptr ft), (5, .bool true), (69, .int .i64 0), (70, .int .i64 0)]) (fun _ => FtC ft va da dc (.slice la 1 lc) :: (LG ++ FlB fb nb gn gl kb km rb rc xb lb lm tb cb mb db wb sb sv G SD D)) (fun _ => 0) () trivial ⟨rfl, rfl, rfl, rfl, trivial⟩ (fun w h => h.split) (fun _ _ => ?_)
    repeat' (first | refine Cd.seq ?_ | refine Cd.reg ?_ | refine Ops.bin rfl rfl rfl rfl rfl ?_ | refine Cd.condF rfl rfl ?_ | refine Cd.exit (Cd.next (Q' := fun _ _ _ => True) ?_))
    refine Cd.draw [(0, 0, []), (1, 0, []), (2, 0, []), (3, 0, []), (4, 0, []), (5, 0, []), (6, 1, []), (7, 1, []), (8, 0, []), (9, 0, []), (10, 0, []), (11, 0, [])] (by kernel_rfl) (by kernel_rfl) (by simp only [picked, nth]; exact rfl) ?_
    repeat' (first | refine Ops.nil ?_ | refine Ops.mv rfl rfl rfl rfl ?_ | refine Ops.asg rfl rfl rfl rfl ?_ | refine Ops.nilP rfl rfl rfl rfl ?_ | refine Ops.fa0 rfl rfl rfl rfl ?_ | refine Ops.ld1 rfl rfl rfl rfl rfl ?_ | refine Ops.lenS rfl rfl rfl rfl ?_ | refine Ops.bin rfl rfl rfl rfl rfl ?_ | refine Ops.pickT rfl rfl rfl rfl rfl ?_)
    exact Cd.ret (ret2 (A' := FtB ft va da dc la lc :: (LG ++ FlB fb nb gn gl kb km rb rc xb lb lm tb cb mb db wb sb sv G SD D)) rfl (Res.tmp rfl) (Res.tmp rfl) (fun w h => h.split) ⟨ft, va, da, dc, la, lc, LG, rfl, rfl, hI⟩)
theorem munits_spec (B0 : Base) (fb nb gn gl kb km rb rc xb lb lm tb cb mb db wb sb : Nat) (sv : Value) (G SD D : List Blk) (hO : Se.OwnK sv (Se.fresh 1) G) (hS : StA sb ⟨2, [], 0, [], []⟩ SD) :
    ConB Tryz.prog B0 10 #[ptr fb] (FlB fb nb gn gl kb km rb rc xb lb lm tb cb mb db wb sb sv G SD D) fun v A => v = .tuple #[.int .i64 1, .int .i64 0] ∧ A = FlB fb nb gn gl kb km rb rc xb lb lm tb cb mb db wb sb sv G SD D := by
  refine ConB.intro (vs := [_]) Tryz.func10 rfl Tryz.ntmps10 rfl (fun B hB => ?_)
  repeat' (first | refine Cd.seq ?_ | refine Cd.reg ?_ | refine Ops.mv rfl rfl rfl rfl ?_ | refine Ops.asg rfl rfl rfl rfl ?_)
  refine Ops.callB (seen_spec B0 fb nb gn gl kb km rb rc xb lb lm tb cb mb db wb sb sv G SD D hO hS) hB rfl (noPd rfl) rfl rfl rfl (fun v A' hR => ?_)
  obtain ⟨ft, va, da, dc, la, lc, LG, rfl, rfl, hL⟩ := hR
  repeat' (first | refine Cd.seq ?_ | refine Cd.reg ?_ | refine Ops.nil ?_ | refine Ops.mv rfl rfl rfl rfl ?_ | refine Ops.asg rfl rfl rfl rfl ?_ | refine Ops.un rfl rfl rfl rfl ?_ | refine Ops.ext rfl rfl rfl rfl rfl ?_ | refine Cd.condF rfl rfl ?_ | refine Cd.skip (Cd.next ?_))
  refine Ops.call (units_spec ft va da dc la lc LG _ rfl hL) rfl (noPd rfl) rfl rfl rfl (fun v A' hR => ?_)
  obtain ⟨rfl, rfl⟩ := hR
  repeat' (first | refine Ops.nil ?_ | refine Ops.asg rfl rfl rfl rfl ?_)
  exact Cd.ret (ret2 (A' := FlB fb nb gn gl kb km rb rc xb lb lm tb cb mb db wb sb sv G SD D) rfl (Res.tmp rfl) (Res.tmp rfl) (fun w h => h.split) ⟨rfl, rfl⟩)
theorem mof_spec (B0 : Base) (fb nb gn gl kb km rb rc xb lb lm tb cb mb db wb sb : Nat) (sv : Value) (G SD D : List Blk) (hO : Se.OwnK sv (Se.fresh 1) G) (hS : StA sb ⟨2, [], 0, [], []⟩ SD) :
    ConB Tryz.prog B0 11 #[ptr fb] (FlB fb nb gn gl kb km rb rc xb lb lm tb cb mb db wb sb sv G SD D) fun v A => v = .tuple #[.int .i64 0, .int .i64 0] ∧ A = FlB fb nb gn gl kb km rb rc xb lb lm tb cb mb db wb sb sv G SD D := by
  refine ConB.intro (vs := [_]) Tryz.func11 rfl Tryz.ntmps11 rfl (fun B hB => ?_)
  repeat' (first | refine Cd.seq ?_ | refine Cd.reg ?_ | refine Ops.mv rfl rfl rfl rfl ?_ | refine Ops.asg rfl rfl rfl rfl ?_)
  refine Ops.callB (munits_spec B0 fb nb gn gl kb km rb rc xb lb lm tb cb mb db wb sb sv G SD D hO hS) hB rfl (noPd rfl) rfl rfl rfl (fun v A' hR => ?_)
  obtain ⟨rfl, rfl⟩ := hR
  repeat' (first | refine Cd.seq ?_ | refine Cd.reg ?_ | refine Ops.nil ?_ | refine Ops.mv rfl rfl rfl rfl ?_ | refine Ops.asg rfl rfl rfl rfl ?_ | refine Ops.bin rfl rfl rfl rfl rfl ?_ | refine Ops.ext rfl rfl rfl rfl rfl ?_ | refine Cd.condF rfl rfl ?_ | refine Cd.skip (Cd.next ?_))
  refine Ops.callB (settled_spec B0 fb nb gn gl kb rb xb lb tb cb mb db wb sb SD hS) hB rfl (noPd rfl) rfl rfl rfl (fun v A' hR => ?_)
  obtain ⟨rfl, rfl⟩ := hR
  repeat' (first | refine Cd.seq ?_ | refine Cd.reg ?_ | refine Ops.nil ?_ | refine Ops.asg rfl rfl rfl rfl ?_ | refine Cd.condT rfl rfl ?_)
  exact Cd.ret (ret2 (A' := FlB fb nb gn gl kb km rb rc xb lb lm tb cb mb db wb sb sv G SD D) rfl (Res.tmp rfl) (Res.tmp rfl) (fun w h => h.split) ⟨rfl, rfl⟩)
end Go.Proofs.YtkcmjgjfodipfaaGreat
namespace Go.Proofs.YtkcmjgjfodipfaaGreat
open Go Go.Sep Go.Proofs
set_option maxRecDepth 10000
set_option maxHeartbeats 40000000
set_option synthInstance.maxSize 2000
set_option linter.unusedSimpArgs false
set_option linter.unusedVariables false
/-! the fixed calls; the law -/
theorem mfixed_spec (B0 : Base) : ConB Tryz.prog B0 6 #[] [] fun v A => v = .bool true ∧ A = [] := by
  refine ConB.intro (vs := []) Tryz.func6 rfl Tryz.ntmps6 rfl (fun B hB => ?_)
  repeat' (first | refine Cd.seq ?_ | refine Cd.reg ?_ | refine Ops.asg rfl rfl rfl rfl ?_ | refine Ops.ldN rfl rfl rfl rfl ?_ | refine Ops.bld rfl rfl rfl rfl ?_ | refine Ops.alloc rfl rfl rfl (noPd rfl) (fun b => ?_) | refine Ops.stN rfl rfl rfl rfl rfl rfl (noPd rfl) ?_)
  refine Ops.callB (fnew_spec B0) hB rfl (noPd rfl) rfl rfl rfl (fun v A' hR => ?_)
  obtain ⟨fb, nb, gn, gl, kb, km, rb, rc, xb, lb, lm, tb, cb, mb, db, wb, sb, sv, G, SD, D, rfl, rfl, hO, hS⟩ := hR
  repeat' (first | refine Cd.seq ?_ | refine Cd.reg ?_ | refine Ops.nil ?_ | refine Ops.mv rfl rfl rfl rfl ?_ | refine Ops.asg rfl rfl rfl rfl ?_ | refine Ops.ldN rfl rfl rfl rfl ?_ | refine Ops.bin rfl rfl rfl rfl rfl ?_ | refine Ops.pickF rfl rfl rfl rfl rfl ?_ | refine Ops.ext rfl rfl rfl rfl rfl ?_ | refine Cd.condF rfl rfl ?_ | refine Cd.skip (Cd.next ?_))
  refine Ops.call (mf_spec cfm) rfl (noPd rfl) rfl rfl rfl (fun v A' hR => ?_)
  rw [fullF_yes cfm_ok, fullE_yes cfm_ok] at hR
  obtain ⟨rfl, rfl⟩ := hR
  repeat' (first | refine Cd.seq ?_ | refine Cd.reg ?_ | refine Ops.mv rfl rfl rfl rfl ?_ | refine Ops.asg rfl rfl rfl rfl ?_ | refine Ops.ext rfl rfl rfl rfl rfl ?_)
  refine Ops.callB (munits_spec B0 fb nb gn gl kb km rb rc xb lb lm tb cb mb db wb sb sv G SD D hO hS) hB rfl (noPd rfl) rfl rfl rfl (fun v A' hR => ?_)
  obtain ⟨rfl, rfl⟩ := hR
  repeat' (first | refine Cd.seq ?_ | refine Cd.reg ?_ | refine Ops.mv rfl rfl rfl rfl ?_ | refine Ops.asg rfl rfl rfl rfl ?_ | refine Ops.ext rfl rfl rfl rfl rfl ?_)
  refine Ops.callB (mof_spec B0 fb nb gn gl kb km rb rc xb lb lm tb cb mb db wb sb sv G SD D hO hS) hB rfl (noPd rfl) rfl rfl rfl (fun v A' hR => ?_)
  obtain ⟨rfl, rfl⟩ := hR
  repeat' (first | refine Cd.seq ?_ | refine Cd.reg ?_ | refine Ops.nil ?_ | refine Ops.mv rfl rfl rfl rfl ?_ | refine Ops.asg rfl rfl rfl rfl ?_ | refine Ops.bin rfl rfl rfl rfl rfl ?_ | refine Ops.pickT rfl rfl rfl rfl rfl ?_ | refine Ops.ext rfl rfl rfl rfl rfl ?_)
  exact Cd.ret (ret1 (A' := []) rfl (Res.tmp rfl) (fun _ h => h.split) ⟨rfl, rfl⟩)
/-- MeasureFull, as a call. -/
theorem mfull_spec (B0 : Base) (c : Cf) : ConB Tryz.prog B0 3 #[.agg c.row.toArray] [] fun v A => v = .bool true ∧ A = [] := by
  refine ConB.intro (vs := [_]) Tryz.func3 rfl Tryz.ntmps3 rfl (fun B hB => ?_)
  repeat' (first | refine Cd.seq ?_ | refine Cd.reg ?_ | refine Ops.asg rfl rfl rfl rfl ?_ | refine Ops.ldN rfl rfl rfl rfl ?_ | refine Ops.box rfl rfl rfl rfl (noPd rfl) (fun b => ?_))
  refine Ops.call (mf_spec c) rfl (noPd rfl) rfl rfl rfl (fun v A' hR => ?_)
  obtain ⟨rfl, rfl⟩ := hR
  repeat' (first | refine Cd.seq ?_ | refine Cd.reg ?_ | refine Ops.mv rfl rfl rfl rfl ?_ | refine Ops.asg rfl rfl rfl rfl ?_ | refine Ops.ldN rfl rfl rfl rfl ?_ | refine Ops.ext rfl rfl rfl rfl rfl ?_)
  refine Ops.call (rf_spec c) rfl (noPd rfl) rfl rfl rfl (fun v A' hR => ?_)
  obtain ⟨rfl, rfl⟩ := hR
  generalize fullF c = x
  generalize fullE c = y
  repeat' (first | refine Cd.seq ?_ | refine Cd.reg ?_ | refine Ops.mv rfl rfl rfl rfl ?_ | refine Ops.asg rfl rfl rfl rfl ?_ | refine Ops.bin rfl rfl rfl rfl rfl ?_ | refine Ops.pickT rfl rfl rfl rfl rfl ?_ | refine Ops.ext rfl rfl rfl rfl rfl ?_ | ((fail_if_success refine Ops.probe rfl ?_); refine Ops.gT rfl rfl (by first | rfl | assumption | (simp only [decide_eq_true_eq, decide_eq_false_iff_not, Bool.not_eq_true', Bool.not_eq_false', Bool.not_eq_eq_eq_not, Bool.not_true, Bool.not_false, beq_iff_eq, beq_eq_false_iff_ne, ne_eq, decide_eq_decide, eq_self, true_iff, iff_true, not_true_eq_false, not_false_eq_true]; first | done | omega)) ?_))
  refine Ops.callB (mfixed_spec B0) hB rfl (noPd rfl) rfl rfl rfl (fun v A' hR => ?_)
  obtain ⟨rfl, rfl⟩ := hR
  repeat' (first | refine Ops.nil ?_ | refine Ops.asg rfl rfl rfl rfl ?_ | refine Ops.pickT rfl rfl rfl rfl rfl ?_)
  exact Cd.ret (ret1 (A' := []) rfl (Res.tmp rfl) (fun _ h => h.split) ⟨rfl, rfl⟩)
end Go.Proofs.YtkcmjgjfodipfaaGreat
