import Derived.Test.YtnmjdoaogdaehaaGreatA38
import Derived.Test.YtnmjdoaogdaehaaGreatA27
import Derived.Test.YtnmjdoaogdaehaaGreatA21
namespace Go.Proofs.YtnmjdoaogdaehaaGreat
open Go Go.Sep Go.Proofs
set_option maxRecDepth 10000
set_option maxHeartbeats 40000000
set_option synthInstance.maxSize 2000
set_option linter.unusedSimpArgs false
set_option linter.unusedVariables false
/-! a hello is heard -/
theorem runner_yes (xb lb tb cb mb db wb sb : Nat) (c : Cf) (hc : CfOk c) (tv : Value) (dead : Bool) (node life : Int) (h1 : 2 ≤ node) (h2 : node < 2 + c.runners) (h3 : 1 ≤ life) (h4 : life ≤ 1099511627776) :
    Con Tryz.prog 23 #[ptr xb, .agg [.int .i64 node, .int .i64 life].toArray] [CoB xb lb tb cb mb db wb sb c tv dead] fun v A => v = .bool true ∧ A = [CoB xb lb tb cb mb db wb sb c tv dead] := by
  obtain ⟨⟨a1, a2⟩, _⟩ := id hc
  refine Con.intro (vs := [_, _]) Tryz.func23 rfl Tryz.ntmps23 rfl (fun B => ?_)
  repeat' (first | refine Cd.seq ?_ | refine Cd.reg ?_ | refine Ops.asg rfl rfl rfl rfl ?_ | refine Ops.box rfl rfl rfl rfl (noPd rfl) (fun b => ?_))
  refine Cd.draw [(0, 0, []), (1, 1, []), (2, 0, []), (3, 0, []), (4, 0, []), (5, 1, []), (6, 0, []), (7, 0, []), (8, 0, []), (9, 0, []), (10, 1, []), (11, 0, []), (12, 0, []), (13, 0, []), (14, 0, []), (15, 0, []), (16, 1, []), (17, 0, []), (18, 0, []), (19, 0, []), (20, 0, []), (21, 1, []), (22, 0, []), (23, 0, []), (24, 0, [])] (by kernel_rfl) (by kernel_rfl) (by simp only [picked, nth]; exact rfl) ?_
  repeat' (first | refine Ops.nil ?_ | refine Ops.mv rfl rfl rfl rfl ?_ | refine Ops.asg rfl rfl rfl rfl ?_ | refine Ops.nilP rfl rfl rfl rfl ?_ | refine Ops.fa0 rfl rfl rfl rfl ?_ | refine Ops.fa rfl rfl rfl rfl ?_ | refine Ops.ld1 rfl rfl rfl rfl rfl ?_ | refine Ops.addI rfl rfl rfl rfl (by omega) (by omega) rfl ?_ | refine Ops.bin rfl rfl rfl rfl rfl ?_ | refine Ops.pickT rfl rfl rfl rfl rfl ?_ | ((fail_if_success refine Ops.probe rfl ?_); refine Ops.gT rfl rfl (by first | rfl | assumption | (simp only [decide_eq_true_eq, decide_eq_false_iff_not, Bool.not_eq_true', Bool.not_eq_false', Bool.not_eq_eq_eq_not, Bool.not_true, Bool.not_false, beq_iff_eq, beq_eq_false_iff_ne, ne_eq, decide_eq_decide, eq_self, true_iff, iff_true, not_true_eq_false, not_false_eq_true]; first | done | omega)) ?_))
  exact Cd.ret (ret1 (A' := [CoB xb lb tb cb mb db wb sb c tv dead]) rfl (Res.tmp rfl) (fun _ h => h.split) ⟨by rw [decide_eq_true h4], rfl⟩)
theorem does_hello (xb : Nat) (node life : Int) (m : Ms) (hm : m.kind = 1) : Con Tryz.prog 24 #[.agg (heV xb node life m).toArray] [] fun v A => v = .func (.func 52) [.agg (heV xb node life m).toArray].toArray #[] ∧ A = [] := by
  refine Con.intro (vs := [_]) Tryz.func24 rfl Tryz.ntmps24 rfl (fun B => ?_)
  repeat' (first | refine Ops.mkF rfl rfl rfl rfl rfl ?_ | refine Cd.seq ?_ | refine Cd.reg ?_ | refine Ops.nil ?_ | refine Ops.asg rfl rfl rfl rfl ?_ | refine Ops.fa0 rfl rfl rfl rfl ?_ | refine Ops.fa rfl rfl rfl rfl ?_ | refine Ops.ld1 rfl rfl rfl rfl rfl ?_ | refine Ops.ldN rfl rfl rfl rfl ?_ | refine Ops.bin rfl rfl rfl rfl rfl ?_ | refine Ops.box rfl rfl rfl rfl (noPd rfl) (fun b => ?_) | refine Cd.block ?_ | refine Cd.condT rfl (by first | rfl | assumption | (simp only [decide_eq_true_eq, decide_eq_false_iff_not, Bool.not_eq_true', Bool.not_eq_false', Bool.not_eq_eq_eq_not, Bool.not_true, Bool.not_false, beq_iff_eq, beq_eq_false_iff_ne, ne_eq, decide_eq_decide, eq_self, true_iff, iff_true, not_true_eq_false, not_false_eq_true]; first | done | omega)) ?_)
  exact Cd.ret (ret1 (A' := []) rfl (Res.tmp rfl) (fun _ h => h.split) ⟨rfl, rfl⟩)
/-- A datagram. -/
@[reducible] def dgV (number fn fl tn tl : Int) (s : ByteArray) : List Value := [.int .i64 number, .int .i64 fn, .int .i64 fl, .int .i64 tn, .int .i64 tl, .string s]
theorem hear1_hello (B0 : Base) (xb lb tb cb mb db wb sb : Nat) (c : Cf) (hc : CfOk c) (tv : Value) (dead : Bool) (CA : List Blk) (node life : Int) (h1 : 2 ≤ node) (h2 : node < 2 + c.runners) (h3 : 1 ≤ life) (h4 : life ≤ 1099511627776)
    (data : ByteArray) (hsz : data.size < 9223372036854775808) (m : Ms) (hdec : decF data = (m, 0)) (hm : m.kind = 1) (reply : ByteArray) (hrep : ¬ reply = ⟨#[]⟩) (R : List Blk → Prop)
    (hh : ConB Tryz.prog B0 52 #[.agg (heV xb node life m).toArray] (CoB xb lb tb cb mb db wb sb c tv dead :: CA) fun v A => v = .string reply ∧ R A) (dx xx fx sx : Nat) :
    ConB Tryz.prog B0 21 #[ptr dx, ptr xx, ptr fx, ptr sx] (CoB xb lb tb cb mb db wb sb c tv dead :: (CA ++ [(dx, cl [.string data] 9), (xx, cl [ptr xb] 32), (fx, cl [.int .i64 node, .int .i64 life] 40), (sx, cl [.slice none 0 0] 36)]))
      fun v A => ∃ A1 g, R A1 ∧ A = A1 ++ [(sx, cl [.slice (some ⟨g, 0, none⟩) 1 1] 36), (g, cl (dgV 0 0 0 node life reply) 45)] := by
  refine ConB.intro (vs := [_, _, _, _]) Tryz.func21 rfl Tryz.ntmps21 rfl (fun B hB => ?_)
  repeat' (first | refine Cd.seq ?_ | refine Cd.reg ?_ | refine Ops.ld1 rfl rfl rfl rfl rfl ?_)
  refine Ops.callB (wdecode_spec B0 data hsz) hB rfl (noPd rfl) rfl rfl rfl (fun v A' hR => ?_)
  rw [hdec] at hR
  obtain ⟨rfl, rfl⟩ := hR
  dsimp only
  repeat' (first | refine Cd.seq ?_ | refine Cd.reg ?_ | refine Ops.mv rfl rfl rfl rfl ?_ | refine Ops.asg rfl rfl rfl rfl ?_ | refine Ops.ld1 rfl rfl rfl rfl rfl ?_ | refine Ops.ldN rfl rfl rfl rfl ?_ | refine Ops.bin rfl rfl rfl rfl rfl ?_ | refine Ops.ext rfl rfl rfl rfl rfl ?_ | refine Ops.alloc rfl rfl rfl (noPd rfl) (fun b => ?_) | refine Ops.stN rfl rfl rfl rfl rfl rfl (noPd rfl) ?_)
  rename Nat => mx
  refine Ops.call (runner_yes xb lb tb cb mb db wb sb c hc tv dead node life h1 h2 h3 h4) rfl (noPd rfl) rfl rfl rfl (fun v A' hR => ?_)
  obtain ⟨rfl, rfl⟩ := hR
  repeat' (first | refine Cd.seq ?_ | refine Cd.reg ?_ | refine Ops.nil ?_ | refine Ops.ld1 rfl rfl rfl rfl rfl ?_ | refine Ops.ldN rfl rfl rfl rfl ?_ | refine Ops.un rfl rfl rfl rfl ?_ | refine Ops.pickF rfl rfl rfl rfl rfl ?_ | refine Ops.bld rfl rfl rfl rfl ?_ | refine Ops.alloc rfl rfl rfl (noPd rfl) (fun b => ?_) | refine Ops.stN rfl rfl rfl rfl rfl rfl (noPd rfl) ?_ | refine Cd.condF rfl rfl ?_ | refine Cd.skip (Cd.next ?_))
  rename Nat => yx
  refine Ops.call (does_hello xb node life m hm) rfl (noPd rfl) rfl rfl rfl (fun v A' hR => ?_)
  obtain ⟨rfl, rfl⟩ := hR
  repeat' (first | refine Cd.seq ?_ | refine Cd.reg ?_ | refine Ops.nil ?_ | refine Ops.mv rfl rfl rfl rfl ?_ | refine Ops.asg rfl rfl rfl rfl ?_ | refine Ops.bin rfl rfl rfl rfl rfl ?_ | refine Cd.condF rfl rfl ?_ | refine Cd.skip (Cd.next ?_))
  refine Ops.callVB (fi := [.agg (heV xb node life m).toArray]) (ca := []) (vs := []) hh hB rfl (noPd rfl) rfl rfl rfl rfl (fun v A' hR => ?_)
  obtain ⟨rfl, hR⟩ := hR
  repeat' (first | refine Cd.seq ?_ | refine Cd.reg ?_ | refine Ops.nil ?_ | refine Ops.mv rfl rfl rfl rfl ?_ | refine Ops.asg rfl rfl rfl rfl ?_ | refine Ops.ldN rfl rfl rfl rfl ?_ | refine Ops.bin rfl rfl rfl rfl rfl ?_ | refine Ops.bld rfl rfl rfl rfl ?_ | refine Ops.bs1 rfl rfl rfl rfl rfl rfl rfl (noPd rfl) (fun b => ?_) | refine Ops.st1 rfl rfl rfl rfl rfl (noPd rfl) ?_ | refine Cd.skip (Cd.next ?_) | refine Cd.condF rfl (by first | rfl | assumption | (simp only [decide_eq_true_eq, decide_eq_false_iff_not, Bool.not_eq_true', Bool.not_eq_false', Bool.not_eq_eq_eq_not, Bool.not_true, Bool.not_false, beq_iff_eq, beq_eq_false_iff_ne, ne_eq, decide_eq_decide, eq_self, true_iff, iff_true, not_true_eq_false, not_false_eq_true]; first | done | omega)) ?_)
  rename Nat => g
  exact Ops.nilN (end0 (A' := A' ++ [(sx, cl [.slice (some ⟨g, 0, none⟩) 1 1] 36), (g, cl (dgV 0 0 0 node life reply) 45)]) rfl (fun _ h => h.split) ⟨A', g, hR, rfl⟩)
/-- Heard, while the disk lives. -/
theorem hear_hello (B0 : Base) (xb lb tb cb mb db wb sb : Nat) (c : Cf) (hc : CfOk c) (tv : Value) (x : Dk) (k : Nat) (D : List Blk) (hD : DkA db x k D) (hde : x.de = false) (F : List Blk) (node life : Int) (h1 : 2 ≤ node) (h2 : node < 2 + c.runners) (h3 : 1 ≤ life) (h4 : life ≤ 1099511627776)
    (data : ByteArray) (hsz : data.size < 9223372036854775808) (m : Ms) (hdec : decF data = (m, 0)) (hm : m.kind = 1) (reply : ByteArray) (hrep : ¬ reply = ⟨#[]⟩) (R : List Blk → Prop)
    (hh : ConB Tryz.prog B0 52 #[.agg (heV xb node life m).toArray] (CoB xb lb tb cb mb db wb sb c tv false :: (D ++ F)) fun v A => v = .string reply ∧ R A) :
    ConB Tryz.prog B0 12 #[ptr xb, .agg [.int .i64 node, .int .i64 life].toArray, .string data] (CoB xb lb tb cb mb db wb sb c tv false :: (D ++ F))
      fun v A => ∃ A1 g, v = .tuple #[.slice (some ⟨g, 0, none⟩) 1 1, .int .i64 0] ∧ R A1 ∧ A = A1 ++ [(g, cl (dgV 0 0 0 node life reply) 45)] := by
  refine ConB.intro (vs := [_, _, _]) Tryz.func12 rfl Tryz.ntmps12 rfl (fun B hB => ?_)
  repeat' (first | refine Ops.mkF rfl rfl rfl rfl rfl ?_ | refine Cd.seq ?_ | refine Cd.reg ?_ | refine Ops.asg rfl rfl rfl rfl ?_ | refine Ops.ld1 rfl rfl rfl rfl rfl ?_ | refine Ops.box rfl rfl rfl rfl (noPd rfl) (fun b => ?_) | refine Ops.alloc rfl rfl rfl (noPd rfl) (fun b => ?_))
  rename_i xx fx dx
  rename Nat => sx
  have hd := hear1_hello B0 xb lb tb cb mb db wb sb c hc tv false (D ++ F) node life h1 h2 h3 h4 data hsz m hdec hm reply hrep R hh dx xx fx sx
  rw [List.append_assoc] at hd
  refine Ops.callB (caught_calm B0 xb lb tb cb mb db wb sb c tv x k D hD hde _ 21 [ptr dx, ptr xx, ptr fx, ptr sx] _ hd) hB rfl (noPd rfl) rfl rfl rfl (fun v A' hR => ?_)
  obtain ⟨rfl, v0, A1, g, hR, rfl⟩ := hR
  repeat' (first | refine Cd.seq ?_ | refine Cd.reg ?_ | refine Ops.nil ?_ | refine Ops.mv rfl rfl rfl rfl ?_ | refine Ops.asg rfl rfl rfl rfl ?_ | refine Ops.ld1 rfl rfl rfl rfl rfl ?_ | refine Ops.bin rfl rfl rfl rfl rfl ?_ | refine Cd.condF rfl rfl ?_ | refine Cd.skip (Cd.next ?_))
  exact Cd.ret (ret2 (A' := A1 ++ [(g, cl (dgV 0 0 0 node life reply) 45)]) rfl (Res.tmp rfl) (Res.tmp rfl) (fun _ h => h.split) ⟨A1, g, rfl, hR, rfl⟩)
end Go.Proofs.YtnmjdoaogdaehaaGreat
namespace Go.Proofs.YtnmjdoaogdaehaaGreat
open Go Go.Sep Go.Proofs
set_option maxRecDepth 10000
set_option maxHeartbeats 40000000
set_option synthInstance.maxSize 2000
set_option linter.unusedSimpArgs false
set_option linter.unusedVariables false
/-! what was made is told -/
theorem cloneT_nil : Con Tryz.prog 26 #[.slice none 0 0] [] fun v A => v = .slice none 0 0 ∧ A = [] := by
  refine Con.intro (vs := [_]) Tryz.func26 rfl Tryz.ntmps26 rfl (fun B => ?_)
  repeat' (first | refine Cd.seq ?_ | refine Cd.reg ?_ | refine Ops.nil ?_ | refine Ops.mv rfl rfl rfl rfl ?_ | refine Ops.asg rfl rfl rfl rfl ?_ | refine Ops.bin rfl rfl rfl rfl rfl ?_ | refine Cd.condT rfl rfl ?_)
  exact Cd.ret (ret1 (A' := []) rfl (Res.tmp rfl) (fun _ h => h.split) ⟨rfl, rfl⟩)
theorem ctold_spec (xb lb tb cb mb db wb sb : Nat) (c : Cf) (dead : Bool) (tv : Value) (tl : List Cg) (TG : List Blk) (hT : OwnC tv tl TG) (htl : tl.length ≤ 1000000000) (hnil : ∀ g ∈ tl, g.a = none ∧ g.c.txs = [] ∧ g.k = 0) :
    Con Tryz.prog 14 #[ptr xb] (CoB xb lb tb cb mb db wb sb c tv dead :: TG) fun v A => ∃ a, v = .slice a tl.length tl.length ∧ A = CoB xb lb tb cb mb db wb sb c (.slice none 0 0) dead :: TG ∧ Rs 51 10 (.slice a tl.length tl.length) (tl.map Cg.row) TG := by
  obtain ⟨ta, tc, rfl⟩ := hT.form
  have hcut := own_cut hT
  refine Con.intro (vs := [_]) Tryz.func14 rfl Tryz.ntmps14 rfl (fun B => ?_)
  repeat' (first | refine Cd.seq ?_ | refine Cd.reg ?_ | refine Ops.nil ?_ | refine Ops.mv rfl rfl rfl rfl ?_ | refine Ops.asg rfl rfl rfl rfl ?_ | refine Ops.nilP rfl rfl rfl rfl ?_ | refine Ops.fa0 rfl rfl rfl rfl ?_ | refine Ops.ld1 rfl rfl rfl rfl rfl ?_ | refine Ops.lenS rfl rfl rfl rfl ?_ | refine Ops.st1 rfl rfl rfl rfl rfl (noPd rfl) ?_ | refine Cd.block ?_)
  refine Cd.loopK (σ := Nat) (fun i => i ≤ tl.length) (fun i => [(3, .slice ta tl.length tc), (13, .int .i64 ((tl.length : Nat) : Int)), (14, .int .i64 ((i : Nat) : Int))]) (fun _ => CoB xb lb tb cb mb db wb sb c (.slice none 0 0) dead :: TG) (fun i => tl.length - i) 0 (Nat.zero_le _) ⟨rfl, rfl, rfl, trivial⟩ (fun w h => h.split) (fun i hi => ?_)
  by_cases hlt : i < tl.length
  · have hlt' : ((i : Nat) : Int) < ((tl.length : Nat) : Int) := by omega
    obtain ⟨g, hg⟩ : ∃ g, tl[i]? = some g := ⟨_, List.getElem?_eq_getElem hlt⟩
    obtain ⟨e1, e2, e3⟩ := hnil g (List.mem_of_getElem? hg)
    have hok := hT.1
    obtain ⟨gb, c', sp, hsv, rfl, hsp, hle⟩ := Own.some_ hT (by rw [List.length_map]; omega)
    injection hsv with q1 q2 q3
    subst q1
    have hgr : g.row = [.int .i64 g.c.kind, .int .i64 g.c.n, .int .i64 g.c.job, .int .i64 g.c.badge, .int .i64 g.c.slot, .int .i64 g.c.life, .int .i64 g.c.rcode, .int .u64 g.c.rbits, .string g.c.prog, .slice none 0 0] := by
      rw [show g.row = g.c.row g.a g.k from rfl, e1, e3, Ch.row, e2]; rfl
    have hg1 : (tl.map Cg.row)[i]? = some g.row := by rw [List.getElem?_map, hg]; rfl
    have hset : (tl.map Cg.row).set i (([.int .i64 g.c.kind, .int .i64 g.c.n, .int .i64 g.c.job, .int .i64 g.c.badge, .int .i64 g.c.slot, .int .i64 g.c.life, .int .i64 g.c.rcode, .int .u64 g.c.rbits, .string g.c.prog, .slice none 0 0] : List Value).set 9 (.slice none 0 0)) = tl.map Cg.row := by
      rw [show ([.int .i64 g.c.kind, .int .i64 g.c.n, .int .i64 g.c.job, .int .i64 g.c.badge, .int .i64 g.c.slot, .int .i64 g.c.life, .int .i64 g.c.rcode, .int .u64 g.c.rbits, .string g.c.prog, .slice none 0 0] : List Value).set 9 (.slice none 0 0) = g.row from hgr.symm]
      obtain ⟨q4, q5⟩ := List.getElem?_eq_some_iff.1 hg1
      rw [← q5]; exact List.set_getElem_self q4
    have hrow : (tl.map Cg.row)[((i : Nat) : Int).toNat]? = some [.int .i64 g.c.kind, .int .i64 g.c.n, .int .i64 g.c.job, .int .i64 g.c.badge, .int .i64 g.c.slot, .int .i64 g.c.life, .int .i64 g.c.rcode, .int .u64 g.c.rbits, .string g.c.prog, .slice none 0 0] := by rw [Int.toNat_natCast, hg1, hgr]
    repeat' (first | refine Cd.seq ?_ | refine Cd.reg ?_ | refine Ops.mv rfl rfl rfl rfl ?_ | refine Ops.asg rfl rfl rfl rfl ?_ | refine Ops.fa rfl rfl rfl rfl ?_ | refine Ops.bin rfl rfl rfl rfl rfl ?_ | refine Cd.block ?_ | refine Cd.skip (Cd.next ?_) | refine Ops.ixa0 rfl rfl rfl rfl (by omega) (by omega) rfl ?_ | refine Ops.ldRow1 rfl rfl rfl (by assumption) (by assumption) rfl rfl ?_ | refine Cd.condT rfl (by first | rfl | assumption | (simp only [decide_eq_true_eq, decide_eq_false_iff_not, Bool.not_eq_true', Bool.not_eq_false', Bool.not_eq_eq_eq_not, Bool.not_true, Bool.not_false, beq_iff_eq, beq_eq_false_iff_ne, ne_eq, decide_eq_decide, eq_self, true_iff, iff_true, not_true_eq_false, not_false_eq_true]; first | done | omega)) ?_)
    refine Ops.call cloneT_nil rfl (noPd rfl) rfl rfl rfl (fun v A' hR => ?_)
    obtain ⟨rfl, rfl⟩ := hR
    refine Ops.call (clipT_spec none 0 0 (Nat.le_refl _)) rfl (noPd rfl) rfl rfl rfl (fun v A' hR => ?_)
    obtain ⟨rfl, rfl⟩ := hR
    repeat' (first | refine Ops.fa rfl rfl rfl rfl ?_ | refine Ops.ixa0 rfl rfl rfl rfl (by omega) (by omega) rfl ?_)
    refine Ops.stRow1 (i := i) (o := 9) (r := [.int .i64 g.c.kind, .int .i64 g.c.n, .int .i64 g.c.job, .int .i64 g.c.badge, .int .i64 g.c.slot, .int .i64 g.c.life, .int .i64 g.c.rcode, .int .u64 g.c.rbits, .string g.c.prog, .slice none 0 0]) rfl rfl rfl rfl rfl hok hrow rfl (noPd rfl) ?_
    rw [hset]
    repeat' (first | refine Ops.nilN (inB (Cd.next ?_)) | refine Cd.reg ?_ | refine Ops.mv rfl rfl rfl rfl ?_ | refine Ops.addI rfl rfl rfl rfl (by omega) (by omega) rfl ?_)
    exact Ops.nilN (round_end (i + 1 : Nat) (by show i + 1 ≤ tl.length; omega) (by show tl.length - (i + 1) < tl.length - i; omega) ⟨rfl, rfl, rfl, trivial⟩ (fun w h => h.split))
  · have hlt' : ¬ ((i : Nat) : Int) < ((tl.length : Nat) : Int) := by omega
    repeat' (first | refine Cd.seq ?_ | refine Cd.reg ?_ | refine Ops.mv rfl rfl rfl rfl ?_ | refine Ops.lenS rfl rfl rfl rfl ?_ | refine Ops.bin rfl rfl rfl rfl rfl ?_ | refine Cd.exit (Cd.next (Q' := fun _ _ _ => True) ?_) | refine Cd.condF rfl (by first | rfl | assumption | (simp only [decide_eq_true_eq, decide_eq_false_iff_not, Bool.not_eq_true', Bool.not_eq_false', Bool.not_eq_eq_eq_not, Bool.not_true, Bool.not_false, beq_iff_eq, beq_eq_false_iff_ne, ne_eq, decide_eq_decide, eq_self, true_iff, iff_true, not_true_eq_false, not_false_eq_true]; first | done | omega)) ?_)
    refine Ops.slHM rfl rfl rfl rfl rfl (by omega) (by omega) (by omega) rfl ?_
    rw [Int.toNat_natCast]
    repeat' (first | refine Ops.nil ?_ | refine Ops.asg rfl rfl rfl rfl ?_)
    exact Cd.ret (ret1 (A' := CoB xb lb tb cb mb db wb sb c (.slice none 0 0) dead :: TG) rfl (Res.tmp rfl) (fun _ h => h.split) ⟨ta, rfl, rfl, hcut.2⟩)
/-- A tick while nothing is held. -/
theorem tick1_nil (B0 : Base) (xb lb lm tb cb mb db wb sb : Nat) (c : Cf) (hc : CfOk c) (dead : Bool) (tv : Value) (bx : Nat) :
    ConB Tryz.prog B0 27 #[ptr bx] (CoB xb lb tb cb mb db wb sb c tv dead :: (Ls.TB lb lm c.lease [] 0 ++ [(bx, cl [ptr xb] 32)])) fun v A => ∃ lb1 lm1 es ck, A = CoB xb lb1 tb cb mb db wb sb c tv dead :: (Ls.TB lb1 lm1 c.lease es ck ++ [(bx, cl [ptr xb] 32)]) ∧ Ls.TOk c.lease [] es ck := by
  obtain ⟨_, ⟨b1, b2⟩, _⟩ := id hc
  refine ConB.intro (vs := [_]) Tryz.func27 rfl Tryz.ntmps27 rfl (fun B hB => ?_)
  repeat' (first | refine Cd.seq ?_ | refine Cd.reg ?_ | refine Ops.nilP rfl rfl rfl rfl ?_ | refine Ops.fa0 rfl rfl rfl rfl ?_ | refine Ops.ld1 rfl rfl rfl rfl rfl ?_)
  refine Ops.call (Ls.clone_spec lb lm c.lease [] 0) rfl (noPd rfl) rfl rfl rfl (fun v A' hR => ?_)
  obtain ⟨lb1, lm1, rfl, rfl⟩ := hR
  repeat' (first | refine Cd.seq ?_ | refine Cd.reg ?_ | refine Ops.mv rfl rfl rfl rfl ?_ | refine Ops.asg rfl rfl rfl rfl ?_)
  refine Ops.call (Ls.tick_spec lb1 lm1 c.lease [] [] 0 (Ls.TOk.new b1 b2)) rfl (noPd rfl) rfl rfl rfl (fun v A' hR => ?_)
  obtain ⟨es, ck, G, hrs, rfl, hok⟩ := hR
  obtain ⟨ra, rc, rfl⟩ := Rs.form hrs
  rw [show (List.map Ls.LE.row (Ls.overF [])).length = 0 from rfl]
  clear hrs
  repeat' (first | refine Cd.seq ?_ | refine Cd.reg ?_ | refine Ops.nil ?_ | refine Ops.mv rfl rfl rfl rfl ?_ | refine Ops.asg rfl rfl rfl rfl ?_ | refine Ops.lenS rfl rfl rfl rfl ?_ | refine Cd.block ?_)
  refine Cd.loopK (σ := Unit) (fun _ => True) (fun _ => [(0, ptr bx), (1, ptr lb1), (2, .slice ra 0 rc), (3, .slice none 0 0), (17, .int .i64 0), (18, .int .i64 0)]) (fun _ => CoB xb lb tb cb mb db wb sb c tv dead :: (Ls.TB lb1 lm1 c.lease es ck ++ [(bx, cl [ptr xb] 32)])) (fun _ => 0) () trivial ⟨rfl, rfl, rfl, rfl, rfl, rfl, trivial⟩ (fun w h => h.split) (fun _ _ => ?_)
  repeat' (first | refine Cd.seq ?_ | refine Cd.reg ?_ | refine Ops.mv rfl rfl rfl rfl ?_ | refine Ops.ld1 rfl rfl rfl rfl rfl ?_ | refine Ops.bin rfl rfl rfl rfl rfl ?_ | refine Cd.condF rfl rfl ?_ | refine Cd.exit (Cd.next (Q' := fun _ _ _ => True) ?_))
  refine Ops.callB (makes_nil B0 xb none 0) hB rfl (noPd rfl) rfl rfl rfl (fun v A' hR => ?_)
  subst hR
  repeat' (first | refine Cd.seq ?_ | refine Cd.reg ?_ | refine Ops.nil ?_ | refine Ops.mv rfl rfl rfl rfl ?_ | refine Ops.nilP rfl rfl rfl rfl ?_ | refine Ops.fa0 rfl rfl rfl rfl ?_ | refine Ops.ld1 rfl rfl rfl rfl rfl ?_ | refine Ops.lenS rfl rfl rfl rfl ?_ | refine Ops.st1 rfl rfl rfl rfl rfl (noPd rfl) ?_ | refine Cd.block ?_)
  refine Cd.loopK (σ := Unit) (fun _ => True) (fun _ => [(38, .int .i64 0), (39, .int .i64 0)]) (fun _ => CoB xb lb1 tb cb mb db wb sb c tv dead :: (Ls.TB lb1 lm1 c.lease es ck ++ [(bx, cl [ptr xb] 32)])) (fun _ => 0) () trivial ⟨rfl, rfl, trivial⟩ (fun w h => h.split) (fun _ _ => ?_)
  repeat' (first | refine Cd.seq ?_ | refine Cd.reg ?_ | refine Ops.bin rfl rfl rfl rfl rfl ?_ | refine Cd.condF rfl rfl ?_)
  exact Cd.exit (inTx (roundX (inBs (end0 (A' := CoB xb lb1 tb cb mb db wb sb c tv dead :: (Ls.TB lb1 lm1 c.lease es ck ++ [(bx, cl [ptr xb] 32)])) rfl (fun _ h => h.split) ⟨lb1, lm1, es, ck, rfl, hok⟩))))
theorem tick_nil (B0 : Base) (xb lb lm tb cb mb db wb sb : Nat) (c : Cf) (hc : CfOk c) (tv : Value) (x : Dk) (k : Nat) (D : List Blk) (hD : DkA db x k D) (hde : x.de = false) :
    ConB Tryz.prog B0 15 #[ptr xb] (CoB xb lb tb cb mb db wb sb c tv false :: (D ++ Ls.TB lb lm c.lease [] 0)) fun v A => v = .int .i64 0 ∧ ∃ lb1 lm1 es ck, A = CoB xb lb1 tb cb mb db wb sb c tv false :: (D ++ Ls.TB lb1 lm1 c.lease es ck) ∧ Ls.TOk c.lease [] es ck := by
  refine ConB.intro (vs := [_]) Tryz.func15 rfl Tryz.ntmps15 rfl (fun B hB => ?_)
  repeat' (first | refine Ops.mkF rfl rfl rfl rfl rfl ?_ | refine Cd.seq ?_ | refine Cd.reg ?_ | refine Ops.asg rfl rfl rfl rfl ?_ | refine Ops.ld1 rfl rfl rfl rfl rfl ?_ | refine Ops.box rfl rfl rfl rfl (noPd rfl) (fun b => ?_))
  rename Nat => bx
  have hd : ConB Tryz.prog B0 27 [ptr bx].toArray (CoB xb lb tb cb mb db wb sb c tv false :: (D ++ (Ls.TB lb lm c.lease [] 0 ++ [(bx, cl [ptr xb] 32)]))) fun v A => ∃ lb1 lm1 es ck, A = (CoB xb lb1 tb cb mb db wb sb c tv false :: (Ls.TB lb1 lm1 c.lease es ck ++ [(bx, cl [ptr xb] 32)])) ++ D ∧ Ls.TOk c.lease [] es ck :=
    (((tick1_nil B0 xb lb lm tb cb mb db wb sb c hc false tv bx).beside (F := D)).mono fun v A hR => by
      obtain ⟨A2, ⟨lb1, lm1, es, ck, rfl, h2⟩, rfl⟩ := hR
      exact ⟨lb1, lm1, es, ck, rfl, h2⟩).permIn (List.Perm.cons _ List.perm_append_comm)
  refine Ops.callB (caught_calm B0 xb lb tb cb mb db wb sb c tv x k D hD hde _ 27 [ptr bx] _ hd) hB rfl (noPd rfl) rfl rfl rfl (fun v A' hR => ?_)
  obtain ⟨rfl, v0, lb1, lm1, es, ck, rfl, hok⟩ := hR
  repeat' (first | refine Ops.nil ?_ | refine Ops.asg rfl rfl rfl rfl ?_)
  exact Cd.ret (ret1 (A' := CoB xb lb1 tb cb mb db wb sb c tv false :: (D ++ Ls.TB lb1 lm1 c.lease es ck)) rfl (Res.tmp rfl) (fun _ h => h.split) ⟨rfl, lb1, lm1, es, ck, rfl, hok⟩)
end Go.Proofs.YtnmjdoaogdaehaaGreat
namespace Go.Proofs.YtnmjdoaogdaehaaGreat
open Go Go.Sep Go.Proofs
set_option maxRecDepth 100000
set_option linter.unusedSimpArgs false
set_option linter.unusedVariables false
/-! what the fixed calls compute -/
def cf0 : Cf := ⟨2, 4, 2, 2, 2, 4, 2, 4, 160⟩
theorem cf0_ok : CfOk cf0 := by decide
def dk0 : Dk := ⟨List.replicate 322 zs, 0, 0, false⟩
def sec1 : ByteArray := sectorF ⟨1, 0, 0, 0⟩
theorem dk0_calm : Calm dk0 322 := ⟨rfl, rfl, by show (List.replicate 322 zs).length = 322; simp, fun s hs => by
  rw [show dk0.S = List.replicate 322 zs from rfl, List.mem_replicate] at hs
  rw [hs.2]; simp [zs, ByteArray.size]⟩
def dk1 : Dk := (dk0.write 1 sec1).1
theorem dk1_calm : Calm dk1 322 ∧ (dk0.write 1 sec1).2 = 0 := by
  have h := write_calm dk0_calm (i := 1) (by decide) (sectorF_size ⟨1, 0, 0, 0⟩)
  exact ⟨h.2, h.1⟩
theorem zs_none (S : List ByteArray) (at_ : Nat) (h : S.getD at_ .empty = zs) : foundF S at_ = none := by
  unfold foundF
  rw [h]
  have e : ofF (zs.extract 0 8) = 0 := by kernel_rfl
  dsimp only
  rw [if_pos (.inl (by rw [e]; decide))]
theorem counts0 : countsF dk0.S = none := by
  have h : ∀ i, i < 322 → dk0.S.getD i .empty = zs := fun i hi => by
    rw [show dk0.S = List.replicate 322 zs from rfl, List.getD_eq_getElem?_getD, List.getElem?_replicate_of_lt hi]; rfl
  unfold countsF
  rw [zs_none _ 0 (h 0 (by decide)), zs_none _ 1 (h 1 (by decide))]
theorem format0 : formatF dk0 = (dk1, 0) := by
  unfold formatF
  rw [if_neg (by decide), if_neg (by rw [dk0_calm.len]; decide), counts0]
  rw [if_neg (by decide)]
  exact Prod.ext rfl dk1_calm.2
theorem dk1_S : dk1.S = (List.replicate 322 zs).set 1 sec1 := by kernel_rfl
theorem open1 : openW dk1 = (some (⟨1, 0, 0, 0⟩, ⟨#[]⟩, []), 0) := by
  have h0 : dk1.S.getD 0 .empty = zs := by rw [dk1_S]; rfl
  have h1 : dk1.S.getD 1 .empty = sec1 := by rw [dk1_S]; rfl
  have hf : foundF dk1.S 1 = some (⟨1, 0, 0, 0⟩, ⟨#[]⟩, []) := by
    unfold foundF
    rw [h1]
    have e1 : ofF (sec1.extract 0 8) = 1 := by kernel_rfl
    have e2 : rdN sec1 9 13 = 0 := by kernel_rfl
    have e3 : rdN sec1 13 17 = 0 := by kernel_rfl
    have e4 : bat sec1 8 = 0 := by kernel_rfl
    dsimp only
    rw [e1, e2, e3, e4, if_neg (by decide), if_neg (by
      rintro (q | q | q)
      · exact q rfl
      · omega
      · omega)]
    have e5 : (bytesF dk1.S 0 0).extract 0 0 = ⟨#[]⟩ := by
      apply ByteArray.ext
      simp [ByteArray.data_extract]
    rw [show (0 : Nat) + 0 = 0 from rfl, e5]
    have e6 : framesG ⟨#[]⟩ 0 = some [] := by
      unfold framesG
      rw [dif_neg (by decide)]
    rw [e6]
    rfl
  unfold openW
  rw [if_neg (by rw [dk1_calm.1.de]; decide), if_neg (by rw [dk1_calm.1.len]; decide)]
  unfold countsF
  rw [zs_none _ 0 h0, hf]
def rec1 : ByteArray := (encodeF [Ch.res 2]).1
theorem rec1_size : rec1.size = 3 := by kernel_rfl
theorem dec1 : decF ⟨#[1]⟩ = (Ms.of 1, 0) := by kernel_rfl
theorem enc1 : (encF ⟨7, 1, 0, 0, 0, 0, 0, 0, 0, ⟨#[]⟩, ⟨#[]⟩⟩).1 = ⟨#[7, 1]⟩ := by kernel_rfl
theorem hello1 : Se.helloV (Se.rowAt (Se.fresh 2) (3 - 2)) 1 = (2, 0) := by kernel_rfl
@[reducible] def wl1 : Wl := ⟨⟨1, 0, 0, 0⟩, 0, false⟩
theorem room1 : rec1.size ≤ roomW wl1 322 := by rw [rec1_size]; exact Nat.le_of_ble_eq_true (by kernel_rfl)
theorem wl1_ok : WlOk wl1 322 := ⟨by decide, by decide, by decide, by decide, by decide⟩
theorem append1 : ∃ w x, appendF wl1 dk1 rec1 = ((w, x), 0) ∧ Calm x 322 := by
  have h := append_calm (r := rec1) dk1_calm.1 wl1_ok rfl (by rw [rec1_size]; decide) (by rw [rec1_size]; decide) (Nat.le_of_ble_eq_true (by kernel_rfl)) (by decide)
  exact ⟨_, _, Prod.ext rfl h.1, h.2.2⟩
theorem next1 : nextB 2 0 0 = ((1, 2, 0), 1, 2) := by decide
end Go.Proofs.YtnmjdoaogdaehaaGreat
namespace Go.Proofs.YtnmjdoaogdaehaaGreat
open Go Go.Sep Go.Proofs
set_option maxRecDepth 10000
set_option maxHeartbeats 40000000
set_option synthInstance.maxSize 2000
set_option linter.unusedSimpArgs false
set_option linter.unusedVariables false
/-! the fixed calls -/
theorem config_spec : Con Tryz.prog 11 #[] [] fun v A => v = .agg cf0.row.toArray ∧ A = [] := by
  refine Con.intro (vs := []) Tryz.func11 rfl Tryz.ntmps11 rfl (fun B => ?_)
  repeat' (first | refine Cd.seq ?_ | refine Cd.reg ?_ | refine Ops.nil ?_ | refine Ops.bld rfl rfl rfl rfl ?_ | refine Ops.alloc rfl rfl rfl (noPd rfl) (fun b => ?_) | refine Ops.stN rfl rfl rfl rfl rfl rfl (noPd rfl) ?_)
  exact Cd.ret (ret1 (A' := []) rfl (Res.cellN rfl) (fun _ h => h.split) ⟨rfl, rfl⟩)
theorem lhello_spec : Con Tryz.prog 13 #[] [] fun v A => v = .string ⟨#[1]⟩ ∧ A = [] := by
  refine Con.intro (vs := []) Tryz.func13 rfl Tryz.ntmps13 rfl (fun B => ?_)
  repeat' (first | refine Cd.seq ?_ | refine Cd.reg ?_ | refine Ops.nil ?_ | refine Ops.asg rfl rfl rfl rfl ?_)
  exact Cd.ret (ret1 (A' := []) rfl (Res.tmp rfl) (fun _ h => h.split) ⟨rfl, rfl⟩)
theorem fixed_spec (B0 : Base) : ConB Tryz.prog B0 6 #[] [] fun v A => v = .bool true ∧ A = [] := by
  refine ConB.intro (vs := []) Tryz.func6 rfl Tryz.ntmps6 rfl (fun B hB => ?_)
  repeat' (first | refine Cd.seq ?_ | refine Cd.reg ?_ | refine Ops.asg rfl rfl rfl rfl ?_)
  refine Ops.call (dnew_spec 322 (by decide) (by decide)) rfl (noPd rfl) rfl rfl rfl (fun v A' hR => ?_)
  obtain ⟨db, rfl, hD⟩ := hR
  rename List Blk => D
  have hD0 : DkA db dk0 0 D := ⟨hD, by show (List.replicate 322 zs).length ≤ 1026; simp, by decide, by decide, by decide, by decide, by decide⟩
  clear hD
  repeat' (first | refine Cd.seq ?_ | refine Cd.reg ?_ | refine Ops.nil ?_ | refine Ops.mv rfl rfl rfl rfl ?_ | refine Ops.asg rfl rfl rfl rfl ?_ | refine Ops.bin rfl rfl rfl rfl rfl ?_ | refine Ops.ext rfl rfl rfl rfl rfl ?_ | refine Cd.condF rfl rfl ?_ | refine Cd.skip (Cd.next ?_))
  refine Ops.call config_spec rfl (noPd rfl) rfl rfl rfl (fun v A' hR => ?_)
  obtain ⟨rfl, rfl⟩ := hR
  repeat' (first | refine Ops.mv rfl rfl rfl rfl ?_)
  refine Ops.callB (new_new B0 cf0 cf0_ok db dk0 dk1 0 D hD0 (by decide) (by rw [dk0_calm.len]; decide) format0 (by rw [dk1_calm.1.len]; decide) ⟨1, 0, 0, 0⟩ open1) hB rfl (noPd rfl) rfl rfl rfl (fun v A' hR => ?_)
  obtain ⟨D1, hD1, xb, lb, lm, tb, cb, mb, wb, sb, sv, G, SD, rfl, rfl, hO, hS⟩ := hR
  repeat' (first | refine Cd.seq ?_ | refine Cd.reg ?_ | refine Ops.nil ?_ | refine Ops.mv rfl rfl rfl rfl ?_ | refine Ops.asg rfl rfl rfl rfl ?_ | refine Ops.bin rfl rfl rfl rfl rfl ?_ | refine Ops.pickF rfl rfl rfl rfl rfl ?_ | refine Ops.ext rfl rfl rfl rfl rfl ?_ | refine Ops.bld rfl rfl rfl rfl ?_ | refine Cd.condF rfl rfl ?_ | refine Cd.skip (Cd.next ?_))
  refine Ops.call lhello_spec rfl (noPd rfl) rfl rfl rfl (fun v A' hR => ?_)
  obtain ⟨rfl, rfl⟩ := hR
  skip
  obtain ⟨w1, x1, hap, hcalm⟩ := append1
  have hh := hello_new B0 xb lb tb cb mb db wb sb cf0 cf0_ok false wl1 w1 dk1 x1 1 D1 hD1 ⟨cf0.attempts, [], 0, [], []⟩ SD hS (stOk_new (by decide) (by decide)) (.slice none 0 0) [] [] Own.none (by decide) sv (Se.fresh 2) G hO 0 0 1 2 1 2 (by decide) (by decide) (by decide) next1 (by decide) (by decide) (by rw [dk1_calm.1.len]; exact wl1_ok) (by decide) (by rw [show (encodeF [Ch.res 2]).1.size = 3 from rec1_size]; decide) (by decide) (by rw [dk1_calm.1.len]; exact room1) hap 3 1 (Ms.of 1) (by decide) (by decide) hello1
  rw [enc1] at hh
  have hh2 := hh.permIn (A2 := CoB xb lb tb cb mb db wb sb cf0 (.slice none 0 0) false :: (D1 ++ (Se.TabB tb sv G ++ (CtB cb cf0.block 0 0 :: WlB wb db wl1 :: SD)))) (List.Perm.cons _ (by
    rw [List.append_nil]
    refine List.perm_append_comm.trans ?_
    rw [List.append_assoc]
    exact List.Perm.refl _))
  clear hh
  refine Ops.callB (hear_hello B0 xb lb tb cb mb db wb sb cf0 cf0_ok (.slice none 0 0) dk1 1 D1 hD1 dk1_calm.1.de _ 3 1 (by decide) (by decide) (by decide) (by decide) ⟨#[1]⟩ (by decide) (Ms.of 1) dec1 rfl ⟨#[7, 1]⟩ (by decide) _ hh2) hB rfl (noPd rfl) rfl rfl rfl (fun v A' hR => ?_)
  obtain ⟨A1, g, rfl, ⟨SD1, D2, tv1, TG1, G1, rfl, hS1, hD2, hT1, hO1⟩, rfl⟩ := hR
  clear hh2
  rw [List.nil_append] at hT1
  repeat' (first | refine Cd.seq ?_ | refine Cd.reg ?_ | refine Ops.mv rfl rfl rfl rfl ?_ | refine Ops.asg rfl rfl rfl rfl ?_ | refine Ops.ext rfl rfl rfl rfl rfl ?_)
  refine Ops.call (ctold_spec xb lb tb cb mb db wb sb cf0 false tv1 _ TG1 hT1 (by decide) (fun q hq => by rw [List.mem_singleton] at hq; subst hq; exact ⟨rfl, rfl, rfl⟩)) rfl (noPd rfl) rfl rfl rfl (fun v A' hR => ?_)
  obtain ⟨a2, rfl, rfl, hrs⟩ := hR
  rcases hrs.2 with ⟨q, _, _⟩ | ⟨g2, c2, sp2, q, rfl⟩
  · injection q with _ q2 _; cases q2
  injection q with q1 _ _
  subst q1
  clear hrs hT1
  simp only [List.map_cons, List.map_nil, List.flatten_cons, List.flatten_nil, List.append_nil, List.cons_append, List.nil_append, List.length_cons, List.length_nil]
  repeat' (first | refine Cd.seq ?_ | refine Cd.reg ?_ | refine Ops.mv rfl rfl rfl rfl ?_ | refine Ops.asg rfl rfl rfl rfl ?_ | refine Ops.fa0 rfl rfl rfl rfl ?_ | refine Ops.ld1 rfl rfl rfl rfl rfl ?_ | refine Ops.ldN rfl rfl rfl rfl ?_ | refine Ops.lenS rfl rfl rfl rfl ?_ | refine Ops.bin rfl rfl rfl rfl rfl ?_ | refine Ops.pickT rfl rfl rfl rfl rfl ?_ | refine Ops.bld rfl rfl rfl rfl ?_ | refine Ops.ixa0 rfl rfl rfl rfl (by omega) (by omega) rfl ?_)
  refine Ops.callB (tick_nil B0 xb lb lm tb cb mb db wb sb cf0 cf0_ok (.slice none 0 0) x1 _ D2 hD2 hcalm.de) hB rfl (noPd rfl) rfl rfl rfl (fun v A' hR => ?_)
  obtain ⟨rfl, lb1, lm1, es, ck, rfl, hok⟩ := hR
  repeat' (first | refine Ops.mv rfl rfl rfl rfl ?_ | refine Ops.bin rfl rfl rfl rfl rfl ?_ | refine Ops.pickT rfl rfl rfl rfl rfl ?_)
  refine Ops.call (cdead_spec xb lb1 tb cb mb db wb sb cf0 (.slice none 0 0) false x1 _ D2 hD2) rfl (noPd rfl) rfl rfl rfl (fun v A' hR => ?_)
  rw [hcalm.de] at hR
  obtain ⟨rfl, rfl⟩ := hR
  repeat' (first | refine Ops.nil ?_ | refine Ops.asg rfl rfl rfl rfl ?_ | refine Ops.un rfl rfl rfl rfl ?_ | refine Ops.pickT rfl rfl rfl rfl rfl ?_)
  exact Cd.ret (ret1 (A' := []) rfl (Res.tmp rfl) (fun _ h => h.split) ⟨rfl, rfl⟩)
/-- CoordChecks, as a call. -/
theorem checks_spec (B0 : Base) (c : Cf) : ConB Tryz.prog B0 3 #[.agg c.row.toArray] [] fun v A => v = .bool true ∧ A = [] := by
  refine ConB.intro (vs := [_]) Tryz.func3 rfl Tryz.ntmps3 rfl (fun B hB => ?_)
  repeat' (first | refine Cd.seq ?_ | refine Cd.reg ?_ | refine Ops.asg rfl rfl rfl rfl ?_ | refine Ops.box rfl rfl rfl rfl (noPd rfl) (fun b => ?_))
  refine Cd.draw [(0, 1, []), (2, 1, []), (1, 2, [2]), (3, 2, []), (4, 0, []), (5, 0, []), (6, 2, []), (7, 0, []), (8, 0, [])] (by kernel_rfl) (by kernel_rfl) (by simp only [picked, nth]; exact rfl) ?_
  repeat' (first | refine Ops.ldN rfl rfl rfl rfl ?_ | fail)
  refine Ops.call (ccheck_spec c) rfl (by first | exact noPd rfl | (intro v A' hR i hi; obtain ⟨A2, hR, rfl⟩ := hR; (try obtain ⟨rfl, rfl⟩ := hR); (repeat (rcases List.mem_cons.1 hi with rfl | hi; · (first | exact Still.ld1 rfl rfl rfl rfl rfl | exact Still.ldN rfl rfl rfl rfl | exact Still.len rfl rfl rfl rfl rfl | exact Still.skip rfl rfl rfl | exact Still.ldRow1 rfl rfl rfl (by assumption) (by assumption) rfl rfl | exact Still.ldR rfl rfl rfl (by apply_assumption) rfl))); cases hi)) rfl rfl rfl (fun v A' hR => ?_)
  obtain ⟨rfl, rfl⟩ := hR
  skip
  refine Ops.call (rcheck18_spec c) rfl (by first | exact noPd rfl | (intro v A' hR i hi; obtain ⟨A2, hR, rfl⟩ := hR; (try obtain ⟨rfl, rfl⟩ := hR); (repeat (rcases List.mem_cons.1 hi with rfl | hi; · (first | exact Still.ld1 rfl rfl rfl rfl rfl | exact Still.ldN rfl rfl rfl rfl | exact Still.len rfl rfl rfl rfl rfl | exact Still.skip rfl rfl rfl | exact Still.ldRow1 rfl rfl rfl (by assumption) (by assumption) rfl rfl | exact Still.ldR rfl rfl rfl (by apply_assumption) rfl))); cases hi)) rfl rfl rfl (fun v A' hR => ?_)
  obtain ⟨rfl, rfl⟩ := hR
  generalize checkC c = e
  repeat' (first | refine Ops.mv rfl rfl rfl rfl ?_ | refine Ops.bin rfl rfl rfl rfl rfl ?_ | ((fail_if_success refine Ops.probe rfl ?_); refine Ops.gT rfl rfl (by first | rfl | assumption | (simp only [decide_eq_true_eq, decide_eq_false_iff_not, Bool.not_eq_true', Bool.not_eq_false', Bool.not_eq_eq_eq_not, Bool.not_true, Bool.not_false, beq_iff_eq, beq_eq_false_iff_ne, ne_eq, decide_eq_decide, eq_self, true_iff, iff_true, not_true_eq_false, not_false_eq_true]; first | done | omega)) ?_))
  refine Ops.callB (fixed_spec B0) hB rfl (noPd rfl) rfl rfl rfl (fun v A' hR => ?_)
  obtain ⟨rfl, rfl⟩ := hR
  repeat' (first | refine Ops.nil ?_ | refine Ops.asg rfl rfl rfl rfl ?_ | refine Ops.pickT rfl rfl rfl rfl rfl ?_)
  exact Cd.ret (ret1 (A' := []) rfl (Res.tmp rfl) (fun _ h => h.split) ⟨rfl, rfl⟩)
end Go.Proofs.YtnmjdoaogdaehaaGreat
