import Derived.Test.YtnmjdoaogdaehaaGreatA31
namespace Go.Proofs.YtnmjdoaogdaehaaGreat
open Go Go.Sep Go.Proofs
set_option maxRecDepth 10000
set_option maxHeartbeats 40000000
set_option synthInstance.maxSize 2000
set_option linter.unusedSimpArgs false
set_option linter.unusedVariables false
/-! a message's fields: where they stand -/
@[reducible] def MgB (mb : Nat) (L : List Value) : Blk := (mb, cl L 61)
@[reducible] def fnV (f : FuncId) : Value := .func (.func f) #[] #[]
theorem sel_fields_1 (mb : Nat) : Con Tryz.prog 89 #[ptr mb] [] fun v A => v = .pointer (some ⟨mb, 1, none⟩) ∧ A = [] := by
  refine Con.intro (vs := [_]) Tryz.func89 rfl Tryz.ntmps89 rfl (fun B => ?_)
  repeat' (first | refine Cd.seq ?_ | refine Cd.reg ?_ | refine Ops.nil ?_ | refine Ops.mv rfl rfl rfl rfl ?_ | refine Ops.asg rfl rfl rfl rfl ?_ | refine Ops.nilP rfl rfl rfl rfl ?_ | refine Ops.fa0 rfl rfl rfl rfl ?_)
  exact Cd.ret (ret1 (A' := []) rfl (Res.tmp rfl) (fun _ h => h.split) ⟨rfl, rfl⟩)
theorem sel_fields_2 (mb : Nat) : Con Tryz.prog 90 #[ptr mb] [] fun v A => v = .pointer (some ⟨mb, 2, none⟩) ∧ A = [] := by
  refine Con.intro (vs := [_]) Tryz.func90 rfl Tryz.ntmps90 rfl (fun B => ?_)
  repeat' (first | refine Cd.seq ?_ | refine Cd.reg ?_ | refine Ops.nil ?_ | refine Ops.mv rfl rfl rfl rfl ?_ | refine Ops.asg rfl rfl rfl rfl ?_ | refine Ops.nilP rfl rfl rfl rfl ?_ | refine Ops.fa0 rfl rfl rfl rfl ?_)
  exact Cd.ret (ret1 (A' := []) rfl (Res.tmp rfl) (fun _ h => h.split) ⟨rfl, rfl⟩)
theorem sel_fields_3 (mb : Nat) : Con Tryz.prog 91 #[ptr mb] [] fun v A => v = .pointer (some ⟨mb, 3, none⟩) ∧ A = [] := by
  refine Con.intro (vs := [_]) Tryz.func91 rfl Tryz.ntmps91 rfl (fun B => ?_)
  repeat' (first | refine Cd.seq ?_ | refine Cd.reg ?_ | refine Ops.nil ?_ | refine Ops.mv rfl rfl rfl rfl ?_ | refine Ops.asg rfl rfl rfl rfl ?_ | refine Ops.nilP rfl rfl rfl rfl ?_ | refine Ops.fa0 rfl rfl rfl rfl ?_)
  exact Cd.ret (ret1 (A' := []) rfl (Res.tmp rfl) (fun _ h => h.split) ⟨rfl, rfl⟩)
theorem sel_fields_4 (mb : Nat) : Con Tryz.prog 92 #[ptr mb] [] fun v A => v = .pointer (some ⟨mb, 4, none⟩) ∧ A = [] := by
  refine Con.intro (vs := [_]) Tryz.func92 rfl Tryz.ntmps92 rfl (fun B => ?_)
  repeat' (first | refine Cd.seq ?_ | refine Cd.reg ?_ | refine Ops.nil ?_ | refine Ops.mv rfl rfl rfl rfl ?_ | refine Ops.asg rfl rfl rfl rfl ?_ | refine Ops.nilP rfl rfl rfl rfl ?_ | refine Ops.fa0 rfl rfl rfl rfl ?_)
  exact Cd.ret (ret1 (A' := []) rfl (Res.tmp rfl) (fun _ h => h.split) ⟨rfl, rfl⟩)
theorem sel_fields_5_1 (mb : Nat) : Con Tryz.prog 94 #[ptr mb] [] fun v A => v = .pointer (some ⟨mb, 5, none⟩) ∧ A = [] := by
  refine Con.intro (vs := [_]) Tryz.func94 rfl Tryz.ntmps94 rfl (fun B => ?_)
  repeat' (first | refine Cd.seq ?_ | refine Cd.reg ?_ | refine Ops.nil ?_ | refine Ops.mv rfl rfl rfl rfl ?_ | refine Ops.asg rfl rfl rfl rfl ?_ | refine Ops.nilP rfl rfl rfl rfl ?_ | refine Ops.fa0 rfl rfl rfl rfl ?_)
  exact Cd.ret (ret1 (A' := []) rfl (Res.tmp rfl) (fun _ h => h.split) ⟨rfl, rfl⟩)
theorem sel_fields_6_1 (mb : Nat) : Con Tryz.prog 96 #[ptr mb] [] fun v A => v = .pointer (some ⟨mb, 6, none⟩) ∧ A = [] := by
  refine Con.intro (vs := [_]) Tryz.func96 rfl Tryz.ntmps96 rfl (fun B => ?_)
  repeat' (first | refine Cd.seq ?_ | refine Cd.reg ?_ | refine Ops.nil ?_ | refine Ops.mv rfl rfl rfl rfl ?_ | refine Ops.asg rfl rfl rfl rfl ?_ | refine Ops.nilP rfl rfl rfl rfl ?_ | refine Ops.fa0 rfl rfl rfl rfl ?_)
  exact Cd.ret (ret1 (A' := []) rfl (Res.tmp rfl) (fun _ h => h.split) ⟨rfl, rfl⟩)
theorem sel_fields_7 (mb : Nat) : Con Tryz.prog 98 #[ptr mb] [] fun v A => v = .pointer (some ⟨mb, 9, none⟩) ∧ A = [] := by
  refine Con.intro (vs := [_]) Tryz.func98 rfl Tryz.ntmps98 rfl (fun B => ?_)
  repeat' (first | refine Cd.seq ?_ | refine Cd.reg ?_ | refine Ops.nil ?_ | refine Ops.mv rfl rfl rfl rfl ?_ | refine Ops.asg rfl rfl rfl rfl ?_ | refine Ops.nilP rfl rfl rfl rfl ?_ | refine Ops.fa0 rfl rfl rfl rfl ?_)
  exact Cd.ret (ret1 (A' := []) rfl (Res.tmp rfl) (fun _ h => h.split) ⟨rfl, rfl⟩)
theorem sel_fields_8 (mb : Nat) : Con Tryz.prog 99 #[ptr mb] [] fun v A => v = .pointer (some ⟨mb, 10, none⟩) ∧ A = [] := by
  refine Con.intro (vs := [_]) Tryz.func99 rfl Tryz.ntmps99 rfl (fun B => ?_)
  repeat' (first | refine Cd.seq ?_ | refine Cd.reg ?_ | refine Ops.nil ?_ | refine Ops.mv rfl rfl rfl rfl ?_ | refine Ops.asg rfl rfl rfl rfl ?_ | refine Ops.nilP rfl rfl rfl rfl ?_ | refine Ops.fa0 rfl rfl rfl rfl ?_)
  exact Cd.ret (ret1 (A' := []) rfl (Res.tmp rfl) (fun _ h => h.split) ⟨rfl, rfl⟩)
/-- A function that tells where a field stands. -/
class SelOk (sel : FuncId) (off : outParam Nat) : Prop where
  s : ∀ mb : Nat, Con Tryz.prog sel #[ptr mb] [] fun v A => v = .pointer (some ⟨mb, off, none⟩) ∧ A = []
instance : SelOk 89 1 := ⟨sel_fields_1⟩
instance : SelOk 90 2 := ⟨sel_fields_2⟩
instance : SelOk 91 3 := ⟨sel_fields_3⟩
instance : SelOk 92 4 := ⟨sel_fields_4⟩
instance : SelOk 94 5 := ⟨sel_fields_5_1⟩
instance : SelOk 96 6 := ⟨sel_fields_6_1⟩
instance : SelOk 98 9 := ⟨sel_fields_7⟩
instance : SelOk 99 10 := ⟨sel_fields_8⟩
/-! a whole number -/
theorem whole1_spec (mb ob lb hb : Nat) (sel : FuncId) [FnOk Tryz.prog sel] (L : List Value) (off : Nat) (n lo hi : Int) [hs : SelOk sel off] (hv : L[off]? = some (.int .i64 n)) :
    Con Tryz.prog 148 #[ptr mb, ptr ob, ptr lb, ptr hb] [MgB mb L, (ob, cl [fnV sel] 189), (lb, cl [.int .i64 lo] 3), (hb, cl [.int .i64 hi] 3)] fun v A => v = .bool (decide (lo ≤ n ∧ n ≤ hi)) ∧ A = [MgB mb L, (ob, cl [fnV sel] 189), (lb, cl [.int .i64 lo] 3), (hb, cl [.int .i64 hi] 3)] := by
  refine Con.intro (vs := [_, _, _, _]) Tryz.func148 rfl Tryz.ntmps148 rfl (fun B => ?_)
  by_cases h1 : lo ≤ n
  · repeat' (first | refine Cd.seq ?_ | refine Cd.reg ?_ | refine Ops.asg rfl rfl rfl rfl ?_)
    refine Cd.draw [(0, 1, []), (1, 0, []), (5, 1, []), (2, 2, [5]), (3, 0, []), (4, 1, []), (6, 0, []), (7, 0, []), (8, 1, []), (9, 0, []), (13, 1, []), (10, 2, [13]), (11, 0, []), (12, 1, []), (14, 0, []), (15, 0, []), (16, 0, [])] (by kernel_rfl) (by kernel_rfl) (by simp only [picked, nth]; exact rfl) ?_
    repeat' (first | refine Ops.mv rfl rfl rfl rfl ?_ | refine Ops.ld1 rfl rfl rfl rfl rfl ?_)
    refine Ops.callV (fi := []) (ca := []) (vs := [_]) (hs.s mb) rfl (by first | exact noPd rfl | (intro v A' hR i hi; obtain ⟨A2, hR, rfl⟩ := hR; (try obtain ⟨rfl, rfl⟩ := hR); (repeat (rcases List.mem_cons.1 hi with rfl | hi; · (first | exact Still.ld1 rfl rfl rfl rfl rfl | exact Still.ldN rfl rfl rfl rfl | exact Still.len rfl rfl rfl rfl rfl | exact Still.skip rfl rfl rfl | exact Still.ldRow1 rfl rfl rfl (by assumption) (by assumption) rfl rfl | exact Still.ldR rfl rfl rfl (by apply_assumption) rfl))); cases hi)) rfl rfl rfl rfl (fun v A' hR => ?_)
    obtain ⟨rfl, rfl⟩ := hR
    repeat' (first | refine Ops.nilP rfl rfl rfl rfl ?_)
    refine Ops.ld1 rfl rfl rfl hv rfl ?_
    repeat' (first | refine Ops.mv rfl rfl rfl rfl ?_ | refine Ops.ld1 rfl rfl rfl rfl rfl ?_ | refine Ops.bin rfl rfl rfl rfl rfl ?_ | ((fail_if_success refine Ops.probe rfl ?_); refine Ops.gT rfl rfl (by first | rfl | assumption | (simp only [decide_eq_true_eq, decide_eq_false_iff_not, Bool.not_eq_true', Bool.not_eq_false', Bool.not_eq_eq_eq_not, Bool.not_true, Bool.not_false, beq_iff_eq, beq_eq_false_iff_ne, ne_eq, decide_eq_decide, eq_self, true_iff, iff_true, not_true_eq_false, not_false_eq_true]; first | done | omega)) ?_))
    refine Ops.callV (fi := []) (ca := []) (vs := [_]) (hs.s mb) rfl (by first | exact noPd rfl | (intro v A' hR i hi; obtain ⟨A2, hR, rfl⟩ := hR; (try obtain ⟨rfl, rfl⟩ := hR); (repeat (rcases List.mem_cons.1 hi with rfl | hi; · (first | exact Still.ld1 rfl rfl rfl rfl rfl | exact Still.ldN rfl rfl rfl rfl | exact Still.len rfl rfl rfl rfl rfl | exact Still.skip rfl rfl rfl | exact Still.ldRow1 rfl rfl rfl (by assumption) (by assumption) rfl rfl | exact Still.ldR rfl rfl rfl (by apply_assumption) rfl))); cases hi)) rfl rfl rfl rfl (fun v A' hR => ?_)
    obtain ⟨rfl, rfl⟩ := hR
    repeat' (first | refine Ops.nilP rfl rfl rfl rfl ?_)
    refine Ops.ld1 rfl rfl rfl hv rfl ?_
    repeat' (first | refine Ops.nil ?_ | refine Ops.asg rfl rfl rfl rfl ?_ | refine Ops.bin rfl rfl rfl rfl rfl ?_ | refine Ops.pickT rfl rfl rfl rfl rfl ?_)
    exact Cd.ret (ret1 (A' := [MgB mb L, (ob, cl [fnV sel] 189), (lb, cl [.int .i64 lo] 3), (hb, cl [.int .i64 hi] 3)]) rfl (Res.tmp rfl) (fun _ h => h.split) ⟨by congr 1; exact decide_eq_decide.2 ⟨fun h => ⟨h1, h⟩, fun h => h.2⟩, rfl⟩)
  · repeat' (first | refine Cd.seq ?_ | refine Cd.reg ?_ | refine Ops.asg rfl rfl rfl rfl ?_)
    refine Cd.draw [(0, 1, []), (1, 0, []), (5, 1, []), (2, 2, [5]), (3, 0, []), (4, 1, []), (6, 0, []), (7, 0, []), (8, 1, []), (9, 0, []), (13, 1, []), (10, 2, [13]), (11, 0, []), (12, 1, []), (14, 0, []), (15, 0, []), (16, 0, [])] (by kernel_rfl) (by kernel_rfl) (by simp only [picked, nth]; exact rfl) ?_
    repeat' (first | refine Ops.mv rfl rfl rfl rfl ?_ | refine Ops.ld1 rfl rfl rfl rfl rfl ?_)
    refine Ops.callV (fi := []) (ca := []) (vs := [_]) (hs.s mb) rfl (by first | exact noPd rfl | (intro v A' hR i hi; obtain ⟨A2, hR, rfl⟩ := hR; (try obtain ⟨rfl, rfl⟩ := hR); (repeat (rcases List.mem_cons.1 hi with rfl | hi; · (first | exact Still.ld1 rfl rfl rfl rfl rfl | exact Still.ldN rfl rfl rfl rfl | exact Still.len rfl rfl rfl rfl rfl | exact Still.skip rfl rfl rfl | exact Still.ldRow1 rfl rfl rfl (by assumption) (by assumption) rfl rfl | exact Still.ldR rfl rfl rfl (by apply_assumption) rfl))); cases hi)) rfl rfl rfl rfl (fun v A' hR => ?_)
    obtain ⟨rfl, rfl⟩ := hR
    repeat' (first | refine Ops.nilP rfl rfl rfl rfl ?_)
    refine Ops.ld1 rfl rfl rfl hv rfl ?_
    repeat' (first | refine Ops.nil ?_ | refine Ops.mv rfl rfl rfl rfl ?_ | refine Ops.asg rfl rfl rfl rfl ?_ | refine Ops.bin rfl rfl rfl rfl rfl ?_ | refine Ops.pickF rfl rfl rfl rfl rfl ?_ | refine Ops.gSkip rfl rfl rfl ?_ | refine Ops.gSkipE rfl (by first | exact noPd rfl | (intro v A' hR i hi; obtain ⟨rfl, rfl⟩ := hR; (repeat (rcases List.mem_cons.1 hi with rfl | hi; · (first | exact Still.ld1 rfl rfl rfl rfl rfl | exact Still.ldN rfl rfl rfl rfl | exact Still.len rfl rfl rfl rfl rfl | exact Still.skip rfl rfl rfl | exact Still.ldRow1 rfl rfl rfl (by assumption) (by assumption) rfl rfl | exact Still.ldR rfl rfl rfl (by apply_assumption) rfl))); cases hi)) rfl rfl ?_ | ((fail_if_success refine Ops.probe rfl ?_); refine Ops.gF rfl rfl (by first | rfl | assumption | (simp only [decide_eq_true_eq, decide_eq_false_iff_not, Bool.not_eq_true', Bool.not_eq_false', Bool.not_eq_eq_eq_not, Bool.not_true, Bool.not_false, beq_iff_eq, beq_eq_false_iff_ne, ne_eq, decide_eq_decide, eq_self, true_iff, iff_true, not_true_eq_false, not_false_eq_true]; first | done | omega)) ?_))
    exact Cd.ret (ret1 (A' := [MgB mb L, (ob, cl [fnV sel] 189), (lb, cl [.int .i64 lo] 3), (hb, cl [.int .i64 hi] 3)]) rfl (Res.tmp rfl) (fun _ h => h.split) ⟨by rw [decide_eq_false (fun h : lo ≤ n ∧ n ≤ hi => h1 h.1)], rfl⟩)
theorem whole2_spec (mb ob : Nat) (sel : FuncId) [FnOk Tryz.prog sel] (L : List Value) (off : Nat) (n : Int) [hs : SelOk sel off] (hv : L[off]? = some (.int .i64 n)) (h0 : 0 ≤ n) (h1 : n < 9223372036854775808) :
    Con Tryz.prog 149 #[ptr mb, ptr ob] [MgB mb L, (ob, cl [fnV sel] 189)] fun v A => v = .string (numB n.toNat) ∧ A = [MgB mb L, (ob, cl [fnV sel] 189)] := by
  obtain ⟨m, rfl⟩ : ∃ m : Nat, n = m := ⟨n.toNat, by omega⟩
  refine Con.intro (vs := [_, _]) Tryz.func149 rfl Tryz.ntmps149 rfl (fun B => ?_)
  repeat' (first | refine Cd.seq ?_ | refine Cd.reg ?_ | refine Ops.mv rfl rfl rfl rfl ?_ | refine Ops.asg rfl rfl rfl rfl ?_ | refine Ops.ld1 rfl rfl rfl rfl rfl ?_)
  refine Ops.callV (fi := []) (ca := []) (vs := [_]) (hs.s mb) rfl (noPd rfl) rfl rfl rfl rfl (fun v A' hR => ?_)
  obtain ⟨rfl, rfl⟩ := hR
  repeat' (first | refine Ops.nilP rfl rfl rfl rfl ?_)
  refine Ops.ld1 rfl rfl rfl hv rfl ?_
  refine Ops.cvI rfl rfl rfl rfl ?_
  rw [wrap_u64 (by omega), Int.toNat_natCast]
  refine Ops.call (num_spec m (by omega)) rfl (noPd rfl) rfl rfl rfl (fun v A' hR => ?_)
  obtain ⟨rfl, rfl⟩ := hR
  repeat' (first | refine Ops.nil ?_ | refine Ops.asg rfl rfl rfl rfl ?_)
  exact Cd.ret (ret1 (A' := [MgB mb L, (ob, cl [fnV sel] 189)]) rfl (Res.tmp rfl) (fun _ h => h.split) ⟨rfl, rfl⟩)
theorem rdNum_le {b : ByteArray} {most p : Nat} {e : Int} : (rdNum b most p e).1 ≤ most := by
  unfold rdNum
  split
  · exact Nat.zero_le _
  · split
    · exact Nat.zero_le _
    · rename_i n q h
      exact numGo_le _ _ _ _ h
theorem whole3_spec (B0 : Base) (mb ob rb : Nat) (sel : FuncId) [FnOk Tryz.prog sel] (L : List Value) (off : Nat) (v0 : Value) [hs : SelOk sel off] (hv : L[off]? = some v0) (bs : ByteArray) (p : Nat) (e : Int) (hp : p ≤ bs.size) (hb : bs.size ≤ 1000000) :
    ConB Tryz.prog B0 150 #[ptr mb, ptr rb, ptr ob] [MgB mb L, RdB rb bs p e, (ob, cl [fnV sel] 189)]
      fun v A => A = [MgB mb (L.set off (.int .i64 (((rdNum bs 1099511627776 p e).1 : Nat) : Int))), RdB rb bs (((rdNum bs 1099511627776 p e).2.1 : Nat) : Int) (rdNum bs 1099511627776 p e).2.2, (ob, cl [fnV sel] 189)] := by
  have hle := rdNum_le (b := bs) (most := 1099511627776) (p := p) (e := e)
  have hlt := (List.getElem?_eq_some_iff.1 hv).1
  refine ConB.intro (vs := [_, _, _]) Tryz.func150 rfl Tryz.ntmps150 rfl (fun B hB => ?_)
  repeat' (first | refine Cd.reg ?_ | refine Ops.mv rfl rfl rfl rfl ?_ | refine Ops.ld1 rfl rfl rfl rfl rfl ?_)
  refine Ops.callV (fi := []) (ca := []) (vs := [_]) (hs.s mb) rfl (noPd rfl) rfl rfl rfl rfl (fun v A' hR => ?_)
  obtain ⟨rfl, rfl⟩ := hR
  repeat' (first | refine Ops.mv rfl rfl rfl rfl ?_)
  refine Ops.callB (rnum_spec B0 rb bs p 1099511627776 e hp hb (by decide)) hB rfl (noPd rfl) rfl rfl rfl (fun v A' hR => ?_)
  obtain ⟨rfl, rfl⟩ := hR
  refine Ops.cvI rfl rfl rfl rfl ?_
  rw [wrap_i64 (by omega)]
  repeat' (first | refine Ops.nilP rfl rfl rfl rfl ?_)
  refine Ops.st1 (L' := L.set off (.int .i64 (((rdNum bs 1099511627776 p e).1 : Nat) : Int))) rfl rfl rfl rfl rfl (hs := ⟨rfl, hlt⟩) (noPd rfl) ?_
  exact Ops.nilN (end0 (A' := [MgB mb (L.set off (.int .i64 (((rdNum bs 1099511627776 p e).1 : Nat) : Int))), RdB rb bs (((rdNum bs 1099511627776 p e).2.1 : Nat) : Int) (rdNum bs 1099511627776 p e).2.2, (ob, cl [fnV sel] 189)]) rfl (fun _ h => h.split) rfl)
/-! a text -/
theorem text_1_spec (mb ob lb hb : Nat) (sel : FuncId) [FnOk Tryz.prog sel] (L : List Value) (off : Nat) (s : ByteArray) (lo hi : Int) [hs : SelOk sel off] (hv : L[off]? = some (.string s)) :
    Con Tryz.prog 151 #[ptr mb, ptr ob, ptr lb, ptr hb] [MgB mb L, (ob, cl [fnV sel] 193), (hb, cl [.int .i64 hi] 3), (lb, cl [.int .i64 lo] 3)] fun v A => v = .bool (decide (lo ≤ (s.size : Nat) ∧ ((s.size : Nat) : Int) ≤ hi)) ∧ A = [MgB mb L, (ob, cl [fnV sel] 193), (hb, cl [.int .i64 hi] 3), (lb, cl [.int .i64 lo] 3)] := by
  refine Con.intro (vs := [_, _, _, _]) Tryz.func151 rfl Tryz.ntmps151 rfl (fun B => ?_)
  by_cases h1 : lo ≤ (s.size : Nat)
  · repeat' (first | refine Cd.seq ?_ | refine Cd.reg ?_ | refine Ops.asg rfl rfl rfl rfl ?_)
    refine Cd.draw [(0, 1, []), (1, 0, []), (6, 1, []), (2, 2, [6]), (3, 0, []), (4, 1, []), (5, 0, []), (7, 0, []), (8, 0, []), (9, 1, []), (10, 0, []), (15, 1, []), (11, 2, [15]), (12, 0, []), (13, 1, []), (14, 0, []), (16, 0, []), (17, 0, []), (18, 0, [])] (by kernel_rfl) (by kernel_rfl) (by simp only [picked, nth]; exact rfl) ?_
    repeat' (first | refine Ops.mv rfl rfl rfl rfl ?_ | refine Ops.ld1 rfl rfl rfl rfl rfl ?_)
    refine Ops.callV (fi := []) (ca := []) (vs := [_]) (hs.s mb) rfl (by first | exact noPd rfl | (intro v A' hR i hi; obtain ⟨A2, hR, rfl⟩ := hR; (try obtain ⟨rfl, rfl⟩ := hR); (repeat (rcases List.mem_cons.1 hi with rfl | hi; · (first | exact Still.ld1 rfl rfl rfl rfl rfl | exact Still.ldN rfl rfl rfl rfl | exact Still.len rfl rfl rfl rfl rfl | exact Still.skip rfl rfl rfl | exact Still.ldRow1 rfl rfl rfl (by assumption) (by assumption) rfl rfl | exact Still.ldR rfl rfl rfl (by apply_assumption) rfl))); cases hi)) rfl rfl rfl rfl (fun v A' hR => ?_)
    obtain ⟨rfl, rfl⟩ := hR
    repeat' (first | refine Ops.nilP rfl rfl rfl rfl ?_)
    refine Ops.ld1 rfl rfl rfl hv rfl ?_
    repeat' (first | refine Ops.mv rfl rfl rfl rfl ?_ | refine Ops.ld1 rfl rfl rfl rfl rfl ?_ | refine Ops.lenStr rfl rfl rfl rfl ?_ | refine Ops.bin rfl rfl rfl rfl rfl ?_ | ((fail_if_success refine Ops.probe rfl ?_); refine Ops.gT rfl rfl (by first | rfl | assumption | (simp only [decide_eq_true_eq, decide_eq_false_iff_not, Bool.not_eq_true', Bool.not_eq_false', Bool.not_eq_eq_eq_not, Bool.not_true, Bool.not_false, beq_iff_eq, beq_eq_false_iff_ne, ne_eq, decide_eq_decide, eq_self, true_iff, iff_true, not_true_eq_false, not_false_eq_true]; first | done | omega)) ?_))
    refine Ops.callV (fi := []) (ca := []) (vs := [_]) (hs.s mb) rfl (by first | exact noPd rfl | (intro v A' hR i hi; obtain ⟨A2, hR, rfl⟩ := hR; (try obtain ⟨rfl, rfl⟩ := hR); (repeat (rcases List.mem_cons.1 hi with rfl | hi; · (first | exact Still.ld1 rfl rfl rfl rfl rfl | exact Still.ldN rfl rfl rfl rfl | exact Still.len rfl rfl rfl rfl rfl | exact Still.skip rfl rfl rfl | exact Still.ldRow1 rfl rfl rfl (by assumption) (by assumption) rfl rfl | exact Still.ldR rfl rfl rfl (by apply_assumption) rfl))); cases hi)) rfl rfl rfl rfl (fun v A' hR => ?_)
    obtain ⟨rfl, rfl⟩ := hR
    repeat' (first | refine Ops.nilP rfl rfl rfl rfl ?_)
    refine Ops.ld1 rfl rfl rfl hv rfl ?_
    repeat' (first | refine Ops.nil ?_ | refine Ops.asg rfl rfl rfl rfl ?_ | refine Ops.lenStr rfl rfl rfl rfl ?_ | refine Ops.bin rfl rfl rfl rfl rfl ?_ | refine Ops.pickT rfl rfl rfl rfl rfl ?_)
    exact Cd.ret (ret1 (A' := [MgB mb L, (ob, cl [fnV sel] 193), (hb, cl [.int .i64 hi] 3), (lb, cl [.int .i64 lo] 3)]) rfl (Res.tmp rfl) (fun _ h => h.split) ⟨by congr 1; exact decide_eq_decide.2 ⟨fun h => ⟨h1, h⟩, fun h => h.2⟩, rfl⟩)
  · repeat' (first | refine Cd.seq ?_ | refine Cd.reg ?_ | refine Ops.asg rfl rfl rfl rfl ?_)
    refine Cd.draw [(0, 1, []), (1, 0, []), (6, 1, []), (2, 2, [6]), (3, 0, []), (4, 1, []), (5, 0, []), (7, 0, []), (8, 0, []), (9, 1, []), (10, 0, []), (15, 1, []), (11, 2, [15]), (12, 0, []), (13, 1, []), (14, 0, []), (16, 0, []), (17, 0, []), (18, 0, [])] (by kernel_rfl) (by kernel_rfl) (by simp only [picked, nth]; exact rfl) ?_
    repeat' (first | refine Ops.mv rfl rfl rfl rfl ?_ | refine Ops.ld1 rfl rfl rfl rfl rfl ?_)
    refine Ops.callV (fi := []) (ca := []) (vs := [_]) (hs.s mb) rfl (by first | exact noPd rfl | (intro v A' hR i hi; obtain ⟨A2, hR, rfl⟩ := hR; (try obtain ⟨rfl, rfl⟩ := hR); (repeat (rcases List.mem_cons.1 hi with rfl | hi; · (first | exact Still.ld1 rfl rfl rfl rfl rfl | exact Still.ldN rfl rfl rfl rfl | exact Still.len rfl rfl rfl rfl rfl | exact Still.skip rfl rfl rfl | exact Still.ldRow1 rfl rfl rfl (by assumption) (by assumption) rfl rfl | exact Still.ldR rfl rfl rfl (by apply_assumption) rfl))); cases hi)) rfl rfl rfl rfl (fun v A' hR => ?_)
    obtain ⟨rfl, rfl⟩ := hR
    repeat' (first | refine Ops.nilP rfl rfl rfl rfl ?_)
    refine Ops.ld1 rfl rfl rfl hv rfl ?_
    repeat' (first | refine Ops.nil ?_ | refine Ops.mv rfl rfl rfl rfl ?_ | refine Ops.asg rfl rfl rfl rfl ?_ | refine Ops.lenStr rfl rfl rfl rfl ?_ | refine Ops.bin rfl rfl rfl rfl rfl ?_ | refine Ops.pickF rfl rfl rfl rfl rfl ?_ | refine Ops.gSkip rfl rfl rfl ?_ | refine Ops.gSkipE rfl (by first | exact noPd rfl | (intro v A' hR i hi; obtain ⟨rfl, rfl⟩ := hR; (repeat (rcases List.mem_cons.1 hi with rfl | hi; · (first | exact Still.ld1 rfl rfl rfl rfl rfl | exact Still.ldN rfl rfl rfl rfl | exact Still.len rfl rfl rfl rfl rfl | exact Still.skip rfl rfl rfl | exact Still.ldRow1 rfl rfl rfl (by assumption) (by assumption) rfl rfl | exact Still.ldR rfl rfl rfl (by apply_assumption) rfl))); cases hi)) rfl rfl ?_ | ((fail_if_success refine Ops.probe rfl ?_); refine Ops.gF rfl rfl (by first | rfl | assumption | (simp only [decide_eq_true_eq, decide_eq_false_iff_not, Bool.not_eq_true', Bool.not_eq_false', Bool.not_eq_eq_eq_not, Bool.not_true, Bool.not_false, beq_iff_eq, beq_eq_false_iff_ne, ne_eq, decide_eq_decide, eq_self, true_iff, iff_true, not_true_eq_false, not_false_eq_true]; first | done | omega)) ?_))
    exact Cd.ret (ret1 (A' := [MgB mb L, (ob, cl [fnV sel] 193), (hb, cl [.int .i64 hi] 3), (lb, cl [.int .i64 lo] 3)]) rfl (Res.tmp rfl) (fun _ h => h.split) ⟨by rw [decide_eq_false (fun h : lo ≤ (s.size : Nat) ∧ ((s.size : Nat) : Int) ≤ hi => h1 h.1)], rfl⟩)
theorem text_2_spec (mb ob : Nat) (sel : FuncId) [FnOk Tryz.prog sel] (L : List Value) (off : Nat) (s : ByteArray) [hs : SelOk sel off] (hv : L[off]? = some (.string s)) (hz : s.size ≤ 1000000) :
    Con Tryz.prog 152 #[ptr mb, ptr ob] [MgB mb L, (ob, cl [fnV sel] 193)] fun v A => v = .string (frameF s) ∧ A = [MgB mb L, (ob, cl [fnV sel] 193)] := by
  refine Con.intro (vs := [_, _]) Tryz.func152 rfl Tryz.ntmps152 rfl (fun B => ?_)
  repeat' (first | refine Cd.seq ?_ | refine Cd.reg ?_ | refine Ops.mv rfl rfl rfl rfl ?_ | refine Ops.asg rfl rfl rfl rfl ?_ | refine Ops.ld1 rfl rfl rfl rfl rfl ?_)
  refine Ops.callV (fi := []) (ca := []) (vs := [_]) (hs.s mb) rfl (noPd rfl) rfl rfl rfl rfl (fun v A' hR => ?_)
  obtain ⟨rfl, rfl⟩ := hR
  repeat' (first | refine Ops.nilP rfl rfl rfl rfl ?_)
  refine Ops.ld1 rfl rfl rfl hv rfl ?_
  refine Ops.call (text_spec s (by omega)) rfl (noPd rfl) rfl rfl rfl (fun v A' hR => ?_)
  obtain ⟨rfl, rfl⟩ := hR
  repeat' (first | refine Ops.nil ?_ | refine Ops.asg rfl rfl rfl rfl ?_)
  exact Cd.ret (ret1 (A' := [MgB mb L, (ob, cl [fnV sel] 193)]) rfl (Res.tmp rfl) (fun _ h => h.split) ⟨rfl, rfl⟩)
theorem text_3_spec (B0 : Base) (mb ob hb rb : Nat) (sel : FuncId) [FnOk Tryz.prog sel] (L : List Value) (off : Nat) (v0 : Value) (hi : Nat) [hs : SelOk sel off] (hv : L[off]? = some v0) (bs : ByteArray) (p : Nat) (e : Int) (hp : p ≤ bs.size) (hb2 : bs.size ≤ 1000000) (hhi : hi ≤ 1000000) :
    ConB Tryz.prog B0 153 #[ptr mb, ptr rb, ptr hb, ptr ob] [MgB mb L, RdB rb bs p e, (ob, cl [fnV sel] 193), (hb, cl [.int .i64 hi] 3)]
      fun v A => A = [MgB mb (L.set off (.string (rdText bs hi p e).1)), RdB rb bs (((rdText bs hi p e).2.1 : Nat) : Int) (rdText bs hi p e).2.2, (ob, cl [fnV sel] 193), (hb, cl [.int .i64 hi] 3)] := by
  have hlt := (List.getElem?_eq_some_iff.1 hv).1
  refine ConB.intro (vs := [_, _, _, _]) Tryz.func153 rfl Tryz.ntmps153 rfl (fun B hB => ?_)
  refine Cd.draw [(0, 1, []), (1, 0, []), (3, 0, []), (4, 1, []), (2, 2, [4]), (5, 2, []), (6, 0, []), (7, 2, [])] (by kernel_rfl) (by kernel_rfl) (by simp only [picked, nth]; exact rfl) ?_
  repeat' (first | refine Ops.mv rfl rfl rfl rfl ?_ | refine Ops.ld1 rfl rfl rfl rfl rfl ?_)
  refine Ops.callV (fi := []) (ca := []) (vs := [_]) (hs.s mb) rfl (by first | exact noPd rfl | (intro v A' hR i hi; obtain ⟨A2, hR, rfl⟩ := hR; (try obtain ⟨rfl, rfl⟩ := hR); (repeat (rcases List.mem_cons.1 hi with rfl | hi; · (first | exact Still.ld1 rfl rfl rfl rfl rfl | exact Still.ldN rfl rfl rfl rfl | exact Still.len rfl rfl rfl rfl rfl | exact Still.skip rfl rfl rfl | exact Still.ldRow1 rfl rfl rfl (by assumption) (by assumption) rfl rfl | exact Still.ldR rfl rfl rfl (by apply_assumption) rfl))); cases hi)) rfl rfl rfl rfl (fun v A' hR => ?_)
  obtain ⟨rfl, rfl⟩ := hR
  skip
  refine Ops.callB (rtext_spec B0 rb bs p hi e hp hb2 hhi) hB rfl (noPd rfl) rfl rfl rfl (fun v A' hR => ?_)
  obtain ⟨rfl, rfl⟩ := hR
  repeat' (first | refine Ops.nilP rfl rfl rfl rfl ?_)
  refine Ops.st1 (L' := L.set off (.string (rdText bs hi p e).1)) rfl rfl rfl rfl rfl (hs := ⟨rfl, hlt⟩) (noPd rfl) ?_
  exact Ops.nilN (end0 (A' := [MgB mb (L.set off (.string (rdText bs hi p e).1)), RdB rb bs (((rdText bs hi p e).2.1 : Nat) : Int) (rdText bs hi p e).2.2, (ob, cl [fnV sel] 193), (hb, cl [.int .i64 hi] 3)]) rfl (fun _ h => h.split) rfl)
end Go.Proofs.YtnmjdoaogdaehaaGreat
namespace Go.Proofs.YtnmjdoaogdaehaaGreat
open Go Go.Sep Go.Proofs
set_option maxRecDepth 10000
set_option maxHeartbeats 40000000
set_option synthInstance.maxSize 2000
set_option linter.unusedSimpArgs false
set_option linter.unusedVariables false
/-! messages; their fields, as values that are called -/
structure Ms where
  kind : Int
  session : Int
  number : Int
  job : Int
  badge : Int
  index : Int
  count : Int
  rcode : Int
  rbits : Int
  text : ByteArray
  prog : ByteArray
@[reducible] def Ms.row (m : Ms) : List Value := [.int .i64 m.kind, .int .i64 m.session, .int .i64 m.number, .int .i64 m.job, .int .i64 m.badge, .int .i64 m.index, .int .i64 m.count, .int .i64 m.rcode, .int .u64 m.rbits, .string m.text, .string m.prog]
@[reducible] def Ms.zero : Ms := ⟨0, 0, 0, 0, 0, 0, 0, 0, 0, ⟨#[]⟩, ⟨#[]⟩⟩
/-- Whole numbers' fields. -/
inductive Wh where
  | session | number | job | badge | index | count
def Wh.off : Wh → Nat
  | .session => 1 | .number => 2 | .job => 3 | .badge => 4 | .index => 5 | .count => 6
def Wh.get (m : Ms) : Wh → Int
  | .session => m.session | .number => m.number | .job => m.job | .badge => m.badge | .index => m.index | .count => m.count
def Wh.set (m : Ms) (n : Int) : Wh → Ms
  | .session => { m with session := n } | .number => { m with number := n } | .job => { m with job := n } | .badge => { m with badge := n } | .index => { m with index := n } | .count => { m with count := n }
theorem Wh.at_ (m : Ms) (w : Wh) : m.row[w.off]? = some (.int .i64 (w.get m)) := by cases w <;> rfl
theorem Wh.put (m : Ms) (w : Wh) (n : Int) : m.row.set w.off (.int .i64 n) = (w.set m n).row := by cases w <;> rfl
/-- Texts' fields. -/
inductive Th where
  | text | prog
def Th.off : Th → Nat
  | .text => 9 | .prog => 10
def Th.get (m : Ms) : Th → ByteArray
  | .text => m.text | .prog => m.prog
def Th.set (m : Ms) (s : ByteArray) : Th → Ms
  | .text => { m with text := s } | .prog => { m with prog := s }
theorem Th.at_ (m : Ms) (w : Th) : m.row[w.off]? = some (.string (w.get m)) := by cases w <;> rfl
theorem Th.put (m : Ms) (w : Th) (s : ByteArray) : m.row.set w.off (.string s) = (w.set m s).row := by cases w <;> rfl
inductive Fd where
  | whole (w : Wh) (lo hi : Int)
  | text (t : Th) (lo hi : Nat)
  | result
def canonF (n : Nat) : Nat := if 9218868437227405312 < n % 9223372036854775808 then 9221120237041090561 else n
def Fd.may (m : Ms) : Fd → Bool
  | .whole w lo hi => decide (lo ≤ w.get m ∧ w.get m ≤ hi)
  | .text t lo hi => decide ((lo : Int) ≤ ((t.get m).size : Nat) ∧ (((t.get m).size : Nat) : Int) ≤ (hi : Int))
  | .result => (decide (m.rcode = 0) && decide (((canonF m.rbits.toNat : Nat) : Int) = m.rbits)) || (decide (0 < m.rcode ∧ m.rcode ≤ 7) && decide (m.rbits = 0))
def Fd.lay (m : Ms) : Fd → ByteArray
  | .whole w _ _ => numB (w.get m).toNat
  | .text t _ _ => frameF (t.get m)
  | .result => numB m.rcode.toNat ++ hiB m.rbits.toNat 8
/-- The next 64 bits. -/
def rdBits (b : ByteArray) (p : Nat) (e : Int) : Nat × Nat × Int := if e ≠ 0 then (0, p, e) else if p + 8 ≤ b.size then (ofn (b.extract p (p + 8)) 8, p + 8, 0) else (0, p, 20)
def Fd.read (b : ByteArray) (s : Ms × Nat × Int) : Fd → Ms × Nat × Int
  | .whole w _ _ => (w.set s.1 ((rdNum b 1099511627776 s.2.1 s.2.2).1 : Nat), (rdNum b 1099511627776 s.2.1 s.2.2).2)
  | .text t _ hi => (t.set s.1 (rdText b hi s.2.1 s.2.2).1, (rdText b hi s.2.1 s.2.2).2)
  | .result => ({ s.1 with rcode := ((rdNum b 7 s.2.1 s.2.2).1 : Nat), rbits := ((rdBits b (rdNum b 7 s.2.1 s.2.2).2.1 (rdNum b 7 s.2.1 s.2.2).2.2).1 : Nat) }, (rdBits b (rdNum b 7 s.2.1 s.2.2).2.1 (rdNum b 7 s.2.1 s.2.2).2.2).2)
/-- What a message may hold, so that it is laid without harm. -/
structure MsOk (m : Ms) : Prop where
  t : m.text.size ≤ 100000
  p : m.prog.size ≤ 100000
  x : 0 ≤ m.rbits ∧ m.rbits < 18446744073709551616
/-- A field, as three functions and what they hold. -/
structure FdA (fd : Fd) (v1 v2 v3 : Value) (G : List Blk) : Prop where
  may : ∃ f ca, v1 = .func (.func f) #[] ca.toArray ∧ FnOk Tryz.prog f ∧ ∀ mb m, MsOk m → Con Tryz.prog f ([ptr mb] ++ ca).toArray (MgB mb m.row :: G) fun v A => v = .bool (fd.may m) ∧ A = MgB mb m.row :: G
  lay : ∃ f ca, v2 = .func (.func f) #[] ca.toArray ∧ FnOk Tryz.prog f ∧ ∀ mb m, MsOk m → fd.may m = true → Con Tryz.prog f ([ptr mb] ++ ca).toArray (MgB mb m.row :: G) fun v A => v = .string (fd.lay m) ∧ A = MgB mb m.row :: G
  read : ∃ f ca, v3 = .func (.func f) #[] ca.toArray ∧ FnOk Tryz.prog f ∧ ∀ B0 mb m rb (bs : ByteArray) (p : Nat) (e : Int), p ≤ bs.size → bs.size ≤ 1000000 → ConB Tryz.prog B0 f ([ptr mb, ptr rb] ++ ca).toArray (MgB mb m.row :: RdB rb bs p e :: G) fun v A => A = MgB mb (fd.read bs (m, p, e)).1.row :: RdB rb bs ((fd.read bs (m, p, e)).2.1 : Nat) (fd.read bs (m, p, e)).2.2 :: G
theorem whole_fd (ob lb hb : Nat) (sel : FuncId) [FnOk Tryz.prog sel] (w : Wh) [hs : SelOk sel w.off] (lo hi : Int) (h0 : 0 ≤ lo) (h1 : hi < 9223372036854775808) :
    FdA (.whole w lo hi) (.func (.func 148) #[] [ptr ob, ptr lb, ptr hb].toArray) (.func (.func 149) #[] [ptr ob].toArray) (.func (.func 150) #[] [ptr ob].toArray) [(ob, cl [fnV sel] 189), (lb, cl [.int .i64 lo] 3), (hb, cl [.int .i64 hi] 3)] := by
  refine ⟨⟨_, _, rfl, inferInstance, fun mb m _ => ?_⟩, ⟨_, _, rfl, inferInstance, fun mb m _ hm => ?_⟩, ⟨_, _, rfl, inferInstance, fun B0 mb m rb bs p e hp hb2 => ?_⟩⟩
  · exact whole1_spec mb ob lb hb sel m.row w.off (w.get m) lo hi (w.at_ m)
  · have hm : lo ≤ w.get m ∧ w.get m ≤ hi := by simpa [Fd.may] using hm
    refine ((whole2_spec mb ob sel m.row w.off (w.get m) (w.at_ m) (by omega) (by omega)).beside (F := [(lb, cl [.int .i64 lo] 3), (hb, cl [.int .i64 hi] 3)])).mono fun v A hR => ?_
    obtain ⟨A', ⟨rfl, rfl⟩, rfl⟩ := hR
    exact ⟨rfl, rfl⟩
  · refine ((whole3_spec B0 mb ob rb sel m.row w.off _ (w.at_ m) bs p e hp hb2).beside (F := [(lb, cl [.int .i64 lo] 3), (hb, cl [.int .i64 hi] 3)])).mono fun v A hR => ?_
    obtain ⟨A', rfl, rfl⟩ := hR
    rw [w.put]
    rfl
theorem text_fd (ob lb hb : Nat) (sel : FuncId) [FnOk Tryz.prog sel] (w : Th) [hs : SelOk sel w.off] (lo hi : Nat) (h1 : hi ≤ 100000) :
    FdA (.text w lo hi) (.func (.func 151) #[] [ptr ob, ptr lb, ptr hb].toArray) (.func (.func 152) #[] [ptr ob].toArray) (.func (.func 153) #[] [ptr hb, ptr ob].toArray) [(ob, cl [fnV sel] 193), (hb, cl [.int .i64 hi] 3), (lb, cl [.int .i64 lo] 3)] := by
  refine ⟨⟨_, _, rfl, inferInstance, fun mb m _ => ?_⟩, ⟨_, _, rfl, inferInstance, fun mb m hok hm => ?_⟩, ⟨_, _, rfl, inferInstance, fun B0 mb m rb bs p e hp hb2 => ?_⟩⟩
  · exact text_1_spec mb ob lb hb sel m.row w.off (w.get m) lo hi (w.at_ m)
  · have hz : (w.get m).size ≤ 1000000 := by
      have h2 := hok.t
      have h3 := hok.p
      cases w
      · show m.text.size ≤ _; omega
      · show m.prog.size ≤ _; omega
    refine ((text_2_spec mb ob sel m.row w.off (w.get m) (w.at_ m) hz).beside (F := [(hb, cl [.int .i64 hi] 3), (lb, cl [.int .i64 lo] 3)])).mono fun v A hR => ?_
    obtain ⟨A', ⟨rfl, rfl⟩, rfl⟩ := hR
    exact ⟨rfl, rfl⟩
  · refine ((text_3_spec B0 mb ob hb rb sel m.row w.off _ hi (w.at_ m) bs p e hp hb2 (by omega)).beside (F := [(lb, cl [.int .i64 lo] 3)])).mono fun v A hR => ?_
    obtain ⟨A', rfl, rfl⟩ := hR
    rw [w.put]
    rfl
theorem whole_spec (sel : FuncId) [FnOk Tryz.prog sel] (w : Wh) [hs : SelOk sel w.off] (lo hi : Int) (h0 : 0 ≤ lo) (h1 : hi < 9223372036854775808) :
    Con Tryz.prog 88 #[fnV sel, .int .i64 lo, .int .i64 hi] [] fun v A => ∃ v1 v2 v3, v = .agg [v1, v2, v3].toArray ∧ FdA (.whole w lo hi) v1 v2 v3 A := by
  refine Con.intro (vs := [_, _, _]) Tryz.func88 rfl Tryz.ntmps88 rfl (fun B => ?_)
  repeat' (first | refine Ops.mkF rfl rfl rfl rfl rfl ?_ | refine Cd.seq ?_ | refine Cd.reg ?_ | refine Ops.nil ?_ | refine Ops.bld rfl rfl rfl rfl ?_ | refine Ops.box rfl rfl rfl rfl (noPd rfl) (fun b => ?_) | refine Ops.alloc rfl rfl rfl (noPd rfl) (fun b => ?_) | refine Ops.stN rfl rfl rfl rfl rfl rfl (noPd rfl) ?_)
  rename_i ob lb hb
  rename Nat => rz
  exact Cd.ret (ret1 (A' := [(ob, cl [fnV sel] 189), (lb, cl [.int .i64 lo] 3), (hb, cl [.int .i64 hi] 3)]) rfl (Res.cellN rfl) (fun _ h => h.split) ⟨_, _, _, rfl, whole_fd ob lb hb sel w lo hi h0 h1⟩)
theorem textf_spec (sel : FuncId) [FnOk Tryz.prog sel] (w : Th) [hs : SelOk sel w.off] (lo hi : Nat) (h1 : hi ≤ 100000) :
    Con Tryz.prog 97 #[fnV sel, .int .i64 lo, .int .i64 hi] [] fun v A => ∃ v1 v2 v3, v = .agg [v1, v2, v3].toArray ∧ FdA (.text w lo hi) v1 v2 v3 A := by
  refine Con.intro (vs := [_, _, _]) Tryz.func97 rfl Tryz.ntmps97 rfl (fun B => ?_)
  repeat' (first | refine Ops.mkF rfl rfl rfl rfl rfl ?_ | refine Cd.seq ?_ | refine Cd.reg ?_ | refine Ops.nil ?_ | refine Ops.bld rfl rfl rfl rfl ?_ | refine Ops.box rfl rfl rfl rfl (noPd rfl) (fun b => ?_) | refine Ops.alloc rfl rfl rfl (noPd rfl) (fun b => ?_) | refine Ops.stN rfl rfl rfl rfl rfl rfl (noPd rfl) ?_)
  rename_i ob lb hb
  rename Nat => rz
  exact Cd.ret (ret1 (A' := [(ob, cl [fnV sel] 193), (hb, cl [.int .i64 hi] 3), (lb, cl [.int .i64 lo] 3)]) rfl (Res.cellN rfl) (fun _ h => h.split) ⟨_, _, _, rfl, text_fd ob lb hb sel w lo hi h1⟩)
theorem indexf_spec (most : Int) (h1 : most < 9223372036854775808) : Con Tryz.prog 93 #[.int .i64 most] [] fun v A => ∃ v1 v2 v3, v = .agg [v1, v2, v3].toArray ∧ FdA (.whole .index 0 most) v1 v2 v3 A := by
  refine Con.intro (vs := [_]) Tryz.func93 rfl Tryz.ntmps93 rfl (fun B => ?_)
  haveI : SelOk 94 Wh.index.off := (inferInstance : SelOk 94 5)
  repeat' (first | refine Cd.seq ?_ | refine Cd.reg ?_ | refine Ops.mv rfl rfl rfl rfl ?_ | refine Ops.alloc rfl rfl rfl (noPd rfl) (fun b => ?_))
  refine Ops.call (whole_spec 94 .index 0 most (by decide) h1) rfl (noPd rfl) rfl rfl rfl (fun v A' hR => ?_)
  obtain ⟨v1, v2, v3, rfl, hF⟩ := hR
  obtain ⟨⟨f1, c1, rfl, q1⟩, ⟨f2, c2, rfl, q2⟩, ⟨f3, c3, rfl, q3⟩⟩ := hF
  repeat' (first | refine Ops.nil ?_ | refine Ops.stN rfl rfl rfl rfl rfl rfl (noPd rfl) ?_)
  exact Cd.ret (ret1 (A' := A') rfl (Res.cellN rfl) (fun _ h => h.split) ⟨_, _, _, rfl, ⟨f1, c1, rfl, q1⟩, ⟨f2, c2, rfl, q2⟩, ⟨f3, c3, rfl, q3⟩⟩)
theorem countf_spec (most : Int) (h1 : most < 9223372036854775808) : Con Tryz.prog 95 #[.int .i64 most] [] fun v A => ∃ v1 v2 v3, v = .agg [v1, v2, v3].toArray ∧ FdA (.whole .count 0 most) v1 v2 v3 A := by
  refine Con.intro (vs := [_]) Tryz.func95 rfl Tryz.ntmps95 rfl (fun B => ?_)
  haveI : SelOk 96 Wh.count.off := (inferInstance : SelOk 96 6)
  repeat' (first | refine Cd.seq ?_ | refine Cd.reg ?_ | refine Ops.mv rfl rfl rfl rfl ?_ | refine Ops.alloc rfl rfl rfl (noPd rfl) (fun b => ?_))
  refine Ops.call (whole_spec 96 .count 0 most (by decide) h1) rfl (noPd rfl) rfl rfl rfl (fun v A' hR => ?_)
  obtain ⟨v1, v2, v3, rfl, hF⟩ := hR
  obtain ⟨⟨f1, c1, rfl, q1⟩, ⟨f2, c2, rfl, q2⟩, ⟨f3, c3, rfl, q3⟩⟩ := hF
  repeat' (first | refine Ops.nil ?_ | refine Ops.stN rfl rfl rfl rfl rfl rfl (noPd rfl) ?_)
  exact Cd.ret (ret1 (A' := A') rfl (Res.cellN rfl) (fun _ h => h.split) ⟨_, _, _, rfl, ⟨f1, c1, rfl, q1⟩, ⟨f2, c2, rfl, q2⟩, ⟨f3, c3, rfl, q3⟩⟩)
end Go.Proofs.YtnmjdoaogdaehaaGreat
