import Derived.Test.YtlfhimdmhhpcfaaL2
import Derived.Test.YtlfhimdmhhpcfaaP1
namespace Go.Proofs.Ytlfhimdmhhpcfaa
open Go Go.Sep Go.Proofs
set_option maxRecDepth 10000
set_option maxHeartbeats 2000000
set_option synthInstance.maxSize 2000
set_option linter.unusedSimpArgs false
set_option linter.unusedVariables false

@[reducible] def ptr (n : Nat) : Value := .pointer (some ⟨n, 0, none⟩)
/-- A table: its ticks, the map. -/
@[reducible] def TB (n m : Nat) (ticks : Int) (es : List ME) (ck : Nat) : List Blk := [(n, cl [.int .i64 ticks, .map (some m)] 65), (m, mpo es ck)]
@[reducible] def LE.zero : LE := ⟨0, 0, 0, 0, 0⟩
structure TOk (ticks : Int) (l : List LE) (es : List ME) (ck : Nat) : Prop where
  lok : LOk ticks l
  m : MOk es ck
  is_ : LsIs es l
theorem TOk.new {ticks : Int} (h1 : 1 ≤ ticks) (h2 : ticks ≤ 256) : TOk ticks [] [] 0 :=
  ⟨⟨List.Pairwise.nil, List.nodup_nil, (fun x h => by cases h), (fun x h => by cases h), (fun x h => by cases h), h1, h2⟩, ⟨List.nodup_nil, List.nodup_nil, (fun x h => by cases h)⟩, LsIs.nil⟩
theorem LsIs.renew {es : List ME} {ck : Nat} {l : List LE} {b t : Int} {x : LE} (h : LsIs es l) (hok : MOk es ck) (ha : Asc l) (hx : lfind l b = some x) :
    LsIs (mput es ck b ({ x with left := t } : LE).val) (l.map fun z => if z.badge = b then { z with left := t } else z) := by
  obtain ⟨hm, e⟩ := lfind_mem hx
  subst e
  have := h.set (y := { x with left := t }) hok hx rfl
  have e2 : (l.map fun z => if z.badge = x.badge then ({ x with left := t } : LE) else z) = l.map fun z => if z.badge = x.badge then { z with left := t } else z := by
    refine List.map_congr_left fun z hz => ?_
    split
    · rename_i e; rw [ha.eq hz hm e]
    · rfl
  rwa [e2] at this

theorem new_no (a : Int) (h : ¬ (1 ≤ a ∧ a ≤ 256)) : Con Try.prog 9 #[.int .i64 a] [] fun v A => v = .tuple #[.pointer none, .int .i64 120] ∧ A = [] := by
  refine Con.intro (vs := [_]) Try.func9 rfl Try.ntmps9 rfl (fun B => ?_)
  by_cases h1 : a < 1
  · repeat' (first | refine Cd.seq ?_ | refine Cd.reg ?_ | refine Ops.nil ?_ | refine Ops.mv rfl rfl rfl rfl ?_ | refine Ops.asg rfl rfl rfl rfl ?_ | refine Ops.bin rfl rfl rfl rfl rfl ?_ | refine Ops.pickT rfl rfl rfl rfl rfl ?_ | refine Ops.gSkip rfl rfl rfl ?_ | refine Cd.condT rfl rfl ?_ | ((fail_if_success refine Ops.probe rfl ?_); refine Ops.gT rfl rfl (by first | rfl | assumption | (simp only [decide_eq_true_eq, decide_eq_false_iff_not, Bool.not_eq_true', Bool.not_eq_false', Bool.not_eq_eq_eq_not, Bool.not_true, Bool.not_false, beq_iff_eq, beq_eq_false_iff_ne, ne_eq, decide_eq_decide, eq_self, true_iff, iff_true, not_true_eq_false, not_false_eq_true]; first | done | omega)) ?_))
    exact Cd.ret (ret2 rfl (Res.tmp rfl) (Res.tmp rfl) (fun _ h => h) ⟨rfl, rfl⟩)
  · have h2 : 256 < a := by omega
    repeat' (first | refine Cd.seq ?_ | refine Cd.reg ?_ | refine Ops.nil ?_ | refine Ops.mv rfl rfl rfl rfl ?_ | refine Ops.asg rfl rfl rfl rfl ?_ | refine Ops.bin rfl rfl rfl rfl rfl ?_ | refine Ops.pickF rfl rfl rfl rfl rfl ?_ | refine Cd.condT rfl (by first | rfl | assumption | (simp only [decide_eq_true_eq, decide_eq_false_iff_not, Bool.not_eq_true', Bool.not_eq_false', Bool.not_eq_eq_eq_not, Bool.not_true, Bool.not_false, beq_iff_eq, beq_eq_false_iff_ne, ne_eq, decide_eq_decide, eq_self, true_iff, iff_true, not_true_eq_false, not_false_eq_true]; first | done | omega)) ?_ | ((fail_if_success refine Ops.probe rfl ?_); refine Ops.gF rfl rfl (by first | rfl | assumption | (simp only [decide_eq_true_eq, decide_eq_false_iff_not, Bool.not_eq_true', Bool.not_eq_false', Bool.not_eq_eq_eq_not, Bool.not_true, Bool.not_false, beq_iff_eq, beq_eq_false_iff_ne, ne_eq, decide_eq_decide, eq_self, true_iff, iff_true, not_true_eq_false, not_false_eq_true]; first | done | omega)) ?_))
    exact Cd.ret (ret2 rfl (Res.tmp rfl) (Res.tmp rfl) (fun _ h => h) ⟨rfl, rfl⟩)
theorem new_yes (a : Int) (h1 : 1 ≤ a) (h2 : a ≤ 256) : Con Try.prog 9 #[.int .i64 a] [] fun v A => ∃ n m, v = .tuple #[ptr n, .int .i64 0] ∧ A = TB n m a [] 0 := by
  refine Con.intro (vs := [_]) Try.func9 rfl Try.ntmps9 rfl (fun B => ?_)
  repeat' (first | refine Ops.mkM rfl rfl rfl (noPd rfl) (fun b => ?_) | refine Cd.seq ?_ | refine Cd.reg ?_ | refine Ops.nil ?_ | refine Ops.mv rfl rfl rfl rfl ?_ | refine Ops.asg rfl rfl rfl rfl ?_ | refine Ops.bin rfl rfl rfl rfl rfl ?_ | refine Ops.pickF rfl rfl rfl rfl rfl ?_ | refine Ops.bld rfl rfl rfl rfl ?_ | refine Ops.box rfl rfl rfl rfl (noPd rfl) (fun b => ?_) | refine Cd.skip (Cd.next ?_) | refine Cd.condF rfl (by first | rfl | assumption | (simp only [decide_eq_true_eq, decide_eq_false_iff_not, Bool.not_eq_true', Bool.not_eq_false', Bool.not_eq_eq_eq_not, Bool.not_true, Bool.not_false, beq_iff_eq, beq_eq_false_iff_ne, ne_eq, decide_eq_decide, eq_self, true_iff, iff_true, not_true_eq_false, not_false_eq_true]; first | done | omega)) ?_ | ((fail_if_success refine Ops.probe rfl ?_); refine Ops.gF rfl rfl (by first | rfl | assumption | (simp only [decide_eq_true_eq, decide_eq_false_iff_not, Bool.not_eq_true', Bool.not_eq_false', Bool.not_eq_eq_eq_not, Bool.not_true, Bool.not_false, beq_iff_eq, beq_eq_false_iff_ne, ne_eq, decide_eq_decide, eq_self, true_iff, iff_true, not_true_eq_false, not_false_eq_true]; first | done | omega)) ?_))
  exact Cd.ret (ret2 rfl (Res.tmp rfl) (Res.tmp rfl) (fun _ h => h) ⟨_, _, rfl, rfl⟩)
theorem find_spec (n m : Nat) (ticks : Int) (l : List LE) (es : List ME) (ck : Nat) (bd : Int) (h : TOk ticks l es ck) : Con Try.prog 23 #[ptr n, .int .i64 bd] (TB n m ticks es ck) fun v A => v = .tuple #[((lfind l bd).getD LE.zero).val, .bool (lfind l bd).isSome] ∧ A = TB n m ticks es ck := by
  refine Con.intro (vs := [_, _]) Try.func23 rfl Try.ntmps23 rfl (fun B => ?_)
  have hg := h.is_ bd
  cases hf : lfind l bd with
  | none =>
    rw [hf] at hg
    have hg : mget es bd = none := hg
    repeat' (first | refine Ops.lkI rfl rfl rfl rfl rfl ?_ | refine Cd.seq ?_ | refine Cd.reg ?_ | refine Ops.mv rfl rfl rfl rfl ?_ | refine Ops.asg rfl rfl rfl rfl ?_ | refine Ops.nilP rfl rfl rfl rfl ?_ | refine Ops.fa0 rfl rfl rfl rfl ?_ | refine Ops.ld1 rfl rfl rfl rfl rfl ?_ | refine Ops.ext rfl rfl rfl rfl rfl ?_ | refine Ops.alloc rfl rfl rfl (noPd rfl) (fun b => ?_))
    simp only [hg, Option.getD_none, Option.isSome_none]
    repeat' (first | refine Cd.seq ?_ | refine Cd.reg ?_ | refine Ops.nil ?_ | refine Ops.mv rfl rfl rfl rfl ?_ | refine Ops.asg rfl rfl rfl rfl ?_ | refine Ops.ldN rfl rfl rfl rfl ?_ | refine Ops.stN rfl rfl rfl rfl rfl rfl (noPd rfl) ?_)
    exact Cd.ret (ret2 (A' := TB n m ticks es ck) rfl (Res.cellN rfl) (Res.tmp rfl) (fun _ h => h.split) ⟨rfl, rfl⟩)
  | some x =>
    rw [hf] at hg
    have hg : mget es bd = some x.val := hg
    repeat' (first | refine Ops.lkI rfl rfl rfl rfl rfl ?_ | refine Cd.seq ?_ | refine Cd.reg ?_ | refine Ops.mv rfl rfl rfl rfl ?_ | refine Ops.asg rfl rfl rfl rfl ?_ | refine Ops.nilP rfl rfl rfl rfl ?_ | refine Ops.fa0 rfl rfl rfl rfl ?_ | refine Ops.ld1 rfl rfl rfl rfl rfl ?_ | refine Ops.ext rfl rfl rfl rfl rfl ?_ | refine Ops.alloc rfl rfl rfl (noPd rfl) (fun b => ?_))
    simp only [hg, Option.getD_some, Option.isSome_some]
    repeat' (first | refine Cd.seq ?_ | refine Cd.reg ?_ | refine Ops.nil ?_ | refine Ops.mv rfl rfl rfl rfl ?_ | refine Ops.asg rfl rfl rfl rfl ?_ | refine Ops.ldN rfl rfl rfl rfl ?_ | refine Ops.stN rfl rfl rfl rfl rfl rfl (noPd rfl) ?_)
    exact Cd.ret (ret2 (A' := TB n m ticks es ck) rfl (Res.cellN rfl) (Res.tmp rfl) (fun _ h => h.split) ⟨rfl, rfl⟩)
theorem renew_spec (n m : Nat) (ticks : Int) (l : List LE) (es : List ME) (ck : Nat) (bd : Int) (h : TOk ticks l es ck) : Con Try.prog 22 #[ptr n, .int .i64 bd] (TB n m ticks es ck) fun v A => v = .int .i64 (renewF ticks l bd).1 ∧ ∃ es' ck', A = TB n m ticks es' ck' ∧ TOk ticks (renewF ticks l bd).2 es' ck' := by
  refine Con.intro (vs := [_, _]) Try.func22 rfl Try.ntmps22 rfl (fun B => ?_)
  have hg := h.is_ bd
  have hok := renewF_ok h.lok bd
  unfold renewF at hok ⊢
  cases hf : lfind l bd with
  | none =>
    rw [hf] at hg
    have hg : mget es bd = none := hg
    rw [if_pos rfl]
    repeat' (first | refine Ops.lkI rfl rfl rfl rfl rfl ?_ | refine Cd.seq ?_ | refine Cd.reg ?_ | refine Ops.mv rfl rfl rfl rfl ?_ | refine Ops.asg rfl rfl rfl rfl ?_ | refine Ops.nilP rfl rfl rfl rfl ?_ | refine Ops.fa0 rfl rfl rfl rfl ?_ | refine Ops.ld1 rfl rfl rfl rfl rfl ?_ | refine Ops.ext rfl rfl rfl rfl rfl ?_ | refine Ops.alloc rfl rfl rfl (noPd rfl) (fun b => ?_))
    simp only [hg, Option.getD_none, Option.isSome_none]
    repeat' (first | refine Cd.seq ?_ | refine Cd.reg ?_ | refine Ops.nil ?_ | refine Ops.mv rfl rfl rfl rfl ?_ | refine Ops.asg rfl rfl rfl rfl ?_ | refine Ops.un rfl rfl rfl rfl ?_ | refine Ops.stN rfl rfl rfl rfl rfl rfl (noPd rfl) ?_ | refine Cd.condT rfl rfl ?_)
    exact Cd.ret (ret1 (A' := TB n m ticks es ck) rfl (Res.tmp rfl) (fun _ h => h.split) ⟨rfl, es, ck, rfl, h⟩)
  | some x =>
    rw [hf] at hg
    have hg : mget es bd = some x.val := hg
    rw [if_neg (by simp)]
    rw [hf, if_neg (by simp)] at hok
    repeat' (first | refine Ops.lkI rfl rfl rfl rfl rfl ?_ | refine Cd.seq ?_ | refine Cd.reg ?_ | refine Ops.mv rfl rfl rfl rfl ?_ | refine Ops.asg rfl rfl rfl rfl ?_ | refine Ops.nilP rfl rfl rfl rfl ?_ | refine Ops.fa0 rfl rfl rfl rfl ?_ | refine Ops.ld1 rfl rfl rfl rfl rfl ?_ | refine Ops.ext rfl rfl rfl rfl rfl ?_ | refine Ops.alloc rfl rfl rfl (noPd rfl) (fun b => ?_))
    simp only [hg, Option.getD_some, Option.isSome_some]
    repeat' (first | refine Cd.seq ?_ | refine Cd.reg ?_ | refine Ops.nil ?_ | refine Ops.mv rfl rfl rfl rfl ?_ | refine Ops.asg rfl rfl rfl rfl ?_ | refine Ops.nilP rfl rfl rfl rfl ?_ | refine Ops.fa0 rfl rfl rfl rfl ?_ | refine Ops.ld1 rfl rfl rfl rfl rfl ?_ | refine Ops.un rfl rfl rfl rfl ?_ | refine Ops.st1 rfl rfl rfl rfl rfl (noPd rfl) ?_ | refine Ops.stN rfl rfl rfl rfl rfl rfl (noPd rfl) ?_ | refine Cd.condF rfl rfl ?_ | refine Cd.skip (Cd.next ?_))
    refine Cd.draw [(0, 0, []), (1, 0, []), (2, 0, []), (3, 1, []), (4, 0, []), (5, 1, []), (6, 2, [])] (by kernel_rfl) (by kernel_rfl) (by simp only [picked, nth]; exact rfl) ?_
    repeat' (first | refine Ops.upI rfl rfl rfl rfl rfl (noPd rfl) ?_ | refine Cd.seq ?_ | refine Cd.reg ?_ | refine Ops.nil ?_ | refine Ops.mv rfl rfl rfl rfl ?_ | refine Ops.asg rfl rfl rfl rfl ?_ | refine Ops.nilP rfl rfl rfl rfl ?_ | refine Ops.fa0 rfl rfl rfl rfl ?_ | refine Ops.ld1 rfl rfl rfl rfl rfl ?_ | refine Ops.ldN rfl rfl rfl rfl ?_)
    exact Cd.ret (ret1 (A' := TB n m ticks (mput es ck bd ({ x with left := ticks } : LE).val) (mck es ck bd)) rfl (Res.tmp rfl) (fun _ h => h.split) ⟨rfl, _, _, rfl, hok, h.m.put _ _, h.is_.renew h.m h.lok.asc hf⟩)
theorem drop_spec (n m : Nat) (ticks : Int) (l : List LE) (es : List ME) (ck : Nat) (bd : Int) (h : TOk ticks l es ck) : Con Try.prog 17 #[ptr n, .int .i64 bd] (TB n m ticks es ck) fun v A => v = .int .i64 (dropF l bd).1 ∧ ∃ es' ck', A = TB n m ticks es' ck' ∧ TOk ticks (dropF l bd).2 es' ck' := by
  refine Con.intro (vs := [_, _]) Try.func17 rfl Try.ntmps17 rfl (fun B => ?_)
  have hg := h.is_ bd
  have hok := dropF_ok h.lok bd
  unfold dropF at hok ⊢
  cases hf : lfind l bd with
  | none =>
    rw [hf] at hg
    have hg : mget es bd = none := hg
    rw [if_pos rfl]
    repeat' (first | refine Ops.lkI rfl rfl rfl rfl rfl ?_ | refine Cd.seq ?_ | refine Cd.reg ?_ | refine Ops.mv rfl rfl rfl rfl ?_ | refine Ops.asg rfl rfl rfl rfl ?_ | refine Ops.nilP rfl rfl rfl rfl ?_ | refine Ops.fa0 rfl rfl rfl rfl ?_ | refine Ops.ld1 rfl rfl rfl rfl rfl ?_ | refine Ops.ext rfl rfl rfl rfl rfl ?_ | refine Ops.alloc rfl rfl rfl (noPd rfl) (fun b => ?_))
    simp only [hg, Option.getD_none, Option.isSome_none]
    repeat' (first | refine Cd.seq ?_ | refine Cd.reg ?_ | refine Ops.nil ?_ | refine Ops.mv rfl rfl rfl rfl ?_ | refine Ops.asg rfl rfl rfl rfl ?_ | refine Ops.un rfl rfl rfl rfl ?_ | refine Ops.stN rfl rfl rfl rfl rfl rfl (noPd rfl) ?_ | refine Cd.condT rfl rfl ?_)
    exact Cd.ret (ret1 (A' := TB n m ticks es ck) rfl (Res.tmp rfl) (fun _ h => h.split) ⟨rfl, es, ck, rfl, h⟩)
  | some x =>
    rw [hf] at hg
    have hg : mget es bd = some x.val := hg
    rw [if_neg (by simp)]
    rw [hf, if_neg (by simp)] at hok
    repeat' (first | refine Ops.lkI rfl rfl rfl rfl rfl ?_ | refine Cd.seq ?_ | refine Cd.reg ?_ | refine Ops.mv rfl rfl rfl rfl ?_ | refine Ops.asg rfl rfl rfl rfl ?_ | refine Ops.nilP rfl rfl rfl rfl ?_ | refine Ops.fa0 rfl rfl rfl rfl ?_ | refine Ops.ld1 rfl rfl rfl rfl rfl ?_ | refine Ops.ext rfl rfl rfl rfl rfl ?_ | refine Ops.alloc rfl rfl rfl (noPd rfl) (fun b => ?_))
    simp only [hg, Option.getD_some, Option.isSome_some]
    repeat' (first | refine Ops.delI rfl rfl rfl rfl (noPd rfl) ?_ | refine Cd.seq ?_ | refine Cd.reg ?_ | refine Ops.nil ?_ | refine Ops.mv rfl rfl rfl rfl ?_ | refine Ops.asg rfl rfl rfl rfl ?_ | refine Ops.nilP rfl rfl rfl rfl ?_ | refine Ops.fa0 rfl rfl rfl rfl ?_ | refine Ops.ld1 rfl rfl rfl rfl rfl ?_ | refine Ops.un rfl rfl rfl rfl ?_ | refine Ops.stN rfl rfl rfl rfl rfl rfl (noPd rfl) ?_ | refine Cd.condF rfl rfl ?_ | refine Cd.skip (Cd.next ?_))
    exact Cd.ret (ret1 (A' := TB n m ticks (mdel es bd) ck) rfl (Res.tmp rfl) (fun _ h => h.split) ⟨rfl, _, _, rfl, hok, h.m.del _, h.is_.del h.m⟩)
theorem clone_spec (n mb : Nat) (ticks : Int) (es : List ME) (ck : Nat) : Con Try.prog 26 #[ptr n] (TB n mb ticks es ck) fun v A => ∃ n' b', v = ptr n' ∧ A = TB n mb ticks es ck ++ TB n' b' ticks es ck := by
  refine Con.intro (vs := [_]) Try.func26 rfl Try.ntmps26 rfl (fun B => ?_)
  repeat' (first | refine Cd.seq ?_ | refine Cd.reg ?_ | refine Ops.asg rfl rfl rfl rfl ?_)
  refine Cd.draw [(0, 0, []), (1, 0, []), (2, 0, []), (3, 1, []), (4, 0, []), (5, 0, []), (6, 0, []), (7, 1, []), (8, 2, [3]), (9, 0, []), (10, 2, []), (11, 0, [])] (by kernel_rfl) (by kernel_rfl) (by simp only [picked, nth]; exact rfl) ?_
  repeat' (first | refine Ops.mv rfl rfl rfl rfl ?_ | refine Ops.nilP rfl rfl rfl rfl ?_ | refine Ops.fa0 rfl rfl rfl rfl ?_ | refine Ops.ld1 rfl rfl rfl rfl rfl ?_)
  refine Ops.call (mclone_spec mb es ck) rfl (by first | exact noPd rfl | (intro v A' hR i hi; obtain ⟨A2, hR, rfl⟩ := hR; (try obtain ⟨rfl, rfl⟩ := hR); (repeat (rcases List.mem_cons.1 hi with rfl | hi; · (first | exact Still.ld1 rfl rfl rfl rfl rfl | exact Still.ldN rfl rfl rfl rfl | exact Still.len rfl rfl rfl rfl rfl | exact Still.skip rfl rfl rfl | exact Still.ldRow1 rfl rfl rfl (by assumption) (by assumption) rfl rfl | exact Still.ldR rfl rfl rfl (by apply_assumption) rfl))); cases hi)) rfl rfl rfl (fun v A' hR => ?_)
  obtain ⟨b', rfl, rfl⟩ := hR
  repeat' (first | refine Ops.nil ?_ | refine Ops.asg rfl rfl rfl rfl ?_ | refine Ops.bld rfl rfl rfl rfl ?_ | refine Ops.box rfl rfl rfl rfl (noPd rfl) (fun b => ?_))
  rename Nat => nb
  exact Cd.ret (ret1 rfl (Res.tmp rfl) (fun _ h => (h.split : Sat _ ((n, cl [.int .i64 ticks, .map (some mb)] 65) :: (mb, mpo es ck) :: (nb, cl [.int .i64 ticks, .map (some b')] 65) :: [(b', mpo es ck)]) _)) ⟨nb, b', rfl, rfl⟩)

theorem all_spec (n : Nat) : Con Try.prog 13 #[ptr n] [] fun v A => ∃ b, v = .func (.func 28) #[] #[ptr b] ∧ A = [(b, cl [ptr n] 23)] := by
  refine Con.intro (vs := [_]) Try.func13 rfl Try.ntmps13 rfl (fun B => ?_)
  repeat' (first | refine Ops.mkF rfl rfl rfl rfl rfl ?_ | refine Cd.seq ?_ | refine Cd.reg ?_ | refine Ops.nil ?_ | refine Ops.asg rfl rfl rfl rfl ?_ | refine Ops.box rfl rfl rfl rfl (noPd rfl) (fun b => ?_))
  exact Cd.ret (ret1 rfl (Res.tmp rfl) (fun _ h => h) ⟨_, rfl, rfl⟩)

/-- What All tells. -/
@[reducible] def encL (x : LE) : List Value := [x.val]
theorem take_next {α : Type} {l : List α} {i : Nat} {x : α} (h : l[i]? = some x) : l.take i ++ [x] = l.take (i + 1) := by
  rw [List.take_add_one, h]; rfl
def Told (l pre : List LE) : Prop := ∃ i, i < l.length ∧ pre = l.take (i + 1)
theorem all_iter (n bx m : Nat) (ticks : Int) (l : List LE) (es : List ME) (ck : Nat) (h : TOk ticks l es ck) :
    IterC Try.prog 28 [ptr bx] encL (Told l) (fun xs => xs = l) [(bx, cl [ptr n] 23)] (TB n m ticks es ck) := by
  intro B0 lp Y Z hG hY C hC
  obtain ⟨F, hp⟩ := hG C hC
  have hfew := h.lok.few
  have hel := h.is_.len h.m h.lok.asc
  refine ConB.intro (vs := [.func (.yield lp) #[] #[], ptr bx]) Try.func28 rfl Try.ntmps28 rfl (fun B hx => ?_)
  refine Cd.blk (A' := (bx, cl [ptr n] 23) :: (TB n m ticks es ck ++ F)) ?_ (fun w hw => hw.perm (hp.cons _))
  repeat' (first | refine Cd.seq ?_ | refine Cd.reg ?_ | refine Ops.nilP rfl rfl rfl rfl ?_ | refine Ops.fa0 rfl rfl rfl rfl ?_ | refine Ops.ld1 rfl rfl rfl rfl rfl ?_)
  refine Ops.call (mclone_spec m es ck) rfl (noPd rfl) rfl rfl rfl (fun v A' hR => ?_)
  obtain ⟨b', rfl, rfl⟩ := hR
  repeat' (first | refine Cd.seq ?_ | refine Cd.reg ?_ | refine Ops.mv rfl rfl rfl rfl ?_ | refine Ops.asg rfl rfl rfl rfl ?_)
  refine Ops.call (keys_spec b') rfl (noPd rfl) rfl rfl rfl (fun v A' hR => ?_)
  obtain ⟨kx, rfl, rfl⟩ := hR
  skip
  refine Ops.call (sorted_spec _ _ (KeyRow es) (KeyAll es) _ (keys_iter kx b' es ck h.m) (fun pre hpre => by have := hpre.len; omega) (fun xs hxs => by have := hxs.length_eq; simp at this; omega)) rfl (noPd rfl) rfl rfl rfl (fun v A' hR => ?_)
  obtain ⟨xs, ys, G, hxs, hp2, hs2, hO, rfl⟩ := hR
  obtain rfl := keys_sorted h.is_ h.m h.lok.asc hxs hp2 hs2
  obtain ⟨a', c', rfl⟩ := hO.form
  have hyl : ((l.map LE.badge).map irow).length = l.length := by simp
  rw [hyl] at hO ⊢
  repeat' (first | refine Ops.nil ?_ | refine Ops.mv rfl rfl rfl rfl ?_ | refine Ops.lenS rfl rfl rfl rfl ?_ | refine Cd.block ?_)
  refine Cd.loopK (fun s : Nat × List Blk => s.1 ≤ l.length ∧ Y (l.take s.1) s.2) (fun s => [(0, .func (.yield lp) #[] #[]), (3, .map (some b')), (13, .slice a' l.length c'), (14, .int .i64 l.length), (15, .int .i64 s.1)])
    (fun s => (bx, cl [ptr n] 23) :: (b', mpo es ck) :: (G ++ s.2)) (fun s => l.length - s.1) (0, C) ⟨Nat.zero_le _, hC⟩ ⟨rfl, rfl, rfl, rfl, rfl, trivial⟩
    (fun w hw => ((hw.split : Sat _ ((bx, cl [ptr n] 23) :: (b', mpo es ck) :: (G ++ ((n, cl [.int .i64 ticks, .map (some m)] 65) :: (m, mpo es ck) :: F))) w).perm ((((hp.symm).append_left G).cons _).cons _))) (fun s hI => ?_)
  obtain ⟨i, C1⟩ := s
  obtain ⟨hi, hYC⟩ := hI
  dsimp only at hi hYC ⊢
  clear hp hC hG
  by_cases hil : i < l.length
  · obtain ⟨g, c2, spare, he, rfl, hsp, hle⟩ := hO.some_ (by rw [hyl]; omega)
    rw [hyl] at he
    injection he with he1 he2 he3
    subst he1; subst he3
    obtain ⟨x, hxi⟩ : ∃ x, l[i]? = some x := ⟨_, List.getElem?_eq_getElem hil⟩
    have hr : ((l.map LE.badge).map irow)[(i : Int).toNat]? = some [.int .i64 x.badge] := by
      rw [Int.toNat_natCast, List.getElem?_map, List.getElem?_map, hxi]; rfl
    have hk := irows_ok (l.map LE.badge)
    have hg : mget es x.badge = some x.val := by rw [h.is_, lfind_of h.lok.asc (List.mem_of_getElem? hxi)]; rfl
    repeat' (first | refine Ops.lk1 rfl rfl rfl rfl rfl ?_ | refine Cd.seq ?_ | refine Cd.reg ?_ | refine Ops.mv rfl rfl rfl rfl ?_ | refine Ops.asg rfl rfl rfl rfl ?_ | refine Ops.bin rfl rfl rfl rfl rfl ?_ | refine Cd.block ?_ | refine Cd.skip (Cd.next ?_) | refine Ops.ixa0 rfl rfl rfl rfl (by omega) (by omega) rfl ?_ | refine Ops.ldCell rfl rfl rfl (by assumption) (by assumption) rfl ?_ | refine Cd.condT rfl (by first | rfl | assumption | (simp only [decide_eq_true_eq, decide_eq_false_iff_not, Bool.not_eq_true', Bool.not_eq_false', Bool.not_eq_eq_eq_not, Bool.not_true, Bool.not_false, beq_iff_eq, beq_eq_false_iff_ne, ne_eq, decide_eq_decide, eq_self, true_iff, iff_true, not_true_eq_false, not_false_eq_true]; first | done | omega)) ?_)
    simp only [hg, Option.getD_some]
    refine Ops.callY (hY _ x ⟨i, hil, take_next hxi⟩ C1 hYC) hx rfl (noPd rfl) rfl rfl rfl rfl (fun v A' hR => ?_)
    rcases hR with ⟨rfl, hY'⟩ | ⟨rfl, hZ⟩
    · repeat' (first | refine Cd.reg ?_ | refine Ops.nil ?_ | refine Ops.mv rfl rfl rfl rfl ?_ | refine Ops.addI rfl rfl rfl rfl (by omega) (by omega) rfl ?_ | refine Ops.un rfl rfl rfl rfl ?_ | refine Cd.condF rfl rfl ?_ | refine Cd.skip (Cd.next (Q' := fun _ _ _ => True) ?_))
      rw [take_next hxi] at hY'
      exact Ops.nilN (round_end (i + 1, A') ⟨by show i + 1 ≤ l.length; omega, hY'⟩ (by show l.length - (i + 1) < l.length - i; omega) ⟨rfl, rfl, rfl, rfl, rfl, trivial⟩
        (fun w h => (h.split : Sat _ ((bx, cl [ptr n] 23) :: (b', mpo es ck) :: ([(g, cl (((l.map LE.badge).map irow).flatten ++ spare) 3)] ++ A')) w)))
    · repeat' (first | refine Ops.nil ?_ | refine Ops.un rfl rfl rfl rfl ?_ | refine Cd.condT rfl rfl ?_)
      exact Cd.ret (ret0 (A' := [(bx, cl [ptr n] 23)] ++ A') rfl (fun w h => h.split) ⟨A', .inr ⟨_, hZ⟩, rfl⟩)
  · rw [List.take_of_length_le (by omega)] at hYC
    repeat' (first | refine Cd.seq ?_ | refine Cd.reg ?_ | refine Ops.bin rfl rfl rfl rfl rfl ?_ | refine Cd.condF rfl (by first | rfl | assumption | (simp only [decide_eq_true_eq, decide_eq_false_iff_not, Bool.not_eq_true', Bool.not_eq_false', Bool.not_eq_eq_eq_not, Bool.not_true, Bool.not_false, beq_iff_eq, beq_eq_false_iff_ne, ne_eq, decide_eq_decide, eq_self, true_iff, iff_true, not_true_eq_false, not_false_eq_true]; first | done | omega)) ?_)
    exact Cd.exit (end0 (A' := [(bx, cl [ptr n] 23)] ++ C1) rfl (fun w h => h.split) ⟨C1, .inl ⟨_, rfl, hYC⟩, rfl⟩)
end Go.Proofs.Ytlfhimdmhhpcfaa
