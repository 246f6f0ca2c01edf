import Derived.Test.YtlfhimdmhhpcfaaQ1
import Derived.Test.YtlfhimdmhhpcfaaSep24
namespace Go.Proofs.Ytlfhimdmhhpcfaa
open Go Go.Sep Go.Proofs
set_option maxRecDepth 10000
set_option maxHeartbeats 2000000
set_option synthInstance.maxSize 2000
set_option linter.unusedSimpArgs false
set_option linter.unusedVariables false

theorem lrows_ok (l : List LE) : RowsOk 5 (l.map LE.row) := rows_map (f := LE.row) (fun _ => ⟨rfl, rfl⟩) l
theorem told_inv {l pre : List LE} {x : LE} (h : Told l (pre ++ [x])) : ∃ i, pre = l.take i ∧ l[i]? = some x ∧ pre.length = i := by
  obtain ⟨i, hi, h⟩ := h
  obtain ⟨d, hd⟩ : ∃ d, l[i]? = some d := ⟨_, List.getElem?_eq_getElem hi⟩
  rw [← take_next hd] at h
  obtain ⟨h1, h2⟩ := List.append_inj' h rfl
  injection h2 with h2
  subst h2
  exact ⟨i, h1, hd, by rw [h1, List.length_take]; omega⟩
theorem told_split {l pre : List LE} {x : LE} (h : Told l (pre ++ [x])) : l = pre ++ x :: l.drop (pre.length + 1) ∧ l.drop pre.length = x :: l.drop (pre.length + 1) := by
  obtain ⟨i, h1, h2, h3⟩ := told_inv h
  obtain ⟨a, b⟩ := List.getElem?_eq_some_iff.1 h2
  have e : l.drop pre.length = x :: l.drop (pre.length + 1) := by
    rw [h3, List.drop_eq_getElem_cons a, b]
  refine ⟨?_, e⟩
  rw [← e, h3]
  conv => lhs; rw [← List.take_append_drop i l, ← h1]

/-! one more -/
def Clash (job badge : Int) (x : LE) : Prop := x.job = job ∨ x.badge = badge
@[reducible] def GB (b8 b7 b6 b5 n m : Nat) (ticks job badge node life e : Int) (es : List ME) (ck : Nat) : List Blk :=
  (b8, cl [.int .i64 e] 24) :: (b7, cl [.int .i64 node, .int .i64 life] 31) :: (b6, cl [.int .i64 badge] 3) :: (b5, cl [.int .i64 job] 3) :: TB n m ticks es ck
theorem grant_bad (n m : Nat) (ticks : Int) (es : List ME) (ck : Nat) (job badge node life : Int) (h : job < 1 ∨ 8 < job ∨ badge < 1 ∨ 1099511627776 < badge) : Con Try.prog 11 #[ptr n, .int .i64 job, .int .i64 badge, .agg [.int .i64 node, .int .i64 life].toArray] (TB n m ticks es ck) fun v A => v = .int .i64 1 ∧ A = TB n m ticks es ck := by
  refine Con.intro (vs := [_, _, _, _]) Try.func11 rfl Try.ntmps11 rfl (fun B => ?_)
  by_cases h1 : job < 1
  · repeat' (first | refine Cd.seq ?_ | refine Cd.reg ?_ | refine Ops.nil ?_ | refine Ops.mv rfl rfl rfl rfl ?_ | refine Ops.ld1 rfl rfl rfl rfl rfl ?_ | refine Ops.bin rfl rfl rfl rfl rfl ?_ | refine Ops.pickT rfl rfl rfl rfl rfl ?_ | refine Ops.box rfl rfl rfl rfl (noPd rfl) (fun b => ?_) | refine Ops.alloc rfl rfl rfl (noPd rfl) (fun b => ?_) | refine Ops.st1 rfl rfl rfl rfl rfl (noPd rfl) ?_ | refine Ops.gSkip rfl rfl rfl ?_ | refine Cd.condT rfl rfl ?_ | ((fail_if_success refine Ops.probe rfl ?_); refine Ops.gT rfl rfl (by first | rfl | assumption | (simp only [decide_eq_true_eq, decide_eq_false_iff_not, Bool.not_eq_true', Bool.not_eq_false', Bool.not_eq_eq_eq_not, Bool.not_true, Bool.not_false, beq_iff_eq, beq_eq_false_iff_ne, ne_eq, decide_eq_decide, eq_self, true_iff, iff_true, not_true_eq_false, not_false_eq_true]; first | done | omega)) ?_))
    exact Cd.ret (ret1 (A' := TB n m ticks es ck) rfl (Res.cell1 rfl rfl) (fun _ h => h.split) ⟨rfl, rfl⟩)
  · by_cases h2 : 8 < job
    · repeat' (first | refine Cd.seq ?_ | refine Cd.reg ?_ | refine Ops.nil ?_ | refine Ops.mv rfl rfl rfl rfl ?_ | refine Ops.ld1 rfl rfl rfl rfl rfl ?_ | refine Ops.bin rfl rfl rfl rfl rfl ?_ | refine Ops.pickT rfl rfl rfl rfl rfl ?_ | refine Ops.pickF rfl rfl rfl rfl rfl ?_ | refine Ops.box rfl rfl rfl rfl (noPd rfl) (fun b => ?_) | refine Ops.alloc rfl rfl rfl (noPd rfl) (fun b => ?_) | refine Ops.st1 rfl rfl rfl rfl rfl (noPd rfl) ?_ | refine Ops.gSkip rfl rfl rfl ?_ | refine Cd.condT rfl rfl ?_ | ((fail_if_success refine Ops.probe rfl ?_); refine Ops.gT rfl rfl (by first | rfl | assumption | (simp only [decide_eq_true_eq, decide_eq_false_iff_not, Bool.not_eq_true', Bool.not_eq_false', Bool.not_eq_eq_eq_not, Bool.not_true, Bool.not_false, beq_iff_eq, beq_eq_false_iff_ne, ne_eq, decide_eq_decide, eq_self, true_iff, iff_true, not_true_eq_false, not_false_eq_true]; first | done | omega)) ?_) | ((fail_if_success refine Ops.probe rfl ?_); refine Ops.gF rfl rfl (by first | rfl | assumption | (simp only [decide_eq_true_eq, decide_eq_false_iff_not, Bool.not_eq_true', Bool.not_eq_false', Bool.not_eq_eq_eq_not, Bool.not_true, Bool.not_false, beq_iff_eq, beq_eq_false_iff_ne, ne_eq, decide_eq_decide, eq_self, true_iff, iff_true, not_true_eq_false, not_false_eq_true]; first | done | omega)) ?_))
      exact Cd.ret (ret1 (A' := TB n m ticks es ck) rfl (Res.cell1 rfl rfl) (fun _ h => h.split) ⟨rfl, rfl⟩)
    · by_cases h3 : badge < 1
      · repeat' (first | refine Cd.seq ?_ | refine Cd.reg ?_ | refine Ops.nil ?_ | refine Ops.mv rfl rfl rfl rfl ?_ | refine Ops.ld1 rfl rfl rfl rfl rfl ?_ | refine Ops.bin rfl rfl rfl rfl rfl ?_ | refine Ops.pickT rfl rfl rfl rfl rfl ?_ | refine Ops.pickF rfl rfl rfl rfl rfl ?_ | refine Ops.box rfl rfl rfl rfl (noPd rfl) (fun b => ?_) | refine Ops.alloc rfl rfl rfl (noPd rfl) (fun b => ?_) | refine Ops.st1 rfl rfl rfl rfl rfl (noPd rfl) ?_ | refine Ops.gSkip rfl rfl rfl ?_ | refine Cd.condT rfl rfl ?_ | ((fail_if_success refine Ops.probe rfl ?_); refine Ops.gT rfl rfl (by first | rfl | assumption | (simp only [decide_eq_true_eq, decide_eq_false_iff_not, Bool.not_eq_true', Bool.not_eq_false', Bool.not_eq_eq_eq_not, Bool.not_true, Bool.not_false, beq_iff_eq, beq_eq_false_iff_ne, ne_eq, decide_eq_decide, eq_self, true_iff, iff_true, not_true_eq_false, not_false_eq_true]; first | done | omega)) ?_) | ((fail_if_success refine Ops.probe rfl ?_); refine Ops.gF rfl rfl (by first | rfl | assumption | (simp only [decide_eq_true_eq, decide_eq_false_iff_not, Bool.not_eq_true', Bool.not_eq_false', Bool.not_eq_eq_eq_not, Bool.not_true, Bool.not_false, beq_iff_eq, beq_eq_false_iff_ne, ne_eq, decide_eq_decide, eq_self, true_iff, iff_true, not_true_eq_false, not_false_eq_true]; first | done | omega)) ?_))
        exact Cd.ret (ret1 (A' := TB n m ticks es ck) rfl (Res.cell1 rfl rfl) (fun _ h => h.split) ⟨rfl, rfl⟩)
      · have h4 : 1099511627776 < badge := by omega
        repeat' (first | refine Cd.seq ?_ | refine Cd.reg ?_ | refine Ops.nil ?_ | refine Ops.mv rfl rfl rfl rfl ?_ | refine Ops.ld1 rfl rfl rfl rfl rfl ?_ | refine Ops.bin rfl rfl rfl rfl rfl ?_ | refine Ops.pickF rfl rfl rfl rfl rfl ?_ | refine Ops.box rfl rfl rfl rfl (noPd rfl) (fun b => ?_) | refine Ops.alloc rfl rfl rfl (noPd rfl) (fun b => ?_) | refine Ops.st1 rfl rfl rfl rfl rfl (noPd rfl) ?_ | refine Cd.condT rfl (by first | rfl | assumption | (simp only [decide_eq_true_eq, decide_eq_false_iff_not, Bool.not_eq_true', Bool.not_eq_false', Bool.not_eq_eq_eq_not, Bool.not_true, Bool.not_false, beq_iff_eq, beq_eq_false_iff_ne, ne_eq, decide_eq_decide, eq_self, true_iff, iff_true, not_true_eq_false, not_false_eq_true]; first | done | omega)) ?_ | ((fail_if_success refine Ops.probe rfl ?_); refine Ops.gF rfl rfl (by first | rfl | assumption | (simp only [decide_eq_true_eq, decide_eq_false_iff_not, Bool.not_eq_true', Bool.not_eq_false', Bool.not_eq_eq_eq_not, Bool.not_true, Bool.not_false, beq_iff_eq, beq_eq_false_iff_ne, ne_eq, decide_eq_decide, eq_self, true_iff, iff_true, not_true_eq_false, not_false_eq_true]; first | done | omega)) ?_))
        exact Cd.ret (ret1 (A' := TB n m ticks es ck) rfl (Res.cell1 rfl rfl) (fun _ h => h.split) ⟨rfl, rfl⟩)
theorem grant_ok (n m : Nat) (ticks : Int) (l : List LE) (es : List ME) (ck : Nat) (job badge node life : Int) (h : TOk ticks l es ck) (h1 : ¬ job < 1) (h2 : ¬ 8 < job) (h3 : ¬ badge < 1) (h4 : ¬ 1099511627776 < badge) : Con Try.prog 11 #[ptr n, .int .i64 job, .int .i64 badge, .agg [.int .i64 node, .int .i64 life].toArray] (TB n m ticks es ck)
    fun v A => (v = .int .i64 121 ∧ A = TB n m ticks es ck ∧ ∃ x ∈ l, Clash job badge x) ∨ (v = .int .i64 0 ∧ (∀ x ∈ l, ¬ Clash job badge x) ∧ A = TB n m ticks (mput es ck badge (LE.mk job badge node life ticks).val) (mck es ck badge)) := by
  refine Con.intro (vs := [_, _, _, _]) Try.func11 rfl Try.ntmps11 rfl (fun B => ?_)
  refine Cd.seq ?_
  refine Cd.reg ?_
  refine Ops.box rfl rfl rfl rfl (noPd rfl) (fun b5 => ?_)
  refine Ops.box rfl rfl rfl rfl (noPd rfl) (fun b6 => ?_)
  refine Ops.box rfl rfl rfl rfl (noPd rfl) (fun b7 => ?_)
  refine Ops.alloc rfl rfl rfl (noPd rfl) (fun b8 => ?_)
  repeat' (first | refine Cd.seq ?_ | refine Cd.reg ?_ | refine Ops.nil ?_ | refine Ops.mv rfl rfl rfl rfl ?_ | refine Ops.ld1 rfl rfl rfl rfl rfl ?_ | refine Ops.bin rfl rfl rfl rfl rfl ?_ | refine Ops.pickF rfl rfl rfl rfl rfl ?_ | refine Cd.skip (Cd.next ?_) | refine Cd.condF rfl (by first | rfl | assumption | (simp only [decide_eq_true_eq, decide_eq_false_iff_not, Bool.not_eq_true', Bool.not_eq_false', Bool.not_eq_eq_eq_not, Bool.not_true, Bool.not_false, beq_iff_eq, beq_eq_false_iff_ne, ne_eq, decide_eq_decide, eq_self, true_iff, iff_true, not_true_eq_false, not_false_eq_true]; first | done | omega)) ?_ | ((fail_if_success refine Ops.probe rfl ?_); refine Ops.gF rfl rfl (by first | rfl | assumption | (simp only [decide_eq_true_eq, decide_eq_false_iff_not, Bool.not_eq_true', Bool.not_eq_false', Bool.not_eq_eq_eq_not, Bool.not_true, Bool.not_false, beq_iff_eq, beq_eq_false_iff_ne, ne_eq, decide_eq_decide, eq_self, true_iff, iff_true, not_true_eq_false, not_false_eq_true]; first | done | omega)) ?_))
  refine Ops.call (all_spec n) rfl (noPd rfl) rfl rfl rfl (fun v A' hR => ?_)
  obtain ⟨bA, rfl, rfl⟩ := hR
  repeat' (first | refine Ops.nil ?_ | refine Cd.block ?_)
  refine Cd.range (X := LE) (C0 := GB b8 b7 b6 b5 n m ticks job badge node life 0 es ck) (all_iter n bA m ticks l es ck h) rfl rfl (ps := [26]) rfl (fun _ => rfl)
    (fun pre C => (∀ x ∈ pre, ¬ Clash job badge x) ∧ C = GB b8 b7 b6 b5 n m ticks job badge node life 0 es ck)
    (fun c _ C => c = Code.ret ∧ (∃ x ∈ l, Clash job badge x) ∧ C = GB b8 b7 b6 b5 n m ticks job badge node life 121 es ck)
    (fun pre x T C => (∀ x ∈ pre, ¬ Clash job badge x) ∧ Told l (pre ++ [x]) ∧ ∃ b9, T = [(0, ptr n), (5, ptr b5), (6, ptr b6), (7, ptr b7), (8, ptr b8), (9, ptr b9)] ∧ C = (b9, cl x.row 40) :: GB b8 b7 b6 b5 n m ticks job badge node life 0 es ck)
    (fun w hw => (hw.split : Sat _ ((bA, cl [ptr n] 23) :: GB b8 b7 b6 b5 n m ticks job badge node life 0 es ck) w))
    ⟨(fun x hx => by cases hx), rfl⟩
    (fun C hC => ⟨(b8, cl [.int .i64 0] 24) :: (b7, cl [.int .i64 node, .int .i64 life] 31) :: (b6, cl [.int .i64 badge] 3) :: [(b5, cl [.int .i64 job] 3)], by
      obtain ⟨_, rfl⟩ := hC
      exact (Split.perm (A := GB b8 b7 b6 b5 n m ticks job badge node life 0 es ck) (A1 := TB n m ticks es ck))⟩)
    ?_ ?_ ?_ ?_
  · rintro B2 pre x C hx hok ⟨hno, rfl⟩
    repeat' (first | refine Cd.reg ?_ | refine Ops.alloc rfl rfl rfl (noPd rfl) (fun b => ?_) | refine Ops.stN rfl rfl rfl rfl rfl rfl (noPd rfl) ?_)
    exact Ops.nilN (asg_end ⟨hno, hok, _, rfl, rfl⟩ (fun a hF => hF.keeps ⟨rfl, rfl, rfl, rfl, rfl, rfl, trivial⟩) (fun w h => h))
  · rintro lp r B2 pre x T C hro hlp hx hok ⟨hno, htold, b9, rfl, rfl⟩
    have hmem : x ∈ l := by
      obtain ⟨i, _, hi, _⟩ := told_inv htold
      exact List.mem_of_getElem? hi
    by_cases hc : Clash job badge x
    · by_cases hj : x.job = job
      · repeat' (first | refine Cd.seq ?_ | refine Cd.reg ?_ | refine Ops.nil ?_ | refine Ops.mv rfl rfl rfl rfl ?_ | refine Ops.fa0 rfl rfl rfl rfl ?_ | refine Ops.ld1 rfl rfl rfl rfl rfl ?_ | refine Ops.bin rfl rfl rfl rfl rfl ?_ | refine Ops.pickT rfl rfl rfl rfl rfl ?_ | refine Ops.st1 rfl rfl rfl rfl rfl (noPd rfl) ?_ | refine Ops.gSkip rfl rfl rfl ?_ | refine Cd.condT rfl rfl ?_ | refine Cd.block ?_ | ((fail_if_success refine Ops.probe rfl ?_); refine Ops.gT rfl rfl (by first | rfl | assumption | (simp only [decide_eq_true_eq, decide_eq_false_iff_not, Bool.not_eq_true', Bool.not_eq_false', Bool.not_eq_eq_eq_not, Bool.not_true, Bool.not_false, beq_iff_eq, beq_eq_false_iff_ne, ne_eq, decide_eq_decide, eq_self, true_iff, iff_true, not_true_eq_false, not_false_eq_true]; first | done | omega)) ?_))
        exact Cd.ret (inBr (rnd_ret ⟨rfl, ⟨x, hmem, hc⟩, rfl⟩ (fun w h => h.split)))
      · have hb : x.badge = badge := hc.resolve_left hj
        repeat' (first | refine Cd.seq ?_ | refine Cd.reg ?_ | refine Ops.nil ?_ | refine Ops.mv rfl rfl rfl rfl ?_ | refine Ops.fa0 rfl rfl rfl rfl ?_ | refine Ops.ld1 rfl rfl rfl rfl rfl ?_ | refine Ops.bin rfl rfl rfl rfl rfl ?_ | refine Ops.pickF rfl rfl rfl rfl rfl ?_ | refine Ops.st1 rfl rfl rfl rfl rfl (noPd rfl) ?_ | refine Cd.block ?_ | refine Cd.condT rfl (by first | rfl | assumption | (simp only [decide_eq_true_eq, decide_eq_false_iff_not, Bool.not_eq_true', Bool.not_eq_false', Bool.not_eq_eq_eq_not, Bool.not_true, Bool.not_false, beq_iff_eq, beq_eq_false_iff_ne, ne_eq, decide_eq_decide, eq_self, true_iff, iff_true, not_true_eq_false, not_false_eq_true]; first | done | omega)) ?_ | ((fail_if_success refine Ops.probe rfl ?_); refine Ops.gF rfl rfl (by first | rfl | assumption | (simp only [decide_eq_true_eq, decide_eq_false_iff_not, Bool.not_eq_true', Bool.not_eq_false', Bool.not_eq_eq_eq_not, Bool.not_true, Bool.not_false, beq_iff_eq, beq_eq_false_iff_ne, ne_eq, decide_eq_decide, eq_self, true_iff, iff_true, not_true_eq_false, not_false_eq_true]; first | done | omega)) ?_))
        exact Cd.ret (inBr (rnd_ret ⟨rfl, ⟨x, hmem, hc⟩, rfl⟩ (fun w h => h.split)))
    · have hj : ¬ x.job = job := fun e => hc (.inl e)
      have hb : ¬ x.badge = badge := fun e => hc (.inr e)
      repeat' (first | refine Cd.seq ?_ | refine Cd.reg ?_ | refine Ops.nil ?_ | refine Ops.mv rfl rfl rfl rfl ?_ | refine Ops.fa0 rfl rfl rfl rfl ?_ | refine Ops.ld1 rfl rfl rfl rfl rfl ?_ | refine Ops.bin rfl rfl rfl rfl rfl ?_ | refine Ops.pickF rfl rfl rfl rfl rfl ?_ | refine Cd.block ?_ | refine Cd.condF rfl (by first | rfl | assumption | (simp only [decide_eq_true_eq, decide_eq_false_iff_not, Bool.not_eq_true', Bool.not_eq_false', Bool.not_eq_eq_eq_not, Bool.not_true, Bool.not_false, beq_iff_eq, beq_eq_false_iff_ne, ne_eq, decide_eq_decide, eq_self, true_iff, iff_true, not_true_eq_false, not_false_eq_true]; first | done | omega)) ?_ | ((fail_if_success refine Ops.probe rfl ?_); refine Ops.gF rfl rfl (by first | rfl | assumption | (simp only [decide_eq_true_eq, decide_eq_false_iff_not, Bool.not_eq_true', Bool.not_eq_false', Bool.not_eq_eq_eq_not, Bool.not_true, Bool.not_false, beq_iff_eq, beq_eq_false_iff_ne, ne_eq, decide_eq_decide, eq_self, true_iff, iff_true, not_true_eq_false, not_false_eq_true]; first | done | omega)) ?_))
      exact Cd.skip (inB (rnd_next ⟨fun y hy => by
        rcases List.mem_append.1 hy with hy | hy
        · exact hno y hy
        · obtain rfl := List.mem_singleton.1 hy
          exact hc, rfl⟩ (fun w h => h.tail)))
  · rintro D xs C hD rfl ⟨hno, rfl⟩
    have hroom := h.lok.room (j := job) (by omega) (by omega) fun x hx e => hno x hx (.inl e)
    have hel := h.is_.len h.m h.lok.asc
    refine Cd.next (Q' := fun _ _ _ => True) ?_
    repeat' (first | refine Ops.lenM rfl rfl rfl rfl ?_ | refine Cd.seq ?_ | refine Cd.reg ?_ | refine Ops.nil ?_ | refine Ops.mv rfl rfl rfl rfl ?_ | refine Ops.nilP rfl rfl rfl rfl ?_ | refine Ops.fa0 rfl rfl rfl rfl ?_ | refine Ops.ld1 rfl rfl rfl rfl rfl ?_ | refine Ops.bin rfl rfl rfl rfl rfl ?_ | refine Cd.skip (Cd.next ?_) | refine Cd.condF rfl (by first | rfl | assumption | (simp only [decide_eq_true_eq, decide_eq_false_iff_not, Bool.not_eq_true', Bool.not_eq_false', Bool.not_eq_eq_eq_not, Bool.not_true, Bool.not_false, beq_iff_eq, beq_eq_false_iff_ne, ne_eq, decide_eq_decide, eq_self, true_iff, iff_true, not_true_eq_false, not_false_eq_true]; first | done | omega)) ?_)
    refine Cd.draw [(0, 0, []), (1, 0, []), (2, 0, []), (3, 1, []), (4, 1, []), (5, 1, []), (6, 1, []), (7, 1, []), (8, 0, []), (9, 0, []), (10, 0, []), (11, 1, []), (12, 0, []), (13, 2, [])] (by kernel_rfl) (by kernel_rfl) (by simp only [picked, nth]; exact rfl) ?_
    repeat' (first | refine Ops.upI rfl rfl rfl rfl rfl (noPd rfl) ?_ | refine Cd.seq ?_ | refine Cd.reg ?_ | refine Ops.nil ?_ | refine Ops.mv rfl rfl rfl rfl ?_ | refine Ops.nilP rfl rfl rfl rfl ?_ | refine Ops.fa0 rfl rfl rfl rfl ?_ | refine Ops.ld1 rfl rfl rfl rfl rfl ?_ | refine Ops.ldN rfl rfl rfl rfl ?_ | refine Ops.bld rfl rfl rfl rfl ?_ | refine Ops.st1 rfl rfl rfl rfl rfl (noPd rfl) ?_)
    exact Cd.ret (unmark (mark1 hD) (ret1 (A' := TB n m ticks (mput es ck badge (LE.mk job badge node life ticks).val) (mck es ck badge)) rfl (Res.cell1 rfl rfl) (fun w h => h.split) (.inr ⟨rfl, hno, rfl⟩)))
  · rintro D c pre C hD ⟨rfl, hcl, rfl⟩
    exact Cd.ret (inBr (unmark (mark1 hD) (ret1 (A' := TB n m ticks es ck) rfl (Res.cell1 rfl rfl) (fun w h => h.split) (.inl ⟨rfl, rfl, hcl⟩))))
theorem grant_spec (n m : Nat) (ticks : Int) (l : List LE) (es : List ME) (ck : Nat) (job badge node life : Int) (h : TOk ticks l es ck) : Con Try.prog 11 #[ptr n, .int .i64 job, .int .i64 badge, .agg [.int .i64 node, .int .i64 life].toArray] (TB n m ticks es ck)
    fun v A => v = .int .i64 (grantF ticks l job badge node life).1 ∧ ∃ es' ck', A = TB n m ticks es' ck' ∧ TOk ticks (grantF ticks l job badge node life).2 es' ck' := by
  have hok := grantF_ok h.lok job badge node life
  unfold grantF at hok ⊢
  split
  · rename_i hb
    exact (grant_bad n m ticks es ck job badge node life hb).mono fun v A ⟨e1, e2⟩ => ⟨e1, es, ck, e2, h⟩
  · rename_i hb
    rw [if_neg hb] at hok
    refine (grant_ok n m ticks l es ck job badge node life h (by omega) (by omega) (by omega) (by omega)).mono fun v A hR => ?_
    rcases hR with ⟨rfl, rfl, hc⟩ | ⟨rfl, hc, rfl⟩
    · have hc' : ∃ x ∈ l, x.job = job ∨ x.badge = badge := hc
      rw [if_pos hc']
      exact ⟨rfl, es, ck, rfl, h⟩
    · have hc' : ¬ ∃ x ∈ l, x.job = job ∨ x.badge = badge := fun ⟨x, hx, e⟩ => hc x hx e
      rw [if_neg hc'] at hok ⊢
      exact ⟨rfl, _, _, rfl, hok, h.m.put _ _, h.is_.ins (x := LE.mk job badge node life ticks) h.m h.lok.asc fun y hy e => hc y hy (.inr e)⟩

/-! a tick -/
theorem clip_spec (sv : Value) (rows : List (List Value)) (G : List Blk) (h : Own 40 5 sv rows G) : Con Try.prog 32 #[sv] [] fun v A => Rs 40 5 v rows G ∧ A = [] := by
  refine Con.intro (vs := [_]) Try.func32 rfl Try.ntmps32 rfl (fun B => ?_)
  rcases h.2 with ⟨rfl, rfl, rfl⟩ | ⟨g, c, sp, rfl, rfl, hsp, hle⟩
  · repeat' (first | refine Cd.seq ?_ | refine Cd.reg ?_ | refine Ops.mv rfl rfl rfl rfl ?_ | refine Ops.asg rfl rfl rfl rfl ?_ | refine Ops.lenS rfl rfl rfl rfl ?_)
    refine Ops.slHM rfl rfl rfl rfl rfl (by omega) (by omega) (by omega) rfl ?_
    repeat' (first | refine Ops.nil ?_ | refine Ops.asg rfl rfl rfl rfl ?_)
    exact Cd.ret (ret1 rfl (Res.tmp rfl) (fun w h => h) ⟨⟨h.1, .inl ⟨rfl, rfl, rfl⟩⟩, rfl⟩)
  · repeat' (first | refine Cd.seq ?_ | refine Cd.reg ?_ | refine Ops.mv rfl rfl rfl rfl ?_ | refine Ops.asg rfl rfl rfl rfl ?_ | refine Ops.lenS rfl rfl rfl rfl ?_)
    refine Ops.slHM rfl rfl rfl rfl rfl (by omega) (by omega) (by omega) rfl ?_
    repeat' (first | refine Ops.nil ?_ | refine Ops.asg rfl rfl rfl rfl ?_)
    exact Cd.ret (ret1 rfl (Res.tmp rfl) (fun w h => h) ⟨⟨h.1, .inr ⟨g, rows.length, sp, by simp, rfl⟩⟩, rfl⟩)
@[reducible] def TkB (b3 b1 n m : Nat) (ticks : Int) (es : List ME) (ck : Nat) (sv : Value) (G : List Blk) : List Blk :=
  (b3, cl [sv] 33) :: (b1, cl [ptr n] 23) :: (TB n m ticks es ck ++ G)
def TkI (ticks : Int) (l pre : List LE) (es : List ME) (ck : Nat) (sv : Value) (G : List Blk) : Prop :=
  MOk es ck ∧ LsIs es (restF pre ++ l.drop pre.length) ∧ Own 40 5 sv ((overF pre).map LE.row) G
theorem tick_spec (n m : Nat) (ticks : Int) (l : List LE) (es : List ME) (ck : Nat) (h : TOk ticks l es ck) : Con Try.prog 15 #[ptr n] (TB n m ticks es ck)
    fun v A => ∃ es' ck' G, Rs 40 5 v ((overF l).map LE.row) G ∧ A = TB n m ticks es' ck' ++ G ∧ TOk ticks (restF l) es' ck' := by
  have hfew := h.lok.few
  refine Con.intro (vs := [_]) Try.func15 rfl Try.ntmps15 rfl (fun B => ?_)
  refine Cd.seq ?_
  refine Cd.reg ?_
  refine Ops.box rfl rfl rfl rfl (noPd rfl) (fun b1 => ?_)
  repeat' (first | refine Cd.seq ?_ | refine Cd.reg ?_ | refine Ops.asg rfl rfl rfl rfl ?_ | refine Ops.ld1 rfl rfl rfl rfl rfl ?_ | refine Ops.alloc rfl rfl rfl (noPd rfl) (fun b => ?_))
  rename Nat => b3
  refine Ops.call (all_spec n) rfl (noPd rfl) rfl rfl rfl (fun v A' hR => ?_)
  obtain ⟨bA, rfl, rfl⟩ := hR
  repeat' (first | refine Ops.nil ?_ | refine Cd.block ?_)
  refine Cd.range (X := LE) (C0 := TkB b3 b1 n m ticks es ck (.slice none 0 0) []) (all_iter n bA m ticks l es ck h) rfl rfl (ps := [7]) rfl (fun _ => rfl)
    (fun pre C => ∃ es' ck' sv G, TkI ticks l pre es' ck' sv G ∧ (pre = [] → C = TkB b3 b1 n m ticks es ck (.slice none 0 0) []) ∧ C = TkB b3 b1 n m ticks es' ck' sv G)
    (fun _ _ _ => False)
    (fun pre x T C => Told l (pre ++ [x]) ∧ ∃ es' ck' sv G b4, TkI ticks l pre es' ck' sv G ∧ T = [(1, ptr b1), (3, ptr b3), (4, ptr b4)] ∧ C = (b4, cl x.row 40) :: TkB b3 b1 n m ticks es' ck' sv G)
    (fun w hw => (hw.split : Sat _ ((bA, cl [ptr n] 23) :: (b3, cl [.slice none 0 0] 33) :: (b1, cl [ptr n] 23) :: TB n m ticks es ck) w))
    ⟨es, ck, .slice none 0 0, [], ⟨h.m, h.is_, Own.none⟩, fun _ => rfl, rfl⟩
    (fun C ⟨_, _, _, _, _, hC, _⟩ => ⟨(b3, cl [.slice none 0 0] 33) :: [(b1, cl [ptr n] 23)], by
      rw [hC rfl]
      exact (Split.perm (A := (b3, cl [.slice none 0 0] 33) :: (b1, cl [ptr n] 23) :: (TB n m ticks es ck ++ [])) (A1 := TB n m ticks es ck))⟩)
    ?_ ?_ ?_ ?_
  · rintro B2 pre x C hx hok ⟨es', ck', sv, G, hI, _, rfl⟩
    repeat' (first | refine Cd.reg ?_ | refine Ops.alloc rfl rfl rfl (noPd rfl) (fun b => ?_) | refine Ops.stN rfl rfl rfl rfl rfl rfl (noPd rfl) ?_)
    exact Ops.nilN (asg_end ⟨hok, es', ck', sv, G, _, hI, rfl, rfl⟩ (fun a hF => hF.keeps ⟨rfl, rfl, rfl, trivial⟩) (fun w h => h))
  · rintro lp r B2 pre x T C hro hlp hx hok ⟨htold, es', ck', sv, G, b4, ⟨hm, hls, hO⟩, rfl, rfl⟩
    obtain ⟨hsp1, hsp2⟩ := told_split htold
    have hmem : x ∈ l := by rw [hsp1]; simp
    have hleft := h.lok.left0 x hmem
    have ht1 := h.lok.t1
    have hasc : Asc (pre ++ x :: l.drop (pre.length + 1)) := hsp1 ▸ h.lok.asc
    rw [hsp2] at hls
    have h9 := tick_set hasc hm hls
    have hm9 := hm.put (ck := ck') x.badge (dec x).val
    have hpl : (overF pre).length ≤ 8 := by
      have h1 := overF_len pre
      have h2 := congrArg List.length hsp1
      simp at h2
      omega
    obtain ⟨sa, sc, rfl⟩ := hO.form
    have hdl : l.drop (pre ++ [x]).length = l.drop (pre.length + 1) := by rw [List.length_append]; rfl
    by_cases hz : x.left - 1 = 0
    · have h8 := tick_del hasc hm9 h9
      have hm8 := hm9.del x.badge
      repeat' (first | refine Cd.seq ?_ | refine Cd.reg ?_ | refine Ops.fa0 rfl rfl rfl rfl ?_ | refine Ops.ld1 rfl rfl rfl rfl rfl ?_ | refine Ops.subI rfl rfl rfl rfl (by omega) (by omega) rfl ?_ | refine Ops.st1 rfl rfl rfl rfl rfl (noPd rfl) ?_ | refine Cd.block ?_)
      refine Cd.draw [(0, 1, []), (1, 0, []), (2, 0, []), (3, 1, []), (4, 0, []), (5, 1, []), (6, 1, []), (7, 2, [])] (by kernel_rfl) (by kernel_rfl) (by simp only [picked, nth]; exact rfl) ?_
      repeat' (first | refine Ops.upI rfl rfl rfl rfl rfl (noPd rfl) ?_ | refine Cd.seq ?_ | refine Cd.reg ?_ | refine Ops.nil ?_ | refine Ops.nilP rfl rfl rfl rfl ?_ | refine Ops.fa0 rfl rfl rfl rfl ?_ | refine Ops.ld1 rfl rfl rfl rfl rfl ?_ | refine Ops.ldN rfl rfl rfl rfl ?_ | refine Ops.bin rfl rfl rfl rfl rfl ?_ | refine Cd.condT rfl (by first | rfl | assumption | (simp only [decide_eq_true_eq, decide_eq_false_iff_not, Bool.not_eq_true', Bool.not_eq_false', Bool.not_eq_eq_eq_not, Bool.not_true, Bool.not_false, beq_iff_eq, beq_eq_false_iff_ne, ne_eq, decide_eq_decide, eq_self, true_iff, iff_true, not_true_eq_false, not_false_eq_true]; first | done | omega)) ?_)
      refine Cd.draw [(0, 1, []), (1, 0, []), (2, 0, []), (3, 1, []), (4, 0, []), (5, 1, []), (6, 2, [])] (by kernel_rfl) (by kernel_rfl) (by simp only [picked, nth]; exact rfl) ?_
      repeat' (first | refine Ops.delI rfl rfl rfl rfl (noPd rfl) ?_ | refine Cd.reg ?_ | refine Ops.nil ?_ | refine Ops.nilP rfl rfl rfl rfl ?_ | refine Ops.fa0 rfl rfl rfl rfl ?_ | refine Ops.ld1 rfl rfl rfl rfl rfl ?_ | refine Ops.ldN rfl rfl rfl rfl ?_ | refine Ops.bs1 rfl rfl rfl rfl rfl rfl rfl (noPd rfl) (fun b => ?_))
      refine Ops.app1 (rows := (overF pre).map LE.row) hO (by rw [List.length_map]; omega) (by rw [List.length_map]; omega) rfl rfl rfl rfl (by rfl) (by rfl) rfl (noPd rfl) rfl (fun v G' hG' => ?_)
      obtain ⟨a', c', rfl⟩ := hG'.form
      repeat' (first | refine Ops.st1 rfl rfl rfl rfl rfl (noPd rfl) ?_)
      exact Ops.nilN (inB (rnd_next ⟨mdel (mput es' ck' x.badge (dec x).val) x.badge, mck es' ck' x.badge, _, G', ⟨hm8, by rw [hdl, restF_app, restF_one0 hz, List.append_nil]; exact h8, by
        rw [overF_app, overF_one0 hz, List.map_append]; exact hG'⟩, fun e => by simp at e, rfl⟩ (fun w h => h.split)))
    · repeat' (first | refine Cd.seq ?_ | refine Cd.reg ?_ | refine Ops.fa0 rfl rfl rfl rfl ?_ | refine Ops.ld1 rfl rfl rfl rfl rfl ?_ | refine Ops.subI rfl rfl rfl rfl (by omega) (by omega) rfl ?_ | refine Ops.st1 rfl rfl rfl rfl rfl (noPd rfl) ?_ | refine Cd.block ?_)
      refine Cd.draw [(0, 1, []), (1, 0, []), (2, 0, []), (3, 1, []), (4, 0, []), (5, 1, []), (6, 1, []), (7, 2, [])] (by kernel_rfl) (by kernel_rfl) (by simp only [picked, nth]; exact rfl) ?_
      repeat' (first | refine Ops.upI rfl rfl rfl rfl rfl (noPd rfl) ?_ | refine Cd.seq ?_ | refine Cd.reg ?_ | refine Ops.nil ?_ | refine Ops.nilP rfl rfl rfl rfl ?_ | refine Ops.fa0 rfl rfl rfl rfl ?_ | refine Ops.ld1 rfl rfl rfl rfl rfl ?_ | refine Ops.ldN rfl rfl rfl rfl ?_ | refine Ops.bin rfl rfl rfl rfl rfl ?_ | refine Cd.condF rfl (by first | rfl | assumption | (simp only [decide_eq_true_eq, decide_eq_false_iff_not, Bool.not_eq_true', Bool.not_eq_false', Bool.not_eq_eq_eq_not, Bool.not_true, Bool.not_false, beq_iff_eq, beq_eq_false_iff_ne, ne_eq, decide_eq_decide, eq_self, true_iff, iff_true, not_true_eq_false, not_false_eq_true]; first | done | omega)) ?_)
      exact Cd.skip (inB (rnd_next ⟨mput es' ck' x.badge (dec x).val, mck es' ck' x.badge, _, G, ⟨hm9, by rw [hdl, restF_app, restF_one1 hz, List.append_assoc]; exact h9, by
        rw [overF_app, overF_one1 hz, List.append_nil]; exact hO⟩, fun e => by simp at e, rfl⟩ (fun w h => h.tail)))
  · rintro D xs C hD rfl ⟨es', ck', sv, G, ⟨hm, hls, hO⟩, _, rfl⟩
    rw [List.drop_length, List.append_nil] at hls
    obtain ⟨sa, sc, rfl⟩ := hO.form
    refine Cd.next (Q' := fun _ _ _ => True) ?_
    repeat' (first | refine Cd.seq ?_ | refine Cd.reg ?_ | refine Ops.ld1 rfl rfl rfl rfl rfl ?_)
    refine Ops.call (clip_spec _ _ G hO) rfl (noPd rfl) rfl rfl rfl (fun v A' hR => ?_)
    obtain ⟨hRs, rfl⟩ := hR
    obtain ⟨va, vc, rfl⟩ := hRs.form
    repeat' (first | refine Ops.nil ?_ | refine Ops.asg rfl rfl rfl rfl ?_)
    exact Cd.ret (unmark (mark1 hD) (ret1 (A' := TB n m ticks es' ck' ++ G) rfl (Res.tmp rfl) (fun w h => h.split) ⟨es', ck', G, hRs, rfl, restF_ok h.lok, hm, hls⟩))
  · rintro D c pre C hD hZ
    exact hZ.elim
end Go.Proofs.Ytlfhimdmhhpcfaa
