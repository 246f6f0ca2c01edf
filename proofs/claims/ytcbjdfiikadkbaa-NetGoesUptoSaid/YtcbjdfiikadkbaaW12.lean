import Derived.Test.YtcbjdfiikadkbaaW11
import Derived.Test.YtcbjdfiikadkbaaSep19
namespace Go.Proofs.Ytcbjdfiikadkbaa
open Go Go.Sep Go.Proofs
set_option maxRecDepth 10000
set_option maxHeartbeats 1000000
set_option linter.unusedSimpArgs false
set_option linter.unusedVariables false

/-- What All tells: places and datagrams. -/
@[reducible] def encA (p : Nat × Dg) : List Value := [.int .i64 p.1, .agg p.2.row.toArray]
def told (bag : List Dg) : List (Nat × Dg) := bag.mapIdx fun i d => (i, d)
theorem told_len (bag : List Dg) : (told bag).length = bag.length := by simp [told]
theorem told_at {bag : List Dg} {i : Nat} {d : Dg} (h : bag[i]? = some d) : (told bag)[i]? = some (i, d) := by simp [told, h]
theorem told_next {bag : List Dg} {i : Nat} {d : Dg} (h : bag[i]? = some d) : (told bag).take i ++ [(i, d)] = (told bag).take (i + 1) := by
  rw [List.take_add_one, told_at h]; rfl

theorem all_spec (n : Nat) : Con Try.prog 16 #[ptr n] [] fun v A => ∃ b, v = .func (.func 24) #[] #[ptr b] ∧ A = [(b, cl [ptr n] 23)] := by
  refine Con.intro (vs := [_]) Try.func16 rfl Try.ntmps16 rfl (fun B => ?_)
  repeat' (first | refine Cd.seq ?_ | refine Cd.reg ?_ | refine Ops.asg rfl rfl rfl rfl ?_ | refine Ops.box rfl rfl rfl rfl (noPd rfl) (fun b => ?_))
  refine Ops.mkF rfl rfl rfl rfl rfl ?_
  repeat' (first | refine Ops.nil ?_ | refine Ops.asg rfl rfl rfl rfl ?_)
  exact Cd.ret (ret1 rfl (Res.tmp rfl) (fun _ h => h) ⟨_, rfl, rfl⟩)

theorem all_iter (n bx : Nat) (sv : Value) (bag : List Dg) (sent : Int) (G : List Blk) (h : OwnD sv bag G) (hlen : bag.length ≤ 2305843009213) :
    IterC Try.prog 24 [ptr bx] encA (fun pre => ∃ i, i < bag.length ∧ pre = (told bag).take (i + 1)) (fun xs => xs = told bag) [(bx, cl [ptr n] 23)] (NetB n sv sent G) := by
  intro B0 l Y Z hG hY C hC
  obtain ⟨F, hp⟩ := hG C hC
  refine ConB.intro (vs := [.func (.yield l) #[] #[], ptr bx]) Try.func24 rfl Try.ntmps24 rfl (fun B hx => ?_)
  obtain ⟨a, c, rfl⟩ := h.form
  refine Cd.blk (A' := (bx, cl [ptr n] 23) :: (NetB n (.slice a bag.length c) sent G ++ F)) ?_ (fun w hw => hw.perm (hp.cons _))
  repeat' (first | refine Cd.seq ?_ | refine Cd.reg ?_ | refine Ops.nilP rfl rfl rfl rfl ?_ | refine Ops.fa0 rfl rfl rfl rfl ?_ | refine Ops.ld1 rfl rfl rfl rfl rfl ?_)
  refine Ops.call (sclone_spec _ bag G h hlen) rfl (noPd rfl) rfl rfl rfl (fun v A' hR => ?_)
  obtain ⟨G', rfl, hG'⟩ := hR
  obtain ⟨a', c', rfl⟩ := hG'.form
  repeat' (first | refine Ops.nil ?_ | refine Ops.mv rfl rfl rfl rfl ?_ | refine Ops.lenS rfl rfl rfl rfl ?_ | refine Cd.block ?_)
  refine Cd.loopK (fun s : Nat × List Blk => s.1 ≤ bag.length ∧ Y ((told bag).take s.1) s.2) (fun s => [(0, .func (.yield l) #[] #[]), (9, .slice a' bag.length c'), (10, .int .i64 bag.length), (11, .int .i64 s.1)])
    (fun s => (bx, cl [ptr n] 23) :: (G' ++ s.2)) (fun s => bag.length - s.1) (0, C) ⟨Nat.zero_le _, hC⟩ ⟨rfl, rfl, rfl, rfl, trivial⟩
    (fun w hw => ((hw.split : Sat _ ((bx, cl [ptr n] 23) :: (G' ++ ((n, cl [.slice a bag.length c, .int .i64 sent] 58) :: (G ++ F)))) w).perm (((hp.symm).append_left G').cons _))) (fun s hI => ?_)
  obtain ⟨i, C1⟩ := s
  obtain ⟨hi, hYC⟩ := hI
  dsimp only at hi hYC ⊢
  clear hp hC hG
  by_cases hil : i < bag.length
  · obtain ⟨g, c2, spare, he, rfl, hsp, hle⟩ := hG'.some_ (by omega)
    injection he with he1 he2 he3
    subst he1; subst he3
    obtain ⟨x, hxi⟩ : ∃ x, bag[i]? = some x := ⟨_, List.getElem?_eq_getElem hil⟩
    have hr : (bag.map Dg.row)[(i : Int).toNat]? = some x.row := map_at hxi
    have hk := rows_ok bag
    repeat' (first | refine Cd.seq ?_ | refine Cd.reg ?_ | refine Ops.mv rfl rfl rfl rfl ?_ | refine Ops.asg rfl rfl rfl rfl ?_ | refine Ops.ldN rfl rfl rfl rfl ?_ | refine Ops.bin rfl rfl rfl rfl rfl ?_ | refine Ops.alloc rfl rfl rfl (noPd rfl) (fun b => ?_) | refine Ops.stN rfl rfl rfl rfl rfl rfl (noPd rfl) ?_ | refine Cd.block ?_ | refine Cd.skip (Cd.next ?_) | refine Ops.ixa0 rfl rfl rfl rfl (by omega) (by omega) rfl ?_ | refine Ops.ldRow rfl rfl rfl (by assumption) (by assumption) rfl ?_ | refine Cd.condT rfl (by first | rfl | assumption | (simp only [decide_eq_true_eq, decide_eq_false_iff_not, Bool.not_eq_true', Bool.not_eq_false', Bool.not_eq_eq_eq_not, Bool.not_true, Bool.not_false, beq_iff_eq, beq_eq_false_iff_ne, ne_eq, decide_eq_decide, eq_self, true_iff, iff_true, not_true_eq_false, not_false_eq_true]; first | done | omega)) ?_)
    refine Ops.callY (hY _ (i, x) ⟨i, hil, told_next hxi⟩ C1 hYC) hx rfl (noPd rfl) rfl rfl rfl rfl (fun v A' hR => ?_)
    rcases hR with ⟨rfl, hY'⟩ | ⟨rfl, hZ⟩
    · repeat' (first | refine Cd.reg ?_ | refine Ops.nil ?_ | refine Ops.mv rfl rfl rfl rfl ?_ | refine Ops.addI rfl rfl rfl rfl (by omega) (by omega) rfl ?_ | refine Ops.un rfl rfl rfl rfl ?_ | refine Cd.condF rfl rfl ?_ | refine Cd.skip (Cd.next (Q' := fun _ _ _ => True) ?_))
      rw [told_next hxi] at hY'
      exact Ops.nilN (round_end (i + 1, A') ⟨by show i + 1 ≤ bag.length; omega, hY'⟩ (by show bag.length - (i + 1) < bag.length - i; omega) ⟨rfl, rfl, rfl, rfl, trivial⟩
        (fun w h => (h.split : Sat _ ((bx, cl [ptr n] 23) :: ([(g, cl ((bag.map Dg.row).flatten ++ spare) 33)] ++ A')) w)))
    · repeat' (first | refine Ops.nil ?_ | refine Ops.un rfl rfl rfl rfl ?_ | refine Cd.condT rfl rfl ?_)
      exact Cd.ret (ret0 (A' := [(bx, cl [ptr n] 23)] ++ A') rfl (fun w h => h.split) ⟨A', .inr ⟨_, hZ⟩, rfl⟩)
  · rw [List.take_of_length_le (by rw [told_len]; omega)] at hYC
    repeat' (first | refine Cd.seq ?_ | refine Cd.reg ?_ | refine Ops.bin rfl rfl rfl rfl rfl ?_ | refine Cd.condF rfl (by first | rfl | assumption | (simp only [decide_eq_true_eq, decide_eq_false_iff_not, Bool.not_eq_true', Bool.not_eq_false', Bool.not_eq_eq_eq_not, Bool.not_true, Bool.not_false, beq_iff_eq, beq_eq_false_iff_ne, ne_eq, decide_eq_decide, eq_self, true_iff, iff_true, not_true_eq_false, not_false_eq_true]; first | done | omega)) ?_)
    exact Cd.exit (end0 (A' := [(bx, cl [ptr n] 23)] ++ C1) rfl (fun w h => h.split) ⟨C1, .inl ⟨_, rfl, hYC⟩, rfl⟩)
end Go.Proofs.Ytcbjdfiikadkbaa
