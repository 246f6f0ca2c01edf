import Derived.Test.YtcbjdfiikadkbaaW12
import Derived.Test.YtcbjdfiikadkbaaSep20
namespace Go.Proofs.Ytcbjdfiikadkbaa
open Go Go.Sep Go.Proofs
set_option maxRecDepth 10000
set_option maxHeartbeats 1000000
set_option linter.unusedSimpArgs false
set_option linter.unusedVariables false

/-- All, where the loop itself keeps what it captured. -/
theorem all_iter0 (n bx : Nat) (sv : Value) (bag : List Dg) (sent : Int) (G : List Blk) (h : OwnD sv bag G) (hlen : bag.length ≤ 2305843009213) :
    IterC Try.prog 24 [ptr bx] encA (fun pre => ∃ i, i < bag.length ∧ pre = (told bag).take (i + 1)) (fun xs => xs = told bag) [] ((bx, cl [ptr n] 23) :: NetB n sv sent G) := by
  intro B0 l Y Z hG hY C hC
  obtain ⟨F, hp⟩ := hG C hC
  refine ConB.intro (vs := [.func (.yield l) #[] #[], ptr bx]) Try.func24 rfl Try.ntmps24 rfl (fun B hx => ?_)
  obtain ⟨a, c, rfl⟩ := h.form
  refine Cd.blk (A' := (bx, cl [ptr n] 23) :: (NetB n (.slice a bag.length c) sent G ++ F)) ?_ (fun w hw => hw.perm hp)
  repeat' (first | refine Cd.seq ?_ | refine Cd.reg ?_ | refine Ops.nilP rfl rfl rfl rfl ?_ | refine Ops.fa0 rfl rfl rfl rfl ?_ | refine Ops.ld1 rfl rfl rfl rfl rfl ?_)
  refine Ops.call (sclone_spec _ bag G h hlen) rfl (noPd rfl) rfl rfl rfl (fun v A' hR => ?_)
  obtain ⟨G', rfl, hG'⟩ := hR
  obtain ⟨a', c', rfl⟩ := hG'.form
  repeat' (first | refine Ops.nil ?_ | refine Ops.mv rfl rfl rfl rfl ?_ | refine Ops.lenS rfl rfl rfl rfl ?_ | refine Cd.block ?_)
  refine Cd.loopK (fun s : Nat × List Blk => s.1 ≤ bag.length ∧ Y ((told bag).take s.1) s.2) (fun s => [(0, .func (.yield l) #[] #[]), (9, .slice a' bag.length c'), (10, .int .i64 bag.length), (11, .int .i64 s.1)])
    (fun s => G' ++ s.2) (fun s => bag.length - s.1) (0, C) ⟨Nat.zero_le _, hC⟩ ⟨rfl, rfl, rfl, rfl, trivial⟩
    (fun w hw => (hw.split : Sat _ (G' ++ ((bx, cl [ptr n] 23) :: ((n, cl [.slice a bag.length c, .int .i64 sent] 58) :: (G ++ F)))) w).perm ((hp.symm).append_left G')) (fun s hI => ?_)
  obtain ⟨i, C1⟩ := s
  obtain ⟨hi, hYC⟩ := hI
  dsimp only at hi hYC ⊢
  clear hp hC hG
  by_cases hil : i < bag.length
  · obtain ⟨g, c2, spare, he, rfl, hsp, hle⟩ := hG'.some_ (by omega)
    injection he with he1 he2 he3
    subst he1; subst he3
    obtain ⟨x, hxi⟩ : ∃ x, bag[i]? = some x := ⟨_, List.getElem?_eq_getElem hil⟩
    have hr : (bag.map Dg.row)[(i : Int).toNat]? = some x.row := map_at hxi
    have hk := rows_ok bag
    repeat' (first | refine Cd.seq ?_ | refine Cd.reg ?_ | refine Ops.mv rfl rfl rfl rfl ?_ | refine Ops.asg rfl rfl rfl rfl ?_ | refine Ops.ldN rfl rfl rfl rfl ?_ | refine Ops.bin rfl rfl rfl rfl rfl ?_ | refine Ops.alloc rfl rfl rfl (noPd rfl) (fun b => ?_) | refine Ops.stN rfl rfl rfl rfl rfl rfl (noPd rfl) ?_ | refine Cd.block ?_ | refine Cd.skip (Cd.next ?_) | refine Ops.ixa0 rfl rfl rfl rfl (by omega) (by omega) rfl ?_ | refine Ops.ldRow rfl rfl rfl (by assumption) (by assumption) rfl ?_ | refine Cd.condT rfl (by first | rfl | assumption | (simp only [decide_eq_true_eq, decide_eq_false_iff_not, Bool.not_eq_true', Bool.not_eq_false', Bool.not_eq_eq_eq_not, Bool.not_true, Bool.not_false, beq_iff_eq, beq_eq_false_iff_ne, ne_eq, decide_eq_decide, eq_self, true_iff, iff_true, not_true_eq_false, not_false_eq_true]; first | done | omega)) ?_)
    refine Ops.callY (hY _ (i, x) ⟨i, hil, told_next hxi⟩ C1 hYC) hx rfl (noPd rfl) rfl rfl rfl rfl (fun v A' hR => ?_)
    rcases hR with ⟨rfl, hY'⟩ | ⟨rfl, hZ⟩
    · repeat' (first | refine Cd.reg ?_ | refine Ops.nil ?_ | refine Ops.mv rfl rfl rfl rfl ?_ | refine Ops.addI rfl rfl rfl rfl (by omega) (by omega) rfl ?_ | refine Ops.un rfl rfl rfl rfl ?_ | refine Cd.condF rfl rfl ?_ | refine Cd.skip (Cd.next (Q' := fun _ _ _ => True) ?_))
      rw [told_next hxi] at hY'
      exact Ops.nilN (round_end (i + 1, A') ⟨by show i + 1 ≤ bag.length; omega, hY'⟩ (by show bag.length - (i + 1) < bag.length - i; omega) ⟨rfl, rfl, rfl, rfl, trivial⟩
        (fun w h => (h.split : Sat _ ([(g, cl ((bag.map Dg.row).flatten ++ spare) 33)] ++ A') w)))
    · repeat' (first | refine Ops.nil ?_ | refine Ops.un rfl rfl rfl rfl ?_ | refine Cd.condT rfl rfl ?_)
      exact Cd.ret (ret0 (A' := [] ++ A') rfl (fun w h => (h.split : Sat _ A' w)) ⟨A', .inr ⟨_, hZ⟩, rfl⟩)
  · rw [List.take_of_length_le (by rw [told_len]; omega)] at hYC
    repeat' (first | refine Cd.seq ?_ | refine Cd.reg ?_ | refine Ops.bin rfl rfl rfl rfl rfl ?_ | refine Cd.condF rfl (by first | rfl | assumption | (simp only [decide_eq_true_eq, decide_eq_false_iff_not, Bool.not_eq_true', Bool.not_eq_false', Bool.not_eq_eq_eq_not, Bool.not_true, Bool.not_false, beq_iff_eq, beq_eq_false_iff_ne, ne_eq, decide_eq_decide, eq_self, true_iff, iff_true, not_true_eq_false, not_false_eq_true]; first | done | omega)) ?_)
    exact Cd.exit (end0 (A' := [] ++ C1) rfl (fun w h => (h.split : Sat _ C1 w)) ⟨C1, .inl ⟨_, rfl, hYC⟩, rfl⟩)
theorem inBx {N : Fi} {B : Base} {T : Tm} {A : List Blk} {Q : Exit → Act → World → Prop} {id id' : Nat} (hne : id' ≠ id) (h : ∀ a w, Fr N T a → Sat B A w → Q (.exit id') a w) : ∀ a w, Fr N T a → Sat B A w → Exit.inBlock id Q (.exit id') a w := fun a w hF hS => by
  simp only [Exit.inBlock, if_neg hne]; exact h a w hF hS
theorem inBs {N : Fi} {B : Base} {T : Tm} {A : List Blk} {Q : Exit → Act → World → Prop} {id : Nat} (h : ∀ a w, Fr N T a → Sat B A w → Q .normal a w) : ∀ a w, Fr N T a → Sat B A w → Exit.inBlock id Q (.exit id) a w := fun a w hF hS => by
  simp only [Exit.inBlock, if_true]; exact h a w hF hS
theorem told_inv {bag : List Dg} {pre : List (Nat × Dg)} {x : Nat × Dg} (h : ∃ i, i < bag.length ∧ pre ++ [x] = (told bag).take (i + 1)) : pre = (told bag).take pre.length ∧ pre.length < bag.length ∧ ∃ d, bag[pre.length]? = some d ∧ x = (pre.length, d) := by
  obtain ⟨i, hi, h⟩ := h
  obtain ⟨d, hd⟩ : ∃ d, bag[i]? = some d := ⟨_, List.getElem?_eq_getElem hi⟩
  rw [← told_next hd] at h
  obtain ⟨h1, h2⟩ := List.append_inj' h rfl
  injection h2 with h2
  have hl : pre.length = i := by rw [h1, List.length_take, told_len]; omega
  rw [hl]
  exact ⟨h1, hi, d, hd, h2⟩
end Go.Proofs.Ytcbjdfiikadkbaa
