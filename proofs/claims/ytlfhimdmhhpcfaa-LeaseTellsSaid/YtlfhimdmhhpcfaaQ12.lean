import Derived.Test.YtlfhimdmhhpcfaaQ3
namespace Go.Proofs.Ytlfhimdmhhpcfaa
open Go Go.Sep Go.Proofs
set_option maxRecDepth 10000
set_option maxHeartbeats 4000000
set_option synthInstance.maxSize 2000
set_option linter.unusedSimpArgs false
set_option linter.unusedVariables false

theorem lins_app_lt {x : LE} {b : List LE} : ∀ {a : List LE}, (∀ y ∈ a, y.badge < x.badge) → lins x (a ++ b) = a ++ lins x b
  | [], _ => rfl
  | z :: a, h => by
    show (if z.badge < x.badge then z :: lins x (a ++ b) else _) = _
    rw [if_pos (h z (List.mem_cons_self ..)), lins_app_lt fun y hy => h y (List.mem_cons_of_mem _ hy)]
    rfl
theorem lins_app_ge {x : LE} {b : List LE} : ∀ {a : List LE}, ¬ (∀ y ∈ a, y.badge < x.badge) → lins x (a ++ b) = lins x a ++ b
  | [], h => absurd (fun y hy => by cases hy) h
  | z :: a, h => by
    show (if z.badge < x.badge then z :: lins x (a ++ b) else _) = (if z.badge < x.badge then z :: lins x a else _) ++ b
    by_cases hz : z.badge < x.badge
    · rw [if_pos hz, if_pos hz, lins_app_ge (a := a) fun h2 => h fun y hy => by
        rcases List.mem_cons.1 hy with rfl | hy
        · exact hz
        · exact h2 y hy]
      rfl
    · rw [if_neg hz, if_neg hz]; rfl

/-- A slice has room for its length. -/
def CapOk : Value → Prop
  | .slice _ n c => n ≤ c
  | _ => False
theorem cap_own {E sz : Nat} {sv : Value} {rows : List (List Value)} {G : List Blk} (h : Own E sz sv rows G) : CapOk sv := by
  rcases h.2 with ⟨rfl, _, _⟩ | ⟨g, c, sp, rfl, _, _, hle⟩
  · exact Nat.le_refl 0
  · exact hle
def RsL (sv : Value) (l : List LE) (G : List Blk) : Prop := Rs 40 5 sv (l.map LE.row) G ∧ CapOk sv
/-- The document's table. -/
@[reducible] def RT (m : Nat) (ticks : Int) (rv : Value) : List Blk := [(m, cl [.int .i64 ticks, rv] 35)]
/-- What a call leaves: the old list, or another. -/
def Left (rv rv' : Value) (l l' : List LE) (G' : List Blk) : Prop := (rv' = rv ∧ l' = l) ∨ RsL rv' l' G'
theorem RsL.form {sv : Value} {l : List LE} {G : List Blk} (h : RsL sv l G) : ∃ a c, sv = .slice a l.length c := by
  obtain ⟨a, c, e⟩ := Rs.form h.1
  rw [List.length_map] at e
  exact ⟨a, c, e⟩
theorem RsL.some_ {sv : Value} {l : List LE} {G : List Blk} (h : RsL sv l G) (hn : 0 < l.length) : ∃ g c spare, sv = .slice (some ⟨g, 0, .none⟩) l.length c ∧ G = [(g, cl ((l.map LE.row).flatten ++ spare) 40)] := by
  obtain ⟨g, c, sp, e1, e2⟩ := Rs.some_ h.1 (by rw [List.length_map]; exact hn)
  rw [List.length_map] at e1
  exact ⟨g, c, sp, e1, e2⟩
theorem OwnL.rs {sv : Value} {l : List LE} {G : List Blk} (h : OwnL sv l G) : RsL sv l G := ⟨Own.rs h, cap_own h⟩
theorem Reads.rs {P : Program} {B : Base} {A G F : List Blk} {E sz : Nat} {sv : Value} {rows : List (List Value)} [hs : Split A G F] (h : Rs E sz sv rows G) : Reads P B A sz sv rows := by
  rcases h.2 with ⟨rfl, rfl, rfl⟩ | ⟨g, c, sp, rfl, rfl⟩
  · exact Reads.none
  · haveI : Has A g (cl (rows.flatten ++ sp) E) := ⟨hs.perm.symm.subset (by simp)⟩
    have := Reads.at_ (P := P) (B := B) (A := A) (g := g) (i := 0) (k := rows.length) (c := c) (off := 0) h.1 (by simp) (by simp)
    rwa [List.drop_zero, List.take_length] at this

theorem rnew_no (a : Int) (h : ¬ (1 ≤ a ∧ a ≤ 256)) : Con Try.prog 10 #[.int .i64 a] [] fun v A => v = .tuple #[.pointer none, .int .i64 120] ∧ A = [] := by
  refine Con.intro (vs := [_]) Try.func10 rfl Try.ntmps10 rfl (fun B => ?_)
  by_cases h1 : a < 1
  · repeat' (first | refine Cd.seq ?_ | refine Cd.reg ?_ | refine Ops.nil ?_ | refine Ops.mv rfl rfl rfl rfl ?_ | refine Ops.asg rfl rfl rfl rfl ?_ | refine Ops.bin rfl rfl rfl rfl rfl ?_ | refine Ops.pickT rfl rfl rfl rfl rfl ?_ | refine Ops.gSkip rfl rfl rfl ?_ | refine Cd.condT rfl rfl ?_ | ((fail_if_success refine Ops.probe rfl ?_); refine Ops.gT rfl rfl (by first | rfl | assumption | (simp only [decide_eq_true_eq, decide_eq_false_iff_not, Bool.not_eq_true', Bool.not_eq_false', Bool.not_eq_eq_eq_not, Bool.not_true, Bool.not_false, beq_iff_eq, beq_eq_false_iff_ne, ne_eq, decide_eq_decide, eq_self, true_iff, iff_true, not_true_eq_false, not_false_eq_true]; first | done | omega)) ?_))
    exact Cd.ret (ret2 rfl (Res.tmp rfl) (Res.tmp rfl) (fun _ h => h) ⟨rfl, rfl⟩)
  · have h2 : 256 < a := by omega
    repeat' (first | refine Cd.seq ?_ | refine Cd.reg ?_ | refine Ops.nil ?_ | refine Ops.mv rfl rfl rfl rfl ?_ | refine Ops.asg rfl rfl rfl rfl ?_ | refine Ops.bin rfl rfl rfl rfl rfl ?_ | refine Ops.pickF rfl rfl rfl rfl rfl ?_ | refine Cd.condT rfl (by first | rfl | assumption | (simp only [decide_eq_true_eq, decide_eq_false_iff_not, Bool.not_eq_true', Bool.not_eq_false', Bool.not_eq_eq_eq_not, Bool.not_true, Bool.not_false, beq_iff_eq, beq_eq_false_iff_ne, ne_eq, decide_eq_decide, eq_self, true_iff, iff_true, not_true_eq_false, not_false_eq_true]; first | done | omega)) ?_ | ((fail_if_success refine Ops.probe rfl ?_); refine Ops.gF rfl rfl (by first | rfl | assumption | (simp only [decide_eq_true_eq, decide_eq_false_iff_not, Bool.not_eq_true', Bool.not_eq_false', Bool.not_eq_eq_eq_not, Bool.not_true, Bool.not_false, beq_iff_eq, beq_eq_false_iff_ne, ne_eq, decide_eq_decide, eq_self, true_iff, iff_true, not_true_eq_false, not_false_eq_true]; first | done | omega)) ?_))
    exact Cd.ret (ret2 rfl (Res.tmp rfl) (Res.tmp rfl) (fun _ h => h) ⟨rfl, rfl⟩)
theorem rnew_yes (a : Int) (h1 : 1 ≤ a) (h2 : a ≤ 256) : Con Try.prog 10 #[.int .i64 a] [] fun v A => ∃ m, v = .tuple #[ptr m, .int .i64 0] ∧ A = RT m a (.slice none 0 0) := by
  refine Con.intro (vs := [_]) Try.func10 rfl Try.ntmps10 rfl (fun B => ?_)
  repeat' (first | refine Cd.seq ?_ | refine Cd.reg ?_ | refine Ops.nil ?_ | refine Ops.mv rfl rfl rfl rfl ?_ | refine Ops.asg rfl rfl rfl rfl ?_ | refine Ops.bin rfl rfl rfl rfl rfl ?_ | refine Ops.pickF rfl rfl rfl rfl rfl ?_ | refine Ops.bld rfl rfl rfl rfl ?_ | refine Ops.box rfl rfl rfl rfl (noPd rfl) (fun b => ?_) | refine Cd.skip (Cd.next ?_) | refine Cd.condF rfl (by first | rfl | assumption | (simp only [decide_eq_true_eq, decide_eq_false_iff_not, Bool.not_eq_true', Bool.not_eq_false', Bool.not_eq_eq_eq_not, Bool.not_true, Bool.not_false, beq_iff_eq, beq_eq_false_iff_ne, ne_eq, decide_eq_decide, eq_self, true_iff, iff_true, not_true_eq_false, not_false_eq_true]; first | done | omega)) ?_ | ((fail_if_success refine Ops.probe rfl ?_); refine Ops.gF rfl rfl (by first | rfl | assumption | (simp only [decide_eq_true_eq, decide_eq_false_iff_not, Bool.not_eq_true', Bool.not_eq_false', Bool.not_eq_eq_eq_not, Bool.not_true, Bool.not_false, beq_iff_eq, beq_eq_false_iff_ne, ne_eq, decide_eq_decide, eq_self, true_iff, iff_true, not_true_eq_false, not_false_eq_true]; first | done | omega)) ?_))
  exact Cd.ret (ret2 rfl (Res.tmp rfl) (Res.tmp rfl) (fun _ h => h) ⟨_, rfl, rfl⟩)
theorem rcopy_spec (m : Nat) (ticks : Int) (a : Option Addr) (n c : Nat) : Con Try.prog 27 #[ptr m] (RT m ticks (.slice a n c)) fun v A => ∃ m', v = ptr m' ∧ A = RT m ticks (.slice a n c) ++ RT m' ticks (.slice a n c) := by
  refine Con.intro (vs := [_]) Try.func27 rfl Try.ntmps27 rfl (fun B => ?_)
  repeat' (first | refine Cd.seq ?_ | refine Cd.reg ?_ | refine Ops.nil ?_ | refine Ops.mv rfl rfl rfl rfl ?_ | refine Ops.asg rfl rfl rfl rfl ?_ | refine Ops.nilP rfl rfl rfl rfl ?_ | refine Ops.ldN rfl rfl rfl rfl ?_ | refine Ops.alloc rfl rfl rfl (noPd rfl) (fun b => ?_) | refine Ops.stN rfl rfl rfl rfl rfl rfl (noPd rfl) ?_)
  rename Nat => m'
  exact Cd.ret (ret1 rfl (Res.tmp rfl) (fun w h => (h.split : Sat _ (RT m ticks (.slice a n c) ++ RT m' ticks (.slice a n c)) w)) ⟨_, rfl, rfl⟩)

theorem rgrant_bad (m : Nat) (ticks : Int) (rv : Value) (job badge node life : Int) (h : job < 1 ∨ 8 < job ∨ badge < 1 ∨ 1099511627776 < badge) : Con Try.prog 12 #[ptr m, .int .i64 job, .int .i64 badge, .agg [.int .i64 node, .int .i64 life].toArray] (RT m ticks rv) fun v A => v = .int .i64 1 ∧ A = RT m ticks rv := by
  refine Con.intro (vs := [_, _, _, _]) Try.func12 rfl Try.ntmps12 rfl (fun B => ?_)
  by_cases h1 : job < 1
  · repeat' (first | refine Cd.seq ?_ | refine Cd.reg ?_ | refine Ops.nil ?_ | refine Ops.mv rfl rfl rfl rfl ?_ | refine Ops.asg rfl rfl rfl rfl ?_ | refine Ops.bin rfl rfl rfl rfl rfl ?_ | refine Ops.pickT rfl rfl rfl rfl rfl ?_ | refine Ops.box rfl rfl rfl rfl (noPd rfl) (fun b => ?_) | refine Ops.gSkip rfl rfl rfl ?_ | refine Cd.condT rfl rfl ?_ | ((fail_if_success refine Ops.probe rfl ?_); refine Ops.gT rfl rfl (by first | rfl | assumption | (simp only [decide_eq_true_eq, decide_eq_false_iff_not, Bool.not_eq_true', Bool.not_eq_false', Bool.not_eq_eq_eq_not, Bool.not_true, Bool.not_false, beq_iff_eq, beq_eq_false_iff_ne, ne_eq, decide_eq_decide, eq_self, true_iff, iff_true, not_true_eq_false, not_false_eq_true]; first | done | omega)) ?_))
    exact Cd.ret (ret1 (A' := RT m ticks rv) rfl (Res.tmp rfl) (fun _ h => h.split) ⟨rfl, rfl⟩)
  · by_cases h2 : 8 < job
    · repeat' (first | refine Cd.seq ?_ | refine Cd.reg ?_ | refine Ops.nil ?_ | refine Ops.mv rfl rfl rfl rfl ?_ | refine Ops.asg rfl rfl rfl rfl ?_ | refine Ops.bin rfl rfl rfl rfl rfl ?_ | refine Ops.pickT rfl rfl rfl rfl rfl ?_ | refine Ops.pickF rfl rfl rfl rfl rfl ?_ | refine Ops.box rfl rfl rfl rfl (noPd rfl) (fun b => ?_) | refine Ops.gSkip rfl rfl rfl ?_ | refine Cd.condT rfl rfl ?_ | ((fail_if_success refine Ops.probe rfl ?_); refine Ops.gT rfl rfl (by first | rfl | assumption | (simp only [decide_eq_true_eq, decide_eq_false_iff_not, Bool.not_eq_true', Bool.not_eq_false', Bool.not_eq_eq_eq_not, Bool.not_true, Bool.not_false, beq_iff_eq, beq_eq_false_iff_ne, ne_eq, decide_eq_decide, eq_self, true_iff, iff_true, not_true_eq_false, not_false_eq_true]; first | done | omega)) ?_) | ((fail_if_success refine Ops.probe rfl ?_); refine Ops.gF rfl rfl (by first | rfl | assumption | (simp only [decide_eq_true_eq, decide_eq_false_iff_not, Bool.not_eq_true', Bool.not_eq_false', Bool.not_eq_eq_eq_not, Bool.not_true, Bool.not_false, beq_iff_eq, beq_eq_false_iff_ne, ne_eq, decide_eq_decide, eq_self, true_iff, iff_true, not_true_eq_false, not_false_eq_true]; first | done | omega)) ?_))
      exact Cd.ret (ret1 (A' := RT m ticks rv) rfl (Res.tmp rfl) (fun _ h => h.split) ⟨rfl, rfl⟩)
    · by_cases h3 : badge < 1
      · repeat' (first | refine Cd.seq ?_ | refine Cd.reg ?_ | refine Ops.nil ?_ | refine Ops.mv rfl rfl rfl rfl ?_ | refine Ops.asg rfl rfl rfl rfl ?_ | refine Ops.bin rfl rfl rfl rfl rfl ?_ | refine Ops.pickT rfl rfl rfl rfl rfl ?_ | refine Ops.pickF rfl rfl rfl rfl rfl ?_ | refine Ops.box rfl rfl rfl rfl (noPd rfl) (fun b => ?_) | refine Ops.gSkip rfl rfl rfl ?_ | refine Cd.condT rfl rfl ?_ | ((fail_if_success refine Ops.probe rfl ?_); refine Ops.gT rfl rfl (by first | rfl | assumption | (simp only [decide_eq_true_eq, decide_eq_false_iff_not, Bool.not_eq_true', Bool.not_eq_false', Bool.not_eq_eq_eq_not, Bool.not_true, Bool.not_false, beq_iff_eq, beq_eq_false_iff_ne, ne_eq, decide_eq_decide, eq_self, true_iff, iff_true, not_true_eq_false, not_false_eq_true]; first | done | omega)) ?_) | ((fail_if_success refine Ops.probe rfl ?_); refine Ops.gF rfl rfl (by first | rfl | assumption | (simp only [decide_eq_true_eq, decide_eq_false_iff_not, Bool.not_eq_true', Bool.not_eq_false', Bool.not_eq_eq_eq_not, Bool.not_true, Bool.not_false, beq_iff_eq, beq_eq_false_iff_ne, ne_eq, decide_eq_decide, eq_self, true_iff, iff_true, not_true_eq_false, not_false_eq_true]; first | done | omega)) ?_))
        exact Cd.ret (ret1 (A' := RT m ticks rv) rfl (Res.tmp rfl) (fun _ h => h.split) ⟨rfl, rfl⟩)
      · have h4 : 1099511627776 < badge := by omega
        repeat' (first | refine Cd.seq ?_ | refine Cd.reg ?_ | refine Ops.nil ?_ | refine Ops.mv rfl rfl rfl rfl ?_ | refine Ops.asg rfl rfl rfl rfl ?_ | refine Ops.bin rfl rfl rfl rfl rfl ?_ | refine Ops.pickF rfl rfl rfl rfl rfl ?_ | refine Ops.box rfl rfl rfl rfl (noPd rfl) (fun b => ?_) | refine Cd.condT rfl (by first | rfl | assumption | (simp only [decide_eq_true_eq, decide_eq_false_iff_not, Bool.not_eq_true', Bool.not_eq_false', Bool.not_eq_eq_eq_not, Bool.not_true, Bool.not_false, beq_iff_eq, beq_eq_false_iff_ne, ne_eq, decide_eq_decide, eq_self, true_iff, iff_true, not_true_eq_false, not_false_eq_true]; first | done | omega)) ?_ | ((fail_if_success refine Ops.probe rfl ?_); refine Ops.gF rfl rfl (by first | rfl | assumption | (simp only [decide_eq_true_eq, decide_eq_false_iff_not, Bool.not_eq_true', Bool.not_eq_false', Bool.not_eq_eq_eq_not, Bool.not_true, Bool.not_false, beq_iff_eq, beq_eq_false_iff_ne, ne_eq, decide_eq_decide, eq_self, true_iff, iff_true, not_true_eq_false, not_false_eq_true]; first | done | omega)) ?_))
        exact Cd.ret (ret1 (A' := RT m ticks rv) rfl (Res.tmp rfl) (fun _ h => h.split) ⟨rfl, rfl⟩)

structure GS where
  i : Nat
  inn : Bool
  out : List LE
  sv : Value
  G : List Blk
/-- How far a list with one more has come. -/
def GI (x : LE) (l : List LE) (s : GS) : Prop :=
  s.i ≤ l.length ∧ (∀ y ∈ l.take s.i, ¬ Clash x.job x.badge y) ∧ OwnL s.sv s.out s.G ∧ s.out.length ≤ s.i + 1 ∧ ((s.inn = false ∧ (∀ y ∈ l.take s.i, y.badge < x.badge) ∧ s.out = l.take s.i) ∨ (s.inn = true ∧ ¬ (∀ y ∈ l.take s.i, y.badge < x.badge) ∧ s.out = lins x (l.take s.i)))
theorem all_next {l : List LE} {i : Nat} {y : LE} {p : LE → Prop} (hy : l[i]? = some y) (h : ∀ z ∈ l.take i, p z) (h2 : p y) : ∀ z ∈ l.take (i + 1), p z := fun z hz => by
  rw [← take_next hy] at hz
  rcases List.mem_append.1 hz with hz | hz
  · exact h z hz
  · obtain rfl := List.mem_singleton.1 hz
    exact h2
theorem not_next {l : List LE} {i : Nat} {y : LE} {p : LE → Prop} (hy : l[i]? = some y) (h : ¬ ∀ z ∈ l.take i, p z) : ¬ ∀ z ∈ l.take (i + 1), p z := fun h2 => h fun z hz => h2 z (by rw [← take_next hy]; exact List.mem_append_left _ hz)
theorem not_next' {l : List LE} {i : Nat} {y : LE} {p : LE → Prop} (hy : l[i]? = some y) (h : ¬ p y) : ¬ ∀ z ∈ l.take (i + 1), p z := fun h2 => h (h2 y (by rw [← take_next hy]; simp))
theorem lins_two {x y : LE} (h : ¬ y.badge < x.badge) : lins x [y] = [x, y] := by simp [lins, h]

theorem rgrant_ok (m : Nat) (ticks : Int) (rv : Value) (l : List LE) (G : List Blk) (job badge node life : Int) (h : RsL rv l G) (hlen : l.length ≤ 8) (h1 : ¬ job < 1) (h2 : ¬ 8 < job) (h3 : ¬ badge < 1) (h4 : ¬ 1099511627776 < badge) :
    Con Try.prog 12 #[ptr m, .int .i64 job, .int .i64 badge, .agg [.int .i64 node, .int .i64 life].toArray] (RT m ticks rv ++ G)
      fun v A => ∃ rv' G', A = RT m ticks rv' ++ (G' ++ G) ∧ ((v = .int .i64 121 ∧ (∃ x ∈ l, Clash job badge x) ∧ rv' = rv) ∨ (v = .int .i64 0 ∧ (∀ x ∈ l, ¬ Clash job badge x) ∧ RsL rv' (lins ⟨job, badge, node, life, ticks⟩ l) G')) := by
  obtain ⟨ra, rc, rfl⟩ := h.form
  generalize hx : (LE.mk job badge node life ticks) = x
  have x1 : x.job = job := by rw [← hx]
  have x2 : x.badge = badge := by rw [← hx]
  have x3 : x.row = [.int .i64 job, .int .i64 badge, .int .i64 node, .int .i64 life, .int .i64 ticks] := by rw [← hx]
  refine Con.intro (vs := [_, _, _, _]) Try.func12 rfl Try.ntmps12 rfl (fun B => ?_)
  refine Cd.seq ?_
  refine Cd.reg ?_
  refine Ops.box rfl rfl rfl rfl (noPd rfl) (fun b7 => ?_)
  repeat' (first | refine Cd.seq ?_ | refine Cd.reg ?_ | refine Ops.nil ?_ | refine Ops.mv rfl rfl rfl rfl ?_ | refine Ops.asg rfl rfl rfl rfl ?_ | refine Ops.bin rfl rfl rfl rfl rfl ?_ | refine Ops.pickF rfl rfl rfl rfl rfl ?_ | refine Ops.bs0 rfl rfl rfl (noPd rfl) (fun b => ?_) | refine Cd.block ?_ | refine Cd.skip (Cd.next ?_) | refine Cd.condF rfl (by first | rfl | assumption | (simp only [decide_eq_true_eq, decide_eq_false_iff_not, Bool.not_eq_true', Bool.not_eq_false', Bool.not_eq_eq_eq_not, Bool.not_true, Bool.not_false, beq_iff_eq, beq_eq_false_iff_ne, ne_eq, decide_eq_decide, eq_self, true_iff, iff_true, not_true_eq_false, not_false_eq_true]; first | done | omega)) ?_ | ((fail_if_success refine Ops.probe rfl ?_); refine Ops.gF rfl rfl (by first | rfl | assumption | (simp only [decide_eq_true_eq, decide_eq_false_iff_not, Bool.not_eq_true', Bool.not_eq_false', Bool.not_eq_eq_eq_not, Bool.not_true, Bool.not_false, beq_iff_eq, beq_eq_false_iff_ne, ne_eq, decide_eq_decide, eq_self, true_iff, iff_true, not_true_eq_false, not_false_eq_true]; first | done | omega)) ?_))
  rename Nat => g0
  refine Cd.loopK (GI x l) (fun s => [(0, ptr m), (1, .int .i64 job), (2, .int .i64 badge), (7, ptr b7), (9, s.sv), (10, .bool s.inn), (11, .int .i64 s.i)])
    (fun s => RT m ticks (.slice ra l.length rc) ++ (G ++ ((b7, cl [.int .i64 node, .int .i64 life] 31) :: s.G))) (fun s => l.length - s.i) ⟨0, false, [], .slice (some ⟨g0, 0, none⟩) 0 0, [(g0, cl [] 40)]⟩
    ⟨Nat.zero_le _, fun y hy => by simp at hy, Own.empty, Nat.zero_le _, .inl ⟨rfl, fun y hy => by simp at hy, by simp⟩⟩ ⟨rfl, rfl, rfl, rfl, rfl, rfl, rfl, trivial⟩ (fun w h => h.split) (fun s hI => ?_)
  obtain ⟨i, inn, out, sv, Go⟩ := s
  obtain ⟨hi, hno, hO, hol, hcase⟩ := hI
  dsimp only at hi hno hO hol hcase ⊢
  obtain ⟨sa, sc, rfl⟩ := hO.form
  have hm5 : (out.map LE.row).length = out.length := List.length_map _
  by_cases hil : i < l.length
  · have hil' : (i : Int) < l.length := by omega
    obtain ⟨y, hy⟩ : ∃ y, l[i]? = some y := ⟨_, List.getElem?_eq_getElem hil⟩
    have hyr : (l.map LE.row)[(i : Int).toNat]? = some y.row := map_at hy
    have hk1 := lrows_ok l
    obtain ⟨g, c, sp, e1, rfl⟩ := h.some_ (by omega)
    cases e1
    by_cases hc : Clash job badge y
    · by_cases hj : y.job = job
      · repeat' (first | refine Cd.seq ?_ | refine Cd.reg ?_ | refine Ops.nil ?_ | refine Ops.mv rfl rfl rfl rfl ?_ | refine Ops.asg rfl rfl rfl rfl ?_ | refine Ops.nilP rfl rfl rfl rfl ?_ | refine Ops.fa0 rfl rfl rfl rfl ?_ | refine Ops.fa rfl rfl rfl rfl ?_ | refine Ops.ld1 rfl rfl rfl rfl rfl ?_ | refine Ops.lenS rfl rfl rfl rfl ?_ | refine Ops.bin rfl rfl rfl rfl rfl ?_ | refine Ops.pickT rfl rfl rfl rfl rfl ?_ | refine Ops.gSkip rfl rfl rfl ?_ | refine Cd.condT rfl rfl ?_ | refine Cd.block ?_ | refine Cd.skip (Cd.next ?_) | refine Ops.ixa0 rfl rfl rfl rfl (by omega) (by omega) rfl ?_ | refine Ops.ldRow1 rfl rfl rfl (by assumption) (by assumption) rfl rfl ?_ | refine Cd.condT rfl (by first | rfl | assumption | (simp only [decide_eq_true_eq, decide_eq_false_iff_not, Bool.not_eq_true', Bool.not_eq_false', Bool.not_eq_eq_eq_not, Bool.not_true, Bool.not_false, beq_iff_eq, beq_eq_false_iff_ne, ne_eq, decide_eq_decide, eq_self, true_iff, iff_true, not_true_eq_false, not_false_eq_true]; first | done | omega)) ?_ | ((fail_if_success refine Ops.probe rfl ?_); refine Ops.gT rfl rfl (by first | rfl | assumption | (simp only [decide_eq_true_eq, decide_eq_false_iff_not, Bool.not_eq_true', Bool.not_eq_false', Bool.not_eq_eq_eq_not, Bool.not_true, Bool.not_false, beq_iff_eq, beq_eq_false_iff_ne, ne_eq, decide_eq_decide, eq_self, true_iff, iff_true, not_true_eq_false, not_false_eq_true]; first | done | omega)) ?_))
        exact Cd.ret (ret1 (A' := RT m ticks (.slice (some ⟨g, 0, none⟩) l.length rc) ++ ([] ++ [(g, cl ((l.map LE.row).flatten ++ sp) 40)])) rfl (Res.tmp rfl) (fun _ h => h.split) ⟨_, [], rfl, .inl ⟨rfl, ⟨y, List.mem_of_getElem? hy, hc⟩, rfl⟩⟩)
      · have hb : y.badge = badge := hc.resolve_left hj
        repeat' (first | refine Cd.seq ?_ | refine Cd.reg ?_ | refine Ops.nil ?_ | refine Ops.mv rfl rfl rfl rfl ?_ | refine Ops.asg rfl rfl rfl rfl ?_ | refine Ops.nilP rfl rfl rfl rfl ?_ | refine Ops.fa0 rfl rfl rfl rfl ?_ | refine Ops.fa rfl rfl rfl rfl ?_ | refine Ops.ld1 rfl rfl rfl rfl rfl ?_ | refine Ops.lenS rfl rfl rfl rfl ?_ | refine Ops.bin rfl rfl rfl rfl rfl ?_ | refine Ops.pickF rfl rfl rfl rfl rfl ?_ | refine Cd.block ?_ | refine Cd.skip (Cd.next ?_) | refine Ops.ixa0 rfl rfl rfl rfl (by omega) (by omega) rfl ?_ | refine Ops.ldRow1 rfl rfl rfl (by assumption) (by assumption) rfl rfl ?_ | refine Cd.condT rfl (by first | rfl | assumption | (simp only [decide_eq_true_eq, decide_eq_false_iff_not, Bool.not_eq_true', Bool.not_eq_false', Bool.not_eq_eq_eq_not, Bool.not_true, Bool.not_false, beq_iff_eq, beq_eq_false_iff_ne, ne_eq, decide_eq_decide, eq_self, true_iff, iff_true, not_true_eq_false, not_false_eq_true]; first | done | omega)) ?_ | ((fail_if_success refine Ops.probe rfl ?_); refine Ops.gF rfl rfl (by first | rfl | assumption | (simp only [decide_eq_true_eq, decide_eq_false_iff_not, Bool.not_eq_true', Bool.not_eq_false', Bool.not_eq_eq_eq_not, Bool.not_true, Bool.not_false, beq_iff_eq, beq_eq_false_iff_ne, ne_eq, decide_eq_decide, eq_self, true_iff, iff_true, not_true_eq_false, not_false_eq_true]; first | done | omega)) ?_))
        exact Cd.ret (ret1 (A' := RT m ticks (.slice (some ⟨g, 0, none⟩) l.length rc) ++ ([] ++ [(g, cl ((l.map LE.row).flatten ++ sp) 40)])) rfl (Res.tmp rfl) (fun _ h => h.split) ⟨_, [], rfl, .inl ⟨rfl, ⟨y, List.mem_of_getElem? hy, hc⟩, rfl⟩⟩)
    · have hj : ¬ y.job = job := fun e => hc (.inl e)
      have hb : ¬ y.badge = badge := fun e => hc (.inr e)
      have hno' := all_next hy hno (show ¬ Clash x.job x.badge y by rw [x1, x2]; exact hc)
      rcases hcase with ⟨rfl, hlt, rfl⟩ | ⟨rfl, hge, rfl⟩
      · by_cases hgt : badge < y.badge
        · have hny : ¬ y.badge < x.badge := by omega
          repeat' (first | refine Cd.seq ?_ | refine Cd.reg ?_ | refine Ops.nil ?_ | refine Ops.mv rfl rfl rfl rfl ?_ | refine Ops.nilP rfl rfl rfl rfl ?_ | refine Ops.fa0 rfl rfl rfl rfl ?_ | refine Ops.fa rfl rfl rfl rfl ?_ | refine Ops.ld1 rfl rfl rfl rfl rfl ?_ | refine Ops.lenS rfl rfl rfl rfl ?_ | refine Ops.bin rfl rfl rfl rfl rfl ?_ | refine Ops.un rfl rfl rfl rfl ?_ | refine Ops.pickT rfl rfl rfl rfl rfl ?_ | refine Ops.pickF rfl rfl rfl rfl rfl ?_ | refine Cd.condT rfl rfl ?_ | refine Cd.block ?_ | refine Cd.skip (Cd.next ?_) | refine Ops.ixa0 rfl rfl rfl rfl (by omega) (by omega) rfl ?_ | refine Ops.ldRow1 rfl rfl rfl (by assumption) (by assumption) rfl rfl ?_ | refine Cd.condT rfl (by first | rfl | assumption | (simp only [decide_eq_true_eq, decide_eq_false_iff_not, Bool.not_eq_true', Bool.not_eq_false', Bool.not_eq_eq_eq_not, Bool.not_true, Bool.not_false, beq_iff_eq, beq_eq_false_iff_ne, ne_eq, decide_eq_decide, eq_self, true_iff, iff_true, not_true_eq_false, not_false_eq_true]; first | done | omega)) ?_ | refine Cd.condF rfl (by first | rfl | assumption | (simp only [decide_eq_true_eq, decide_eq_false_iff_not, Bool.not_eq_true', Bool.not_eq_false', Bool.not_eq_eq_eq_not, Bool.not_true, Bool.not_false, beq_iff_eq, beq_eq_false_iff_ne, ne_eq, decide_eq_decide, eq_self, true_iff, iff_true, not_true_eq_false, not_false_eq_true]; first | done | omega)) ?_ | ((fail_if_success refine Ops.probe rfl ?_); refine Ops.gT rfl rfl (by first | rfl | assumption | (simp only [decide_eq_true_eq, decide_eq_false_iff_not, Bool.not_eq_true', Bool.not_eq_false', Bool.not_eq_eq_eq_not, Bool.not_true, Bool.not_false, beq_iff_eq, beq_eq_false_iff_ne, ne_eq, decide_eq_decide, eq_self, true_iff, iff_true, not_true_eq_false, not_false_eq_true]; first | done | omega)) ?_) | ((fail_if_success refine Ops.probe rfl ?_); refine Ops.gF rfl rfl (by first | rfl | assumption | (simp only [decide_eq_true_eq, decide_eq_false_iff_not, Bool.not_eq_true', Bool.not_eq_false', Bool.not_eq_eq_eq_not, Bool.not_true, Bool.not_false, beq_iff_eq, beq_eq_false_iff_ne, ne_eq, decide_eq_decide, eq_self, true_iff, iff_true, not_true_eq_false, not_false_eq_true]; first | done | omega)) ?_))
          refine Cd.draw [(0, 0, []), (1, 0, []), (2, 0, []), (3, 1, []), (4, 0, []), (5, 0, []), (6, 0, []), (7, 1, []), (8, 0, []), (9, 2, []), (10, 2, []), (11, 2, [])] (by kernel_rfl) (by kernel_rfl) (by simp only [picked, nth]; exact rfl) ?_
          repeat' (first | refine Ops.mv rfl rfl rfl rfl ?_ | refine Ops.nilP rfl rfl rfl rfl ?_ | refine Ops.fa0 rfl rfl rfl rfl ?_ | refine Ops.ld1 rfl rfl rfl rfl rfl ?_ | refine Ops.ldN rfl rfl rfl rfl ?_ | refine Ops.bld rfl rfl rfl rfl ?_ | refine Ops.bs1 rfl rfl rfl rfl rfl rfl rfl (noPd rfl) (fun b => ?_))
          refine Ops.app1 (rows := (l.take i).map LE.row) hO (by rw [List.length_map]; omega) (by rw [List.length_map]; omega) rfl rfl rfl rfl (by rfl) (by rfl) rfl (noPd rfl) rfl (fun v G2 hG2 => ?_)
          obtain ⟨a2, c2, rfl⟩ := hG2.form
          rw [← x3] at hG2 ⊢
          repeat' (first | refine Cd.reg ?_ | refine Ops.nil ?_ | refine Ops.mv rfl rfl rfl rfl ?_ | refine Ops.asg rfl rfl rfl rfl ?_ | refine Ops.nilP rfl rfl rfl rfl ?_ | refine Ops.fa0 rfl rfl rfl rfl ?_ | refine Ops.ld1 rfl rfl rfl rfl rfl ?_ | refine Ops.bs1 rfl rfl rfl rfl rfl rfl rfl (noPd rfl) (fun b => ?_) | refine Ops.asgE rfl (noPd rfl) rfl rfl rfl ?_ | refine Ops.ixa0 rfl rfl rfl rfl (by omega) (by omega) rfl ?_ | refine Ops.ldRow rfl rfl rfl (by assumption) (by assumption) rfl ?_)
          refine Ops.app1 (rows := (l.take i).map LE.row ++ [x.row]) hG2 (by rw [List.length_append, List.length_map, List.length_singleton]; omega) (by rw [List.length_append, List.length_map, List.length_singleton]; omega) rfl rfl rfl rfl (by rfl) (by rfl) rfl (noPd rfl) rfl (fun v G3 hG3 => ?_)
          obtain ⟨a3, c3, rfl⟩ := hG3.form
          repeat' (first | refine Ops.nilN (inB (Cd.next ?_)) | refine Cd.reg ?_ | refine Ops.mv rfl rfl rfl rfl ?_ | refine Ops.asg rfl rfl rfl rfl ?_ | refine Ops.addI rfl rfl rfl rfl (by omega) (by omega) rfl ?_)
          have e9 : lins x (l.take (i + 1)) = (l.take i ++ [x]) ++ [y] := by rw [← take_next hy, lins_app_lt hlt, lins_two hny]; simp
          exact Ops.nilN (round_end (⟨i + 1, true, lins x (l.take (i + 1)), _, G3⟩ : GS) ⟨by show i + 1 ≤ l.length; omega, hno', by rw [e9]; unfold OwnL; rw [List.map_append, List.map_append]; exact hG3, by rw [e9]; simp at hol ⊢; omega, .inr ⟨rfl, not_next' hy hny, rfl⟩⟩ (by show l.length - (i + 1) < l.length - i; omega) ⟨rfl, rfl, rfl, rfl, rfl, rfl, rfl, trivial⟩ (fun w h => h.split))
        · have hlt2 : y.badge < x.badge := by omega
          repeat' (first | refine Cd.seq ?_ | refine Cd.reg ?_ | refine Ops.nil ?_ | refine Ops.mv rfl rfl rfl rfl ?_ | refine Ops.nilP rfl rfl rfl rfl ?_ | refine Ops.fa0 rfl rfl rfl rfl ?_ | refine Ops.fa rfl rfl rfl rfl ?_ | refine Ops.ld1 rfl rfl rfl rfl rfl ?_ | refine Ops.lenS rfl rfl rfl rfl ?_ | refine Ops.bin rfl rfl rfl rfl rfl ?_ | refine Ops.pickF rfl rfl rfl rfl rfl ?_ | refine Ops.bs1 rfl rfl rfl rfl rfl rfl rfl (noPd rfl) (fun b => ?_) | refine Ops.gSkip rfl rfl rfl ?_ | refine Cd.condF rfl rfl ?_ | refine Cd.block ?_ | refine Cd.skip (Cd.next ?_) | refine Ops.ixa0 rfl rfl rfl rfl (by omega) (by omega) rfl ?_ | refine Ops.ldRow rfl rfl rfl (by assumption) (by assumption) rfl ?_ | refine Ops.ldRow1 rfl rfl rfl (by assumption) (by assumption) rfl rfl ?_ | refine Cd.condT rfl (by first | rfl | assumption | (simp only [decide_eq_true_eq, decide_eq_false_iff_not, Bool.not_eq_true', Bool.not_eq_false', Bool.not_eq_eq_eq_not, Bool.not_true, Bool.not_false, beq_iff_eq, beq_eq_false_iff_ne, ne_eq, decide_eq_decide, eq_self, true_iff, iff_true, not_true_eq_false, not_false_eq_true]; first | done | omega)) ?_ | refine Cd.condF rfl (by first | rfl | assumption | (simp only [decide_eq_true_eq, decide_eq_false_iff_not, Bool.not_eq_true', Bool.not_eq_false', Bool.not_eq_eq_eq_not, Bool.not_true, Bool.not_false, beq_iff_eq, beq_eq_false_iff_ne, ne_eq, decide_eq_decide, eq_self, true_iff, iff_true, not_true_eq_false, not_false_eq_true]; first | done | omega)) ?_ | ((fail_if_success refine Ops.probe rfl ?_); refine Ops.gF rfl rfl (by first | rfl | assumption | (simp only [decide_eq_true_eq, decide_eq_false_iff_not, Bool.not_eq_true', Bool.not_eq_false', Bool.not_eq_eq_eq_not, Bool.not_true, Bool.not_false, beq_iff_eq, beq_eq_false_iff_ne, ne_eq, decide_eq_decide, eq_self, true_iff, iff_true, not_true_eq_false, not_false_eq_true]; first | done | omega)) ?_))
          refine Ops.app1 (rows := (l.take i).map LE.row) hO (by rw [List.length_map]; omega) (by rw [List.length_map]; omega) rfl rfl rfl rfl (by rfl) (by rfl) rfl (noPd rfl) rfl (fun v G3 hG3 => ?_)
          obtain ⟨a3, c3, rfl⟩ := hG3.form
          repeat' (first | refine Ops.nilN (inB (Cd.next ?_)) | refine Cd.reg ?_ | refine Ops.mv rfl rfl rfl rfl ?_ | refine Ops.asg rfl rfl rfl rfl ?_ | refine Ops.addI rfl rfl rfl rfl (by omega) (by omega) rfl ?_)
          exact Ops.nilN (round_end (⟨i + 1, false, l.take (i + 1), _, G3⟩ : GS) ⟨by show i + 1 ≤ l.length; omega, hno', by rw [← take_next hy]; unfold OwnL; rw [List.map_append]; exact hG3, by rw [← take_next hy]; simp at hol ⊢; omega, .inl ⟨rfl, all_next hy hlt hlt2, rfl⟩⟩ (by show l.length - (i + 1) < l.length - i; omega) ⟨rfl, rfl, rfl, rfl, rfl, rfl, rfl, trivial⟩ (fun w h => h.split))
      · have e9 : lins x (l.take (i + 1)) = lins x (l.take i) ++ [y] := by rw [← take_next hy, lins_app_ge hge]
        have fin : ∀ (v : Value) (G3 : List Blk), Own 40 5 v ((lins x (l.take i)).map LE.row ++ [y.row]) G3 → GI x l ⟨i + 1, true, lins x (l.take (i + 1)), v, G3⟩ := fun v G3 hG3 => ⟨by show i + 1 ≤ l.length; omega, hno', by show OwnL v (lins x (l.take (i + 1))) G3; rw [e9]; unfold OwnL; rw [List.map_append]; exact hG3, by show (lins x (l.take (i + 1))).length ≤ i + 1 + 1; rw [e9, List.length_append, List.length_singleton]; omega, .inr ⟨rfl, not_next hy hge, rfl⟩⟩
        by_cases hgt : badge < y.badge
        · repeat' (first | refine Cd.seq ?_ | refine Cd.reg ?_ | refine Ops.nil ?_ | refine Ops.mv rfl rfl rfl rfl ?_ | refine Ops.nilP rfl rfl rfl rfl ?_ | refine Ops.fa0 rfl rfl rfl rfl ?_ | refine Ops.fa rfl rfl rfl rfl ?_ | refine Ops.ld1 rfl rfl rfl rfl rfl ?_ | refine Ops.lenS rfl rfl rfl rfl ?_ | refine Ops.bin rfl rfl rfl rfl rfl ?_ | refine Ops.un rfl rfl rfl rfl ?_ | refine Ops.pickT rfl rfl rfl rfl rfl ?_ | refine Ops.pickF rfl rfl rfl rfl rfl ?_ | refine Ops.bs1 rfl rfl rfl rfl rfl rfl rfl (noPd rfl) (fun b => ?_) | refine Cd.condF rfl rfl ?_ | refine Cd.block ?_ | refine Cd.skip (Cd.next ?_) | refine Ops.ixa0 rfl rfl rfl rfl (by omega) (by omega) rfl ?_ | refine Ops.ldRow rfl rfl rfl (by assumption) (by assumption) rfl ?_ | refine Ops.ldRow1 rfl rfl rfl (by assumption) (by assumption) rfl rfl ?_ | refine Cd.condT rfl (by first | rfl | assumption | (simp only [decide_eq_true_eq, decide_eq_false_iff_not, Bool.not_eq_true', Bool.not_eq_false', Bool.not_eq_eq_eq_not, Bool.not_true, Bool.not_false, beq_iff_eq, beq_eq_false_iff_ne, ne_eq, decide_eq_decide, eq_self, true_iff, iff_true, not_true_eq_false, not_false_eq_true]; first | done | omega)) ?_ | refine Cd.condF rfl (by first | rfl | assumption | (simp only [decide_eq_true_eq, decide_eq_false_iff_not, Bool.not_eq_true', Bool.not_eq_false', Bool.not_eq_eq_eq_not, Bool.not_true, Bool.not_false, beq_iff_eq, beq_eq_false_iff_ne, ne_eq, decide_eq_decide, eq_self, true_iff, iff_true, not_true_eq_false, not_false_eq_true]; first | done | omega)) ?_ | ((fail_if_success refine Ops.probe rfl ?_); refine Ops.gT rfl rfl (by first | rfl | assumption | (simp only [decide_eq_true_eq, decide_eq_false_iff_not, Bool.not_eq_true', Bool.not_eq_false', Bool.not_eq_eq_eq_not, Bool.not_true, Bool.not_false, beq_iff_eq, beq_eq_false_iff_ne, ne_eq, decide_eq_decide, eq_self, true_iff, iff_true, not_true_eq_false, not_false_eq_true]; first | done | omega)) ?_) | ((fail_if_success refine Ops.probe rfl ?_); refine Ops.gF rfl rfl (by first | rfl | assumption | (simp only [decide_eq_true_eq, decide_eq_false_iff_not, Bool.not_eq_true', Bool.not_eq_false', Bool.not_eq_eq_eq_not, Bool.not_true, Bool.not_false, beq_iff_eq, beq_eq_false_iff_ne, ne_eq, decide_eq_decide, eq_self, true_iff, iff_true, not_true_eq_false, not_false_eq_true]; first | done | omega)) ?_))
          refine Ops.app1 (rows := (lins x (l.take i)).map LE.row) hO (by rw [List.length_map]; omega) (by rw [List.length_map]; omega) rfl rfl rfl rfl (by rfl) (by rfl) rfl (noPd rfl) rfl (fun v G3 hG3 => ?_)
          obtain ⟨a3, c3, rfl⟩ := hG3.form
          repeat' (first | refine Ops.nilN (inB (Cd.next ?_)) | refine Cd.reg ?_ | refine Ops.mv rfl rfl rfl rfl ?_ | refine Ops.asg rfl rfl rfl rfl ?_ | refine Ops.addI rfl rfl rfl rfl (by omega) (by omega) rfl ?_)
          exact Ops.nilN (round_end (⟨i + 1, true, lins x (l.take (i + 1)), _, G3⟩ : GS) (fin _ G3 hG3) (by show l.length - (i + 1) < l.length - i; omega) ⟨rfl, rfl, rfl, rfl, rfl, rfl, rfl, trivial⟩ (fun w h => h.split))
        · repeat' (first | refine Cd.seq ?_ | refine Cd.reg ?_ | refine Ops.nil ?_ | refine Ops.mv rfl rfl rfl rfl ?_ | refine Ops.nilP rfl rfl rfl rfl ?_ | refine Ops.fa0 rfl rfl rfl rfl ?_ | refine Ops.fa rfl rfl rfl rfl ?_ | refine Ops.ld1 rfl rfl rfl rfl rfl ?_ | refine Ops.lenS rfl rfl rfl rfl ?_ | refine Ops.bin rfl rfl rfl rfl rfl ?_ | refine Ops.pickF rfl rfl rfl rfl rfl ?_ | refine Ops.bs1 rfl rfl rfl rfl rfl rfl rfl (noPd rfl) (fun b => ?_) | refine Ops.gSkip rfl rfl rfl ?_ | refine Cd.condF rfl rfl ?_ | refine Cd.block ?_ | refine Cd.skip (Cd.next ?_) | refine Ops.ixa0 rfl rfl rfl rfl (by omega) (by omega) rfl ?_ | refine Ops.ldRow rfl rfl rfl (by assumption) (by assumption) rfl ?_ | refine Ops.ldRow1 rfl rfl rfl (by assumption) (by assumption) rfl rfl ?_ | refine Cd.condT rfl (by first | rfl | assumption | (simp only [decide_eq_true_eq, decide_eq_false_iff_not, Bool.not_eq_true', Bool.not_eq_false', Bool.not_eq_eq_eq_not, Bool.not_true, Bool.not_false, beq_iff_eq, beq_eq_false_iff_ne, ne_eq, decide_eq_decide, eq_self, true_iff, iff_true, not_true_eq_false, not_false_eq_true]; first | done | omega)) ?_ | refine Cd.condF rfl (by first | rfl | assumption | (simp only [decide_eq_true_eq, decide_eq_false_iff_not, Bool.not_eq_true', Bool.not_eq_false', Bool.not_eq_eq_eq_not, Bool.not_true, Bool.not_false, beq_iff_eq, beq_eq_false_iff_ne, ne_eq, decide_eq_decide, eq_self, true_iff, iff_true, not_true_eq_false, not_false_eq_true]; first | done | omega)) ?_ | ((fail_if_success refine Ops.probe rfl ?_); refine Ops.gF rfl rfl (by first | rfl | assumption | (simp only [decide_eq_true_eq, decide_eq_false_iff_not, Bool.not_eq_true', Bool.not_eq_false', Bool.not_eq_eq_eq_not, Bool.not_true, Bool.not_false, beq_iff_eq, beq_eq_false_iff_ne, ne_eq, decide_eq_decide, eq_self, true_iff, iff_true, not_true_eq_false, not_false_eq_true]; first | done | omega)) ?_))
          refine Ops.app1 (rows := (lins x (l.take i)).map LE.row) hO (by rw [List.length_map]; omega) (by rw [List.length_map]; omega) rfl rfl rfl rfl (by rfl) (by rfl) rfl (noPd rfl) rfl (fun v G3 hG3 => ?_)
          obtain ⟨a3, c3, rfl⟩ := hG3.form
          repeat' (first | refine Ops.nilN (inB (Cd.next ?_)) | refine Cd.reg ?_ | refine Ops.mv rfl rfl rfl rfl ?_ | refine Ops.asg rfl rfl rfl rfl ?_ | refine Ops.addI rfl rfl rfl rfl (by omega) (by omega) rfl ?_)
          exact Ops.nilN (round_end (⟨i + 1, true, lins x (l.take (i + 1)), _, G3⟩ : GS) (fin _ G3 hG3) (by show l.length - (i + 1) < l.length - i; omega) ⟨rfl, rfl, rfl, rfl, rfl, rfl, rfl, trivial⟩ (fun w h => h.split))
  · have hil' : ¬ (i : Int) < l.length := by omega
    rw [List.take_of_length_le (show l.length ≤ i by omega)] at hno hcase
    have hno2 : ∀ y ∈ l, ¬ Clash job badge y := fun y hy => by have := hno y hy; rwa [x1, x2] at this
    rcases hcase with ⟨rfl, hlt, rfl⟩ | ⟨rfl, hge, rfl⟩
    · repeat' (first | refine Cd.seq ?_ | refine Cd.reg ?_ | refine Ops.nil ?_ | refine Ops.mv rfl rfl rfl rfl ?_ | refine Ops.nilP rfl rfl rfl rfl ?_ | refine Ops.fa0 rfl rfl rfl rfl ?_ | refine Ops.ld1 rfl rfl rfl rfl rfl ?_ | refine Ops.lenS rfl rfl rfl rfl ?_ | refine Ops.bin rfl rfl rfl rfl rfl ?_ | refine Ops.un rfl rfl rfl rfl ?_ | refine Cd.condT rfl rfl ?_ | refine Cd.exit (Cd.next (Q' := fun _ _ _ => True) ?_) | refine Cd.condF rfl (by first | rfl | assumption | (simp only [decide_eq_true_eq, decide_eq_false_iff_not, Bool.not_eq_true', Bool.not_eq_false', Bool.not_eq_eq_eq_not, Bool.not_true, Bool.not_false, beq_iff_eq, beq_eq_false_iff_ne, ne_eq, decide_eq_decide, eq_self, true_iff, iff_true, not_true_eq_false, not_false_eq_true]; first | done | omega)) ?_)
      refine Cd.draw [(0, 0, []), (1, 0, []), (2, 0, []), (3, 1, []), (4, 0, []), (5, 0, []), (6, 0, []), (7, 1, []), (8, 0, []), (9, 2, []), (10, 2, []), (11, 2, [])] (by kernel_rfl) (by kernel_rfl) (by simp only [picked, nth]; exact rfl) ?_
      repeat' (first | refine Ops.mv rfl rfl rfl rfl ?_ | refine Ops.nilP rfl rfl rfl rfl ?_ | refine Ops.fa0 rfl rfl rfl rfl ?_ | refine Ops.ld1 rfl rfl rfl rfl rfl ?_ | refine Ops.ldN rfl rfl rfl rfl ?_ | refine Ops.bld rfl rfl rfl rfl ?_ | refine Ops.bs1 rfl rfl rfl rfl rfl rfl rfl (noPd rfl) (fun b => ?_))
      refine Ops.app1 (rows := out.map LE.row) hO (by rw [List.length_map]; omega) (by rw [List.length_map]; omega) rfl rfl rfl rfl (by rfl) (by rfl) rfl (noPd rfl) rfl (fun v G3 hG3 => ?_)
      obtain ⟨a3, c3, rfl⟩ := hG3.form
      rw [← x3] at hG3 ⊢
      repeat' (first | refine Cd.seq ?_ | refine Cd.reg ?_ | refine Ops.nil ?_ | refine Ops.mv rfl rfl rfl rfl ?_ | refine Ops.asg rfl rfl rfl rfl ?_ | refine Ops.nilP rfl rfl rfl rfl ?_ | refine Ops.fa0 rfl rfl rfl rfl ?_ | refine Ops.st1 rfl rfl rfl rfl rfl (noPd rfl) ?_ | refine Ops.asgE rfl (noPd rfl) rfl rfl rfl ?_)
      exact Cd.ret (ret1 (A' := RT m ticks (.slice a3 (out.map LE.row ++ [x.row]).length c3) ++ (G3 ++ G)) rfl (Res.tmp rfl) (fun _ h => h.split) ⟨_, G3, rfl, .inr ⟨rfl, hno2, by
        have e9 : lins x out = out ++ [x] := by have := lins_app_lt (b := []) hlt; rwa [List.append_nil] at this
        rw [e9]
        unfold RsL
        rw [List.map_append]
        exact ⟨hG3.rs, cap_own hG3⟩⟩⟩)
    · repeat' (first | refine Cd.seq ?_ | refine Cd.reg ?_ | refine Ops.nil ?_ | refine Ops.mv rfl rfl rfl rfl ?_ | refine Ops.asg rfl rfl rfl rfl ?_ | refine Ops.nilP rfl rfl rfl rfl ?_ | refine Ops.fa0 rfl rfl rfl rfl ?_ | refine Ops.ld1 rfl rfl rfl rfl rfl ?_ | refine Ops.lenS rfl rfl rfl rfl ?_ | refine Ops.bin rfl rfl rfl rfl rfl ?_ | refine Ops.un rfl rfl rfl rfl ?_ | refine Ops.st1 rfl rfl rfl rfl rfl (noPd rfl) ?_ | refine Cd.condF rfl rfl ?_ | refine Cd.skip (Cd.next ?_) | refine Cd.exit (Cd.next (Q' := fun _ _ _ => True) ?_) | refine Cd.condF rfl (by first | rfl | assumption | (simp only [decide_eq_true_eq, decide_eq_false_iff_not, Bool.not_eq_true', Bool.not_eq_false', Bool.not_eq_eq_eq_not, Bool.not_true, Bool.not_false, beq_iff_eq, beq_eq_false_iff_ne, ne_eq, decide_eq_decide, eq_self, true_iff, iff_true, not_true_eq_false, not_false_eq_true]; first | done | omega)) ?_)
      exact Cd.ret (ret1 (A' := RT m ticks (.slice sa ((lins x l).map LE.row).length sc) ++ (Go ++ G)) rfl (Res.tmp rfl) (fun _ h => h.split) ⟨_, Go, rfl, .inr ⟨rfl, hno2, hO.rs⟩⟩)
end Go.Proofs.Ytlfhimdmhhpcfaa
