import Derived.Test.YtdfimjgbdipnjaaS1
namespace Go.Proofs.Ytdfimjgbdipnjaa
open Go Go.Sep Go.Proofs
set_option maxRecDepth 10000
set_option maxHeartbeats 1000000
set_option linter.unusedSimpArgs false
set_option linter.unusedVariables false

/-- A table's row. -/
structure Dk where
  slot : Int
  life : Int
  session : Int
  last : Int
  reply : ByteArray
@[reducible] def Dk.row (d : Dk) : List Value := [.int .i64 d.slot, .int .i64 d.life, .int .i64 d.session, .int .i64 d.last, .string d.reply]
@[reducible] def Dk.zero (i : Int) : Dk := ⟨i, 0, 0, 0, ⟨#[]⟩⟩
def dks (rs : List Dk) : List (List Value) := rs.map Dk.row
theorem dks_len (rs : List Dk) : (dks rs).length = rs.length := by simp [dks]
theorem dks_ok (rs : List Dk) : RowsOk 5 (dks rs) := fun r hr => by
  obtain ⟨d, _, rfl⟩ := List.mem_map.1 hr
  exact ⟨rfl, rfl⟩
def OwnK (sv : Value) (rs : List Dk) (G : List Blk) : Prop := Own 98 5 sv (dks rs) G
@[reducible] def TabB (n : Nat) (sv : Value) (G : List Blk) : List Blk := (n, cl [sv] 96) :: G
theorem OwnK.form {sv : Value} {rs : List Dk} {G : List Blk} (h : OwnK sv rs G) : ∃ a c, sv = .slice a rs.length c := by
  obtain ⟨a, c, h⟩ := Own.form h
  exact ⟨a, c, by rw [h, dks_len]⟩
theorem OwnK.some_ {sv : Value} {rs : List Dk} {G : List Blk} (h : OwnK sv rs G) (hn : 0 < rs.length) :
    ∃ g c spare, sv = .slice (some ⟨g, 0, none⟩) rs.length c ∧ G = [(g, cl ((dks rs).flatten ++ spare) 98)] ∧ (dks rs).flatten.length + spare.length = c * 5 ∧ rs.length ≤ c := by
  obtain ⟨g, c, spare, h1, h2, h3, h4⟩ := Own.some_ h (by rw [dks_len]; exact hn)
  rw [dks_len] at h1 h4
  exact ⟨g, c, spare, h1, h2, h3, h4⟩

structure NtS where
  i : Nat
  sv : Value
  G : List Blk
def fresh (k : Nat) : List Dk := (List.range k).map fun i : Nat => Dk.zero (i : Int)
theorem fresh_app (k : Nat) {v : Value} {G : List Blk} (h : Own 98 5 v (dks (fresh k) ++ [[.int .i64 (k : Int), .int .i64 0, .int .i64 0, .int .i64 0, .string ⟨#[]⟩]]) G) : ∃ a c, v = .slice a (k + 1) c ∧ OwnK v (fresh (k + 1)) G := by
  have h' : OwnK v (fresh (k + 1)) G := by
    unfold OwnK
    have : dks (fresh (k + 1)) = dks (fresh k) ++ [[.int .i64 (k : Int), .int .i64 0, .int .i64 0, .int .i64 0, .string ⟨#[]⟩]] := by simp [dks, fresh, List.range_succ]
    rw [this]; exact h
  obtain ⟨a, c, e⟩ := h'.form
  exact ⟨a, c, by rw [e]; simp [fresh], h'⟩

theorem newt_no (r : Int) (h : r < 1 ∨ 8 < r) : Con Try.prog 21 #[.int .i64 r] [] fun v A => v = .tuple #[.pointer none, .int .i64 130] ∧ A = [] := by
  refine Con.intro (vs := [_]) Try.func21 rfl Try.ntmps21 rfl (fun B => ?_)
  repeat' (first | refine Cd.seq ?_ | refine Cd.reg ?_ | refine Ops.nil ?_ | refine Ops.mv rfl rfl rfl rfl ?_ | refine Ops.asg rfl rfl rfl rfl ?_ | refine Ops.bin rfl rfl rfl rfl rfl ?_ | refine Ops.pickT rfl rfl rfl rfl rfl ?_ | refine Ops.pickF rfl rfl rfl rfl rfl ?_ | refine Ops.gSkip rfl rfl rfl ?_ | refine Cd.condT rfl rfl ?_ | refine Cd.condT rfl (by first | rfl | assumption | (simp only [decide_eq_true_eq, decide_eq_false_iff_not, Bool.not_eq_true', Bool.not_eq_false', Bool.not_eq_eq_eq_not, Bool.not_true, Bool.not_false, beq_iff_eq, beq_eq_false_iff_ne, ne_eq, decide_eq_decide, eq_self, true_iff, iff_true, not_true_eq_false, not_false_eq_true]; first | done | omega)) ?_ | ((fail_if_success refine Ops.probe rfl ?_); refine Ops.gSplit rfl rfl (fun hc => ?_) (fun hc => ?_) <;> (try simp only [decide_eq_true_eq, decide_eq_false_iff_not, Bool.not_eq_true', Bool.not_eq_false', Bool.not_eq_eq_eq_not, Bool.not_true, Bool.not_false, Int.not_lt, Int.not_le] at hc)))
  all_goals exact Cd.ret (ret2 rfl (Res.tmp rfl) (Res.tmp rfl) (fun _ h => h) ⟨rfl, rfl⟩)
theorem newt_yes (r : Nat) (h1 : 1 ≤ r) (h2 : r ≤ 8) : Con Try.prog 21 #[.int .i64 r] [] fun v A => ∃ b sv G, v = .tuple #[ptr b, .int .i64 0] ∧ A = TabB b sv G ∧ OwnK sv (fresh r) G := by
  refine Con.intro (vs := [_]) Try.func21 rfl Try.ntmps21 rfl (fun B => ?_)
  repeat' (first | refine Cd.seq ?_ | refine Cd.reg ?_ | refine Ops.nil ?_ | refine Ops.mv rfl rfl rfl rfl ?_ | refine Ops.asg rfl rfl rfl rfl ?_ | refine Ops.bin rfl rfl rfl rfl rfl ?_ | refine Ops.pickF rfl rfl rfl rfl rfl ?_ | refine Ops.bld rfl rfl rfl rfl ?_ | refine Ops.box rfl rfl rfl rfl (noPd rfl) (fun b => ?_) | refine Cd.block ?_ | refine Cd.skip (Cd.next ?_) | refine Cd.condF rfl (by first | rfl | assumption | (simp only [decide_eq_true_eq, decide_eq_false_iff_not, Bool.not_eq_true', Bool.not_eq_false', Bool.not_eq_eq_eq_not, Bool.not_true, Bool.not_false, beq_iff_eq, beq_eq_false_iff_ne, ne_eq, decide_eq_decide, eq_self, true_iff, iff_true, not_true_eq_false, not_false_eq_true]; first | done | omega)) ?_ | ((fail_if_success refine Ops.probe rfl ?_); refine Ops.gF rfl rfl (by first | rfl | assumption | (simp only [decide_eq_true_eq, decide_eq_false_iff_not, Bool.not_eq_true', Bool.not_eq_false', Bool.not_eq_eq_eq_not, Bool.not_true, Bool.not_false, beq_iff_eq, beq_eq_false_iff_ne, ne_eq, decide_eq_decide, eq_self, true_iff, iff_true, not_true_eq_false, not_false_eq_true]; first | done | omega)) ?_))
  rename Nat => tb
  refine Cd.loopK (fun s : NtS => s.i ≤ r ∧ OwnK s.sv (fresh s.i) s.G) (fun s => [(4, ptr tb), (14, .int .i64 r), (15, .int .i64 s.i)]) (fun s => TabB tb s.sv s.G) (fun s => r - s.i) ⟨0, .slice none 0 0, []⟩ ⟨Nat.zero_le _, (Own.none : OwnK _ [] _)⟩ ⟨rfl, rfl, rfl, trivial⟩
    (fun w h => (h.split : Sat _ (TabB tb (.slice none 0 0) []) w)) (fun s hI => ?_)
  obtain ⟨i, sv, G⟩ := s
  obtain ⟨hi, hO⟩ := hI
  dsimp only at hi hO ⊢
  by_cases hil : i < r
  · repeat' (first | refine Cd.seq ?_ | refine Cd.reg ?_ | refine Ops.mv rfl rfl rfl rfl ?_ | refine Ops.asg rfl rfl rfl rfl ?_ | refine Ops.nilP rfl rfl rfl rfl ?_ | refine Ops.fa0 rfl rfl rfl rfl ?_ | refine Ops.ld1 rfl rfl rfl rfl rfl ?_ | refine Ops.bin rfl rfl rfl rfl rfl ?_ | refine Ops.bld rfl rfl rfl rfl ?_ | refine Ops.bs1 rfl rfl rfl rfl rfl rfl rfl (noPd rfl) (fun b => ?_) | refine Cd.block ?_ | refine Cd.skip (Cd.next ?_) | refine Cd.condT rfl (by first | rfl | assumption | (simp only [decide_eq_true_eq, decide_eq_false_iff_not, Bool.not_eq_true', Bool.not_eq_false', Bool.not_eq_eq_eq_not, Bool.not_true, Bool.not_false, beq_iff_eq, beq_eq_false_iff_ne, ne_eq, decide_eq_decide, eq_self, true_iff, iff_true, not_true_eq_false, not_false_eq_true]; first | done | omega)) ?_)
    refine Ops.app1 (rows := dks (fresh i)) hO (by rw [dks_len]; simp [fresh]; omega) (by rw [dks_len]; simp [fresh]; omega) rfl rfl rfl rfl (by rfl) (by rfl) rfl (noPd rfl) rfl (fun v G' hG' => ?_)
    obtain ⟨a, c, rfl, hG'⟩ := fresh_app i hG'
    repeat' (first | refine Cd.reg ?_ | refine Ops.mv rfl rfl rfl rfl ?_ | refine Ops.nilP rfl rfl rfl rfl ?_ | refine Ops.fa0 rfl rfl rfl rfl ?_ | refine Ops.addI rfl rfl rfl rfl (by omega) (by omega) rfl ?_ | refine Ops.st1 rfl rfl rfl rfl rfl (noPd rfl) ?_)
    exact Ops.nilN (round_end (⟨i + 1, _, G'⟩ : NtS) ⟨by show i + 1 ≤ r; omega, hG'⟩ (by show r - (i + 1) < r - i; omega) ⟨rfl, rfl, rfl, trivial⟩ (fun w h => (h.split : Sat _ (TabB tb (.slice a (i + 1) c) G') w)))
  · obtain rfl : i = r := by omega
    repeat' (first | refine Cd.seq ?_ | refine Cd.reg ?_ | refine Ops.nil ?_ | refine Ops.mv rfl rfl rfl rfl ?_ | refine Ops.asg rfl rfl rfl rfl ?_ | refine Ops.bin rfl rfl rfl rfl rfl ?_ | refine Cd.exit (Cd.next (Q' := fun _ _ _ => True) ?_) | refine Cd.condF rfl (by first | rfl | assumption | (simp only [decide_eq_true_eq, decide_eq_false_iff_not, Bool.not_eq_true', Bool.not_eq_false', Bool.not_eq_eq_eq_not, Bool.not_true, Bool.not_false, beq_iff_eq, beq_eq_false_iff_ne, ne_eq, decide_eq_decide, eq_self, true_iff, iff_true, not_true_eq_false, not_false_eq_true]; first | done | omega)) ?_)
    exact Cd.ret (ret2 rfl (Res.tmp rfl) (Res.tmp rfl) (fun _ h => h) ⟨_, _, _, rfl, rfl, hO⟩)

def hasB (slot : Int) (k : Nat) : Bool := decide (0 ≤ slot ∧ slot < k)
theorem has_spec (n : Nat) (sv : Value) (rs : List Dk) (G : List Blk) (slot : Int) (hO : OwnK sv rs G) : Con Try.prog 43 #[ptr n, .int .i64 slot] (TabB n sv G) fun v A => v = .bool (hasB slot rs.length) ∧ A = TabB n sv G := by
  obtain ⟨a, c, rfl⟩ := hO.form
  refine Con.intro (vs := [_, _]) Try.func43 rfl Try.ntmps43 rfl (fun B => ?_)
  repeat' (first | refine Cd.seq ?_ | refine Cd.reg ?_ | refine Ops.nil ?_ | refine Ops.mv rfl rfl rfl rfl ?_ | refine Ops.asg rfl rfl rfl rfl ?_ | refine Ops.nilP rfl rfl rfl rfl ?_ | refine Ops.fa0 rfl rfl rfl rfl ?_ | refine Ops.ld1 rfl rfl rfl rfl rfl ?_ | refine Ops.lenS rfl rfl rfl rfl ?_ | refine Ops.bin rfl rfl rfl rfl rfl ?_ | refine Ops.pickT rfl rfl rfl rfl rfl ?_ | refine Ops.pickF rfl rfl rfl rfl rfl ?_ | refine Ops.gSkip rfl rfl rfl ?_ | ((fail_if_success refine Ops.probe rfl ?_); refine Ops.gSplit rfl rfl (fun hc => ?_) (fun hc => ?_) <;> (try simp only [decide_eq_true_eq, decide_eq_false_iff_not, Bool.not_eq_true', Bool.not_eq_false', Bool.not_eq_eq_eq_not, Bool.not_true, Bool.not_false, Int.not_lt, Int.not_le] at hc)))
  all_goals refine Cd.ret (ret1 rfl (Res.tmp rfl) (fun _ h => h) ⟨?_, rfl⟩)
  all_goals (unfold hasB; refine congrArg Value.bool ?_; first | (simp only [decide_eq_decide]; omega) | (symm; simp only [decide_eq_true_eq, decide_eq_false_iff_not]; omega))
def cntB (n : Int) : Bool := decide (1 ≤ n ∧ n ≤ 1099511627776)
theorem counts_spec (x : Int) : Con Try.prog 44 #[.int .i64 x] [] fun v A => v = .bool (cntB x) ∧ A = [] := by
  refine Con.intro (vs := [_]) Try.func44 rfl Try.ntmps44 rfl (fun B => ?_)
  repeat' (first | refine Cd.seq ?_ | refine Cd.reg ?_ | refine Ops.nil ?_ | refine Ops.mv rfl rfl rfl rfl ?_ | refine Ops.asg rfl rfl rfl rfl ?_ | refine Ops.bin rfl rfl rfl rfl rfl ?_ | refine Ops.pickT rfl rfl rfl rfl rfl ?_ | refine Ops.pickF rfl rfl rfl rfl rfl ?_ | refine Ops.gSkip rfl rfl rfl ?_ | ((fail_if_success refine Ops.probe rfl ?_); refine Ops.gSplit rfl rfl (fun hc => ?_) (fun hc => ?_) <;> (try simp only [decide_eq_true_eq, decide_eq_false_iff_not, Bool.not_eq_true', Bool.not_eq_false', Bool.not_eq_eq_eq_not, Bool.not_true, Bool.not_false, Int.not_lt, Int.not_le] at hc)))
  all_goals refine Cd.ret (ret1 rfl (Res.tmp rfl) (fun _ h => h) ⟨?_, rfl⟩)
  all_goals (unfold cntB; refine congrArg Value.bool ?_; first | (simp only [decide_eq_decide]; omega) | (symm; simp only [decide_eq_true_eq, decide_eq_false_iff_not]; omega))
end Go.Proofs.Ytdfimjgbdipnjaa
