import Derived.Test.YtdfimjgbdipnjaaS9
import Derived.Test.YtdfimjgbdipnjaaSep14
import Derived.Test.YtdfimjgbdipnjaaSep12
import Derived.Test.YtdfimjgbdipnjaaSep13
import Derived.Test.YtdfimjgbdipnjaaSep10
namespace Go.Proofs.Ytdfimjgbdipnjaa
open Go Go.Sep Go.Proofs
set_option maxRecDepth 10000
set_option maxHeartbeats 1000000
set_option linter.unusedSimpArgs false
set_option linter.unusedVariables false

def openC (o : Option Dk) (life session : Int) : Int := match o with
  | none => 130
  | some r => if cntB life = true ∧ cntB session = true ∧ r.life ≤ life then 0 else 132
def answerC (o : Option Dk) : Int := match o with
  | none => 130
  | some r => if r.life ≠ 0 ∧ r.last ≠ 1099511627776 then 0 else 132

theorem open_code (n : Nat) (sv : Value) (rs : List Dk) (G : List Blk) (slot life session : Int) (hO : OwnK sv rs G) : Con Try.prog 22 #[ptr n, .int .i64 slot, .int .i64 life, .int .i64 session] (TabB n sv G) fun v A => v = .int .i64 (openC (rowAt rs slot) life session) ∧ ∃ G', A = TabB n sv G' ∧ OwnK sv (putRow rs slot (openV (rowAt rs slot) slot life session)) G' := by
  cases h : rowAt rs slot with
  | none => exact (open_nohas n sv rs G slot life session hO (rowAt_none h)).mono fun v A ⟨e, h⟩ => ⟨e, G, h, hO⟩
  | some r =>
    obtain ⟨hh, hr⟩ := rowAt_some h
    unfold openV openC
    dsimp only
    by_cases hc : cntB life = true
    · by_cases hd : cntB session = true
      · by_cases h1 : r.life ≤ life
        · rw [if_pos ⟨hc, hd, h1⟩, if_pos ⟨hc, hd, h1⟩]; exact (open_ok n sv rs G slot life session r hO hh hc hd hr h1).mono fun v A ⟨e, h⟩ => ⟨e, h⟩
        · rw [if_neg (by simp [h1]), if_neg (by simp [h1])]; exact (open_old n sv rs G slot life session r hO hh hc hd hr (by omega)).mono fun v A ⟨e, h⟩ => ⟨e, G, h, hO⟩
      · rw [if_neg (by simp [hd]), if_neg (by simp [hd])]; exact (open_nosess n sv rs G slot life session hO hh hc (by simpa using hd)).mono fun v A ⟨e, h⟩ => ⟨e, G, h, hO⟩
    · rw [if_neg (by simp [hc]), if_neg (by simp [hc])]; exact (open_nolife n sv rs G slot life session hO hh (by simpa using hc)).mono fun v A ⟨e, h⟩ => ⟨e, G, h, hO⟩

theorem answer_code (n : Nat) (sv : Value) (rs : List Dk) (G : List Blk) (slot : Int) (reply : ByteArray) (hO : OwnK sv rs G) (hI : RowsI rs) : Con Try.prog 23 #[ptr n, .int .i64 slot, .string reply] (TabB n sv G) fun v A => v = .int .i64 (answerC (rowAt rs slot)) ∧ ∃ G', A = TabB n sv G' ∧ OwnK sv (putRow rs slot (answerV (rowAt rs slot) reply)) G' := by
  cases h : rowAt rs slot with
  | none => exact (answer_nohas n sv rs G slot reply hO (rowAt_none h)).mono fun v A ⟨e, h⟩ => ⟨e, G, h, hO⟩
  | some r =>
    obtain ⟨hh, hr⟩ := rowAt_some h
    obtain ⟨hb0, hb1⟩ := hI r (List.mem_of_getElem? hr)
    unfold answerV answerC
    dsimp only
    by_cases h1 : r.life ≠ 0 ∧ r.last ≠ 1099511627776
    · rw [if_pos h1, if_pos h1]; exact (answer_ok n sv rs G slot reply r hO hh hr hb0 hb1 h1.1 h1.2).mono fun v A ⟨e, h⟩ => ⟨e, h⟩
    · rw [if_neg h1, if_neg h1]; exact (answer_none n sv rs G slot reply r hO hh hr (by omega)).mono fun v A ⟨e, h⟩ => ⟨e, G, h, hO⟩

/-! The document's table. -/
@[reducible] def TabR (n : Nat) (sv : Value) (G : List Blk) : List Blk := (n, cl [sv] 105) :: G

theorem rnewt_no (r : Int) (h : r < 1 ∨ 8 < r) : Con Try.prog 27 #[.int .i64 r] [] fun v A => v = .tuple #[.pointer none, .int .i64 130] ∧ A = [] := by
  refine Con.intro (vs := [_]) Try.func27 rfl Try.ntmps27 rfl (fun B => ?_)
  repeat' (first | refine Cd.seq ?_ | refine Cd.reg ?_ | refine Ops.nil ?_ | refine Ops.mv rfl rfl rfl rfl ?_ | refine Ops.asg rfl rfl rfl rfl ?_ | refine Ops.bin rfl rfl rfl rfl rfl ?_ | refine Ops.pickT rfl rfl rfl rfl rfl ?_ | refine Ops.pickF rfl rfl rfl rfl rfl ?_ | refine Ops.gSkip rfl rfl rfl ?_ | refine Cd.condT rfl rfl ?_ | refine Cd.condT rfl (by first | rfl | assumption | (simp only [decide_eq_true_eq, decide_eq_false_iff_not, Bool.not_eq_true', Bool.not_eq_false', Bool.not_eq_eq_eq_not, Bool.not_true, Bool.not_false, beq_iff_eq, beq_eq_false_iff_ne, ne_eq, decide_eq_decide, eq_self, true_iff, iff_true, not_true_eq_false, not_false_eq_true]; first | done | omega)) ?_ | ((fail_if_success refine Ops.probe rfl ?_); refine Ops.gSplit rfl rfl (fun hc => ?_) (fun hc => ?_) <;> (try simp only [decide_eq_true_eq, decide_eq_false_iff_not, Bool.not_eq_true', Bool.not_eq_false', Bool.not_eq_eq_eq_not, Bool.not_true, Bool.not_false, Int.not_lt, Int.not_le] at hc)))
  all_goals exact Cd.ret (ret2 rfl (Res.tmp rfl) (Res.tmp rfl) (fun _ h => h) ⟨rfl, rfl⟩)
theorem rnewt_yes (r : Nat) (h1 : 1 ≤ r) (h2 : r ≤ 8) : Con Try.prog 27 #[.int .i64 r] [] fun v A => ∃ b sv G, v = .tuple #[ptr b, .int .i64 0] ∧ A = TabR b sv G ∧ OwnK sv (fresh r) G := by
  refine Con.intro (vs := [_]) Try.func27 rfl Try.ntmps27 rfl (fun B => ?_)
  repeat' (first | refine Cd.seq ?_ | refine Cd.reg ?_ | refine Ops.nil ?_ | refine Ops.mv rfl rfl rfl rfl ?_ | refine Ops.asg rfl rfl rfl rfl ?_ | refine Ops.bin rfl rfl rfl rfl rfl ?_ | refine Ops.pickF rfl rfl rfl rfl rfl ?_ | refine Ops.bld rfl rfl rfl rfl ?_ | refine Ops.box rfl rfl rfl rfl (noPd rfl) (fun b => ?_) | refine Cd.block ?_ | refine Cd.skip (Cd.next ?_) | refine Cd.condF rfl (by first | rfl | assumption | (simp only [decide_eq_true_eq, decide_eq_false_iff_not, Bool.not_eq_true', Bool.not_eq_false', Bool.not_eq_eq_eq_not, Bool.not_true, Bool.not_false, beq_iff_eq, beq_eq_false_iff_ne, ne_eq, decide_eq_decide, eq_self, true_iff, iff_true, not_true_eq_false, not_false_eq_true]; first | done | omega)) ?_ | ((fail_if_success refine Ops.probe rfl ?_); refine Ops.gF rfl rfl (by first | rfl | assumption | (simp only [decide_eq_true_eq, decide_eq_false_iff_not, Bool.not_eq_true', Bool.not_eq_false', Bool.not_eq_eq_eq_not, Bool.not_true, Bool.not_false, beq_iff_eq, beq_eq_false_iff_ne, ne_eq, decide_eq_decide, eq_self, true_iff, iff_true, not_true_eq_false, not_false_eq_true]; first | done | omega)) ?_))
  rename Nat => tb
  refine Cd.loopK (fun s : NtS => s.i ≤ r ∧ OwnK s.sv (fresh s.i) s.G) (fun s => [(0, .int .i64 r), (4, ptr tb), (5, .int .i64 s.i)]) (fun s => TabR tb s.sv s.G) (fun s => r - s.i) ⟨0, .slice none 0 0, []⟩ ⟨Nat.zero_le _, (Own.none : OwnK _ [] _)⟩ ⟨rfl, rfl, rfl, trivial⟩
    (fun w h => (h.split : Sat _ (TabR tb (.slice none 0 0) []) w)) (fun s hI => ?_)
  obtain ⟨i, sv, G⟩ := s
  obtain ⟨hi, hO⟩ := hI
  dsimp only at hi hO ⊢
  by_cases hil : i < r
  · repeat' (first | refine Cd.seq ?_ | refine Cd.reg ?_ | refine Ops.nil ?_ | refine Ops.mv rfl rfl rfl rfl ?_ | refine Ops.nilP rfl rfl rfl rfl ?_ | refine Ops.fa0 rfl rfl rfl rfl ?_ | refine Ops.ld1 rfl rfl rfl rfl rfl ?_ | refine Ops.bin rfl rfl rfl rfl rfl ?_ | refine Ops.bld rfl rfl rfl rfl ?_ | refine Ops.bs1 rfl rfl rfl rfl rfl rfl rfl (noPd rfl) (fun b => ?_) | refine Cd.block ?_ | refine Cd.skip (Cd.next ?_) | refine Cd.condT rfl (by first | rfl | assumption | (simp only [decide_eq_true_eq, decide_eq_false_iff_not, Bool.not_eq_true', Bool.not_eq_false', Bool.not_eq_eq_eq_not, Bool.not_true, Bool.not_false, beq_iff_eq, beq_eq_false_iff_ne, ne_eq, decide_eq_decide, eq_self, true_iff, iff_true, not_true_eq_false, not_false_eq_true]; first | done | omega)) ?_)
    refine Ops.app1 (rows := dks (fresh i)) hO (by rw [dks_len]; simp [fresh]; omega) (by rw [dks_len]; simp [fresh]; omega) rfl rfl rfl rfl (by rfl) (by rfl) rfl (noPd rfl) rfl (fun v G' hG' => ?_)
    obtain ⟨a, c, rfl, hG'⟩ := fresh_app i hG'
    repeat' (first | refine Cd.reg ?_ | refine Ops.mv rfl rfl rfl rfl ?_ | refine Ops.asg rfl rfl rfl rfl ?_ | refine Ops.nilP rfl rfl rfl rfl ?_ | refine Ops.fa0 rfl rfl rfl rfl ?_ | refine Ops.addI rfl rfl rfl rfl (by omega) (by omega) rfl ?_ | refine Ops.st1 rfl rfl rfl rfl rfl (noPd rfl) ?_)
    exact Ops.nilN (round_end (⟨i + 1, _, G'⟩ : NtS) ⟨by show i + 1 ≤ r; omega, hG'⟩ (by show r - (i + 1) < r - i; omega) ⟨rfl, rfl, rfl, trivial⟩ (fun w h => (h.split : Sat _ (TabR tb (.slice a (i + 1) c) G') w)))
  · obtain rfl : i = r := by omega
    repeat' (first | refine Cd.seq ?_ | refine Cd.reg ?_ | refine Ops.nil ?_ | refine Ops.mv rfl rfl rfl rfl ?_ | refine Ops.asg rfl rfl rfl rfl ?_ | refine Ops.bin rfl rfl rfl rfl rfl ?_ | refine Cd.exit (Cd.next (Q' := fun _ _ _ => True) ?_) | refine Cd.condF rfl (by first | rfl | assumption | (simp only [decide_eq_true_eq, decide_eq_false_iff_not, Bool.not_eq_true', Bool.not_eq_false', Bool.not_eq_eq_eq_not, Bool.not_true, Bool.not_false, beq_iff_eq, beq_eq_false_iff_ne, ne_eq, decide_eq_decide, eq_self, true_iff, iff_true, not_true_eq_false, not_false_eq_true]; first | done | omega)) ?_)
    exact Cd.ret (ret2 rfl (Res.tmp rfl) (Res.tmp rfl) (fun _ h => h) ⟨_, _, _, rfl, rfl, hO⟩)

theorem there_spec (n : Nat) (sv : Value) (rs : List Dk) (G : List Blk) (slot : Int) (hO : OwnK sv rs G) : Con Try.prog 62 #[ptr n, .int .i64 slot] (TabR n sv G) fun v A => v = .bool (hasB slot rs.length) ∧ A = TabR n sv G := by
  obtain ⟨a, c, rfl⟩ := hO.form
  refine Con.intro (vs := [_, _]) Try.func62 rfl Try.ntmps62 rfl (fun B => ?_)
  repeat' (first | refine Cd.seq ?_ | refine Cd.reg ?_ | refine Ops.nil ?_ | refine Ops.mv rfl rfl rfl rfl ?_ | refine Ops.asg rfl rfl rfl rfl ?_ | refine Ops.nilP rfl rfl rfl rfl ?_ | refine Ops.fa0 rfl rfl rfl rfl ?_ | refine Ops.ld1 rfl rfl rfl rfl rfl ?_ | refine Ops.lenS rfl rfl rfl rfl ?_ | refine Ops.bin rfl rfl rfl rfl rfl ?_ | refine Ops.pickT rfl rfl rfl rfl rfl ?_ | refine Ops.pickF rfl rfl rfl rfl rfl ?_ | refine Ops.gSkip rfl rfl rfl ?_ | ((fail_if_success refine Ops.probe rfl ?_); refine Ops.gSplit rfl rfl (fun hc => ?_) (fun hc => ?_) <;> (try simp only [decide_eq_true_eq, decide_eq_false_iff_not, Bool.not_eq_true', Bool.not_eq_false', Bool.not_eq_eq_eq_not, Bool.not_true, Bool.not_false, Int.not_lt, Int.not_le] at hc)))
  all_goals refine Cd.ret (ret1 rfl (Res.tmp rfl) (fun _ h => h) ⟨?_, rfl⟩)
  all_goals (unfold hasB; refine congrArg Value.bool ?_; first | (simp only [decide_eq_decide]; omega) | (symm; simp only [decide_eq_true_eq, decide_eq_false_iff_not]; omega))

theorem rhello_fun (n : Nat) (sv : Value) (rs : List Dk) (G : List Blk) (slot life : Int) (hO : OwnK sv rs G) : Con Try.prog 50 #[ptr n, .int .i64 slot, .int .i64 life] (TabR n sv G) fun v A => v = .tuple #[.int .i64 (helloV (rowAt rs slot) life).1, .int .i64 (helloV (rowAt rs slot) life).2] ∧ A = TabR n sv G := by
  cases h : rowAt rs slot with
  | none =>
    have hh := rowAt_none h
    refine Con.intro (vs := [_, _, _]) Try.func50 rfl Try.ntmps50 rfl (fun B => ?_)
    repeat' (first | refine Cd.seq ?_ | refine Cd.reg ?_ | refine Ops.mv rfl rfl rfl rfl ?_ | refine Ops.asg rfl rfl rfl rfl ?_)
    refine Ops.call (there_spec n sv rs G slot hO) rfl (noPd rfl) rfl rfl rfl (fun v A' hR => ?_)
    obtain ⟨rfl, rfl⟩ := hR
    rw [hh]
    repeat' (first | refine Cd.seq ?_ | refine Cd.reg ?_ | refine Ops.nil ?_ | refine Ops.mv rfl rfl rfl rfl ?_ | refine Ops.asg rfl rfl rfl rfl ?_ | refine Ops.un rfl rfl rfl rfl ?_ | refine Ops.pickT rfl rfl rfl rfl rfl ?_ | refine Ops.gSkip rfl rfl rfl ?_ | refine Cd.condT rfl rfl ?_)
    exact Cd.ret (ret2 rfl (Res.tmp rfl) (Res.tmp rfl) (fun _ h => h.split) ⟨rfl, rfl⟩)
  | some r =>
    obtain ⟨hh, hr⟩ := rowAt_some h
    have hO0 := hO
    obtain ⟨h0, h1⟩ : 0 ≤ slot ∧ slot < rs.length := by simpa [hasB] using hh
    obtain ⟨g, c, spare, rfl, rfl, hsp, hle⟩ := hO.some_ (by omega)
    have hok := dks_ok rs
    have hx : (dks rs)[slot.toNat]? = some [.int .i64 r.slot, .int .i64 r.life, .int .i64 r.session, .int .i64 r.last, .string r.reply] := by simp [dks, hr]
    refine Con.intro (vs := [_, _, _]) Try.func50 rfl Try.ntmps50 rfl (fun B => ?_)
    repeat' (first | refine Cd.seq ?_ | refine Cd.reg ?_ | refine Ops.mv rfl rfl rfl rfl ?_ | refine Ops.asg rfl rfl rfl rfl ?_)
    refine Ops.call (there_spec n _ rs _ slot hO0) rfl (noPd rfl) rfl rfl rfl (fun v A' hR => ?_)
    obtain ⟨rfl, rfl⟩ := hR
    rw [hh]
    by_cases hc : cntB life = true
    · have hc' : 1 ≤ life ∧ life ≤ 1099511627776 := by simpa [cntB] using hc
      unfold helloV
      dsimp only
      rw [if_pos hc]
      by_cases h1 : life < r.life
      · rw [if_pos h1]
        repeat' (first | refine Cd.seq ?_ | refine Cd.reg ?_ | refine Ops.nil ?_ | refine Ops.mv rfl rfl rfl rfl ?_ | refine Ops.asg rfl rfl rfl rfl ?_ | refine Ops.nilP rfl rfl rfl rfl ?_ | refine Ops.fa0 rfl rfl rfl rfl ?_ | refine Ops.fa rfl rfl rfl rfl ?_ | refine Ops.ld1 rfl rfl rfl rfl rfl ?_ | refine Ops.bin rfl rfl rfl rfl rfl ?_ | refine Ops.un rfl rfl rfl rfl ?_ | refine Ops.pickF rfl rfl rfl rfl rfl ?_ | refine Ops.ixa0 rfl rfl rfl rfl (by omega) (by omega) rfl ?_ | refine Ops.ldRow1 rfl rfl rfl (by assumption) (by assumption) rfl rfl ?_ | refine Cd.condT rfl (by first | rfl | assumption | (simp only [decide_eq_true_eq, decide_eq_false_iff_not, Bool.not_eq_true', Bool.not_eq_false', Bool.not_eq_eq_eq_not, Bool.not_true, Bool.not_false, beq_iff_eq, beq_eq_false_iff_ne, ne_eq, decide_eq_decide, eq_self, true_iff, iff_true, not_true_eq_false, not_false_eq_true]; first | done | omega)) ?_ | ((fail_if_success refine Ops.probe rfl ?_); refine Ops.gF rfl rfl (by first | rfl | assumption | (simp only [decide_eq_true_eq, decide_eq_false_iff_not, Bool.not_eq_true', Bool.not_eq_false', Bool.not_eq_eq_eq_not, Bool.not_true, Bool.not_false, beq_iff_eq, beq_eq_false_iff_ne, ne_eq, decide_eq_decide, eq_self, true_iff, iff_true, not_true_eq_false, not_false_eq_true]; first | done | omega)) ?_))
        exact Cd.ret (ret2 rfl (Res.tmp rfl) (Res.tmp rfl) (fun _ h => h.split) ⟨rfl, rfl⟩)
      · rw [if_neg h1]
        by_cases h2 : r.life = life
        · rw [if_pos h2]
          repeat' (first | refine Cd.seq ?_ | refine Cd.reg ?_ | refine Ops.nil ?_ | refine Ops.mv rfl rfl rfl rfl ?_ | refine Ops.nilP rfl rfl rfl rfl ?_ | refine Ops.fa0 rfl rfl rfl rfl ?_ | refine Ops.fa rfl rfl rfl rfl ?_ | refine Ops.ld1 rfl rfl rfl rfl rfl ?_ | refine Ops.bin rfl rfl rfl rfl rfl ?_ | refine Ops.un rfl rfl rfl rfl ?_ | refine Ops.pickF rfl rfl rfl rfl rfl ?_ | refine Cd.skip (Cd.next ?_) | refine Ops.ixa0 rfl rfl rfl rfl (by omega) (by omega) rfl ?_ | refine Ops.ldRow1 rfl rfl rfl (by assumption) (by assumption) rfl rfl ?_ | refine Cd.condT rfl (by first | rfl | assumption | (simp only [decide_eq_true_eq, decide_eq_false_iff_not, Bool.not_eq_true', Bool.not_eq_false', Bool.not_eq_eq_eq_not, Bool.not_true, Bool.not_false, beq_iff_eq, beq_eq_false_iff_ne, ne_eq, decide_eq_decide, eq_self, true_iff, iff_true, not_true_eq_false, not_false_eq_true]; first | done | omega)) ?_ | refine Cd.condF rfl (by first | rfl | assumption | (simp only [decide_eq_true_eq, decide_eq_false_iff_not, Bool.not_eq_true', Bool.not_eq_false', Bool.not_eq_eq_eq_not, Bool.not_true, Bool.not_false, beq_iff_eq, beq_eq_false_iff_ne, ne_eq, decide_eq_decide, eq_self, true_iff, iff_true, not_true_eq_false, not_false_eq_true]; first | done | omega)) ?_ | ((fail_if_success refine Ops.probe rfl ?_); refine Ops.gF rfl rfl (by first | rfl | assumption | (simp only [decide_eq_true_eq, decide_eq_false_iff_not, Bool.not_eq_true', Bool.not_eq_false', Bool.not_eq_eq_eq_not, Bool.not_true, Bool.not_false, beq_iff_eq, beq_eq_false_iff_ne, ne_eq, decide_eq_decide, eq_self, true_iff, iff_true, not_true_eq_false, not_false_eq_true]; first | done | omega)) ?_))
          refine Cd.draw [(0, 0, []), (1, 0, []), (2, 0, []), (3, 1, []), (4, 0, []), (5, 0, []), (6, 0, []), (7, 1, []), (8, 0, []), (9, 0, [])] (by kernel_rfl) (by kernel_rfl) (by simp only [picked, nth]; exact rfl) ?_
          repeat' (first | refine Ops.nil ?_ | refine Ops.mv rfl rfl rfl rfl ?_ | refine Ops.asg rfl rfl rfl rfl ?_ | refine Ops.nilP rfl rfl rfl rfl ?_ | refine Ops.fa0 rfl rfl rfl rfl ?_ | refine Ops.fa rfl rfl rfl rfl ?_ | refine Ops.ld1 rfl rfl rfl rfl rfl ?_ | refine Ops.ixa0 rfl rfl rfl rfl (by omega) (by omega) rfl ?_ | refine Ops.ldRow1 rfl rfl rfl (by assumption) (by assumption) rfl rfl ?_)
          exact Cd.ret (ret2 rfl (Res.tmp rfl) (Res.tmp rfl) (fun _ h => h.split) ⟨rfl, rfl⟩)
        · rw [if_neg h2]
          repeat' (first | refine Cd.seq ?_ | refine Cd.reg ?_ | refine Ops.nil ?_ | refine Ops.mv rfl rfl rfl rfl ?_ | refine Ops.asg rfl rfl rfl rfl ?_ | refine Ops.nilP rfl rfl rfl rfl ?_ | refine Ops.fa0 rfl rfl rfl rfl ?_ | refine Ops.fa rfl rfl rfl rfl ?_ | refine Ops.ld1 rfl rfl rfl rfl rfl ?_ | refine Ops.bin rfl rfl rfl rfl rfl ?_ | refine Ops.un rfl rfl rfl rfl ?_ | refine Ops.pickF rfl rfl rfl rfl rfl ?_ | refine Cd.skip (Cd.next ?_) | refine Ops.ixa0 rfl rfl rfl rfl (by omega) (by omega) rfl ?_ | refine Ops.ldRow1 rfl rfl rfl (by assumption) (by assumption) rfl rfl ?_ | refine Cd.condF rfl (by first | rfl | assumption | (simp only [decide_eq_true_eq, decide_eq_false_iff_not, Bool.not_eq_true', Bool.not_eq_false', Bool.not_eq_eq_eq_not, Bool.not_true, Bool.not_false, beq_iff_eq, beq_eq_false_iff_ne, ne_eq, decide_eq_decide, eq_self, true_iff, iff_true, not_true_eq_false, not_false_eq_true]; first | done | omega)) ?_ | ((fail_if_success refine Ops.probe rfl ?_); refine Ops.gF rfl rfl (by first | rfl | assumption | (simp only [decide_eq_true_eq, decide_eq_false_iff_not, Bool.not_eq_true', Bool.not_eq_false', Bool.not_eq_eq_eq_not, Bool.not_true, Bool.not_false, beq_iff_eq, beq_eq_false_iff_ne, ne_eq, decide_eq_decide, eq_self, true_iff, iff_true, not_true_eq_false, not_false_eq_true]; first | done | omega)) ?_))
          exact Cd.ret (ret2 rfl (Res.tmp rfl) (Res.tmp rfl) (fun _ h => h.split) ⟨rfl, rfl⟩)
    · have hc' : ¬ (1 ≤ life ∧ life ≤ 1099511627776) := by simpa [cntB] using hc
      unfold helloV
      dsimp only
      rw [if_neg hc]
      repeat' (first | refine Cd.seq ?_ | refine Cd.reg ?_ | refine Ops.nil ?_ | refine Ops.mv rfl rfl rfl rfl ?_ | refine Ops.asg rfl rfl rfl rfl ?_ | refine Ops.bin rfl rfl rfl rfl rfl ?_ | refine Ops.un rfl rfl rfl rfl ?_ | refine Ops.pickT rfl rfl rfl rfl rfl ?_ | refine Ops.pickF rfl rfl rfl rfl rfl ?_ | refine Ops.gSkip rfl rfl rfl ?_ | refine Cd.condT rfl rfl ?_ | ((fail_if_success refine Ops.probe rfl ?_); refine Ops.gT rfl rfl (by first | rfl | assumption | (simp only [decide_eq_true_eq, decide_eq_false_iff_not, Bool.not_eq_true', Bool.not_eq_false', Bool.not_eq_eq_eq_not, Bool.not_true, Bool.not_false, beq_iff_eq, beq_eq_false_iff_ne, ne_eq, decide_eq_decide, eq_self, true_iff, iff_true, not_true_eq_false, not_false_eq_true]; first | done | omega)) ?_) | ((fail_if_success refine Ops.probe rfl ?_); refine Ops.gSplit rfl rfl (fun hc => ?_) (fun hc => ?_) <;> (try simp only [decide_eq_true_eq, decide_eq_false_iff_not, Bool.not_eq_true', Bool.not_eq_false', Bool.not_eq_eq_eq_not, Bool.not_true, Bool.not_false, Int.not_lt, Int.not_le] at hc)))
      all_goals first | exact Cd.ret (ret2 rfl (Res.tmp rfl) (Res.tmp rfl) (fun _ h => h.split) ⟨rfl, rfl⟩) | (exfalso; omega)

theorem ropen_fun (n : Nat) (sv : Value) (rs : List Dk) (G : List Blk) (slot life session : Int) (hO : OwnK sv rs G) : Con Try.prog 51 #[ptr n, .int .i64 slot, .int .i64 life, .int .i64 session] (TabR n sv G) fun v A => v = .int .i64 (openC (rowAt rs slot) life session) ∧ ∃ G', A = TabR n sv G' ∧ OwnK sv (putRow rs slot (openV (rowAt rs slot) slot life session)) G' := by
  cases h : rowAt rs slot with
  | none =>
    have hh := rowAt_none h
    refine Con.intro (vs := [_, _, _, _]) Try.func51 rfl Try.ntmps51 rfl (fun B => ?_)
    repeat' (first | refine Cd.seq ?_ | refine Cd.reg ?_ | refine Ops.mv rfl rfl rfl rfl ?_ | refine Ops.asg rfl rfl rfl rfl ?_)
    refine Ops.call (there_spec n sv rs G slot hO) rfl (noPd rfl) rfl rfl rfl (fun v A' hR => ?_)
    obtain ⟨rfl, rfl⟩ := hR
    rw [hh]
    repeat' (first | refine Cd.seq ?_ | refine Cd.reg ?_ | refine Ops.nil ?_ | refine Ops.asg rfl rfl rfl rfl ?_ | refine Ops.un rfl rfl rfl rfl ?_ | refine Cd.condT rfl rfl ?_)
    exact Cd.ret (ret1 rfl (Res.tmp rfl) (fun _ h => h.split) ⟨rfl, G, rfl, hO⟩)
  | some r =>
    obtain ⟨hh, hr⟩ := rowAt_some h
    have hO0 := hO
    obtain ⟨h0, h1⟩ : 0 ≤ slot ∧ slot < rs.length := by simpa [hasB] using hh
    obtain ⟨g, c, spare, rfl, rfl, hsp, hle⟩ := hO.some_ (by omega)
    have hok := dks_ok rs
    have hx : (dks rs)[slot.toNat]? = some [.int .i64 r.slot, .int .i64 r.life, .int .i64 r.session, .int .i64 r.last, .string r.reply] := by simp [dks, hr]
    refine Con.intro (vs := [_, _, _, _]) Try.func51 rfl Try.ntmps51 rfl (fun B => ?_)
    repeat' (first | refine Cd.seq ?_ | refine Cd.reg ?_ | refine Ops.mv rfl rfl rfl rfl ?_ | refine Ops.asg rfl rfl rfl rfl ?_)
    refine Ops.call (there_spec n _ rs _ slot hO0) rfl (noPd rfl) rfl rfl rfl (fun v A' hR => ?_)
    obtain ⟨rfl, rfl⟩ := hR
    rw [hh]
    by_cases hall : cntB life = true ∧ cntB session = true ∧ r.life ≤ life
    · unfold openV openC
      dsimp only
      rw [if_pos hall, if_pos hall]
      obtain ⟨hc, hd, hl⟩ := hall
      have hc' : 1 ≤ life ∧ life ≤ 1099511627776 := by simpa [cntB] using hc
      have hd' : 1 ≤ session ∧ session ≤ 1099511627776 := by simpa [cntB] using hd
      repeat' (first | refine Cd.seq ?_ | refine Cd.reg ?_ | refine Ops.nil ?_ | refine Ops.mv rfl rfl rfl rfl ?_ | refine Ops.nilP rfl rfl rfl rfl ?_ | refine Ops.fa0 rfl rfl rfl rfl ?_ | refine Ops.fa rfl rfl rfl rfl ?_ | refine Ops.ld1 rfl rfl rfl rfl rfl ?_ | refine Ops.bin rfl rfl rfl rfl rfl ?_ | refine Ops.un rfl rfl rfl rfl ?_ | refine Ops.pickF rfl rfl rfl rfl rfl ?_ | refine Ops.bld rfl rfl rfl rfl ?_ | refine Cd.condF rfl rfl ?_ | refine Cd.skip (Cd.next ?_) | refine Ops.ixa0 rfl rfl rfl rfl (by omega) (by omega) rfl ?_ | refine Ops.ldRow1 rfl rfl rfl (by assumption) (by assumption) rfl rfl ?_ | refine Cd.condF rfl (by first | rfl | assumption | (simp only [decide_eq_true_eq, decide_eq_false_iff_not, Bool.not_eq_true', Bool.not_eq_false', Bool.not_eq_eq_eq_not, Bool.not_true, Bool.not_false, beq_iff_eq, beq_eq_false_iff_ne, ne_eq, decide_eq_decide, eq_self, true_iff, iff_true, not_true_eq_false, not_false_eq_true]; first | done | omega)) ?_ | ((fail_if_success refine Ops.probe rfl ?_); refine Ops.gF rfl rfl (by first | rfl | assumption | (simp only [decide_eq_true_eq, decide_eq_false_iff_not, Bool.not_eq_true', Bool.not_eq_false', Bool.not_eq_eq_eq_not, Bool.not_true, Bool.not_false, beq_iff_eq, beq_eq_false_iff_ne, ne_eq, decide_eq_decide, eq_self, true_iff, iff_true, not_true_eq_false, not_false_eq_true]; first | done | omega)) ?_))
      refine Ops.stRow (rows := dks rs) (i := slot.toNat) rfl rfl rfl rfl rfl rfl hok (by rw [dks_len]; omega) (noPd rfl) ?_
      repeat' (first | refine Cd.seq ?_ | refine Cd.reg ?_ | refine Ops.nil ?_ | refine Ops.asg rfl rfl rfl rfl ?_)
      refine Cd.ret (ret1 (A' := TabR n (.slice (some ⟨g, 0, none⟩) rs.length c) [(g, cl (((dks rs).set slot.toNat [.int .i64 slot, .int .i64 life, .int .i64 session, .int .i64 0, .string ⟨#[]⟩]).flatten ++ spare) 98)]) rfl (Res.tmp rfl) (fun _ h => h) ⟨rfl, _, rfl, ?_⟩)
      have := Own.set (rows := dks rs) (spare := spare) (c := c) (g := g) (by rw [dks_len]; exact hO0) hsp (by rw [dks_len]; exact hle) (i := slot.toNat) (r := [.int .i64 slot, .int .i64 life, .int .i64 session, .int .i64 0, .string ⟨#[]⟩]) rfl rfl
      unfold OwnK dks putRow
      dsimp only
      rw [List.map_set]
      simpa [dks] using this
    · unfold openV openC
      dsimp only
      rw [if_neg hall, if_neg hall]
      have hn : life < 1 ∨ 1099511627776 < life ∨ session < 1 ∨ 1099511627776 < session ∨ life < r.life := by
        simp only [cntB, decide_eq_true_eq] at hall
        omega
      repeat' (first | refine Cd.seq ?_ | refine Cd.reg ?_ | refine Ops.nil ?_ | refine Ops.mv rfl rfl rfl rfl ?_ | refine Ops.asg rfl rfl rfl rfl ?_ | refine Ops.nilP rfl rfl rfl rfl ?_ | refine Ops.fa0 rfl rfl rfl rfl ?_ | refine Ops.fa rfl rfl rfl rfl ?_ | refine Ops.ld1 rfl rfl rfl rfl rfl ?_ | refine Ops.bin rfl rfl rfl rfl rfl ?_ | refine Ops.un rfl rfl rfl rfl ?_ | refine Ops.pickT rfl rfl rfl rfl rfl ?_ | refine Ops.pickF rfl rfl rfl rfl rfl ?_ | refine Ops.gSkip rfl rfl rfl ?_ | refine Cd.condT rfl rfl ?_ | refine Cd.condF rfl rfl ?_ | refine Cd.skip (Cd.next ?_) | refine Ops.ixa0 rfl rfl rfl rfl (by omega) (by omega) rfl ?_ | refine Ops.ldRow1 rfl rfl rfl (by assumption) (by assumption) rfl rfl ?_ | refine Cd.condT rfl (by first | rfl | assumption | (simp only [decide_eq_true_eq, decide_eq_false_iff_not, Bool.not_eq_true', Bool.not_eq_false', Bool.not_eq_eq_eq_not, Bool.not_true, Bool.not_false, beq_iff_eq, beq_eq_false_iff_ne, ne_eq, decide_eq_decide, eq_self, true_iff, iff_true, not_true_eq_false, not_false_eq_true]; first | done | omega)) ?_ | ((fail_if_success refine Ops.probe rfl ?_); refine Ops.gSplit rfl rfl (fun hc => ?_) (fun hc => ?_) <;> (try simp only [decide_eq_true_eq, decide_eq_false_iff_not, Bool.not_eq_true', Bool.not_eq_false', Bool.not_eq_eq_eq_not, Bool.not_true, Bool.not_false, Int.not_lt, Int.not_le] at hc)))
      all_goals first | exact Cd.ret (ret1 rfl (Res.tmp rfl) (fun _ h => h.split) ⟨rfl, _, rfl, hO0⟩) | (exfalso; omega)

theorem rask_fun (n : Nat) (sv : Value) (rs : List Dk) (G : List Blk) (slot life session number : Int) (hO : OwnK sv rs G) (hI : RowsI rs) (hn0 : -9223372036854775808 ≤ number) (hn1 : number ≤ 9223372036854775807) : Con Try.prog 52 #[ptr n, .int .i64 slot, .int .i64 life, .int .i64 session, .int .i64 number] (TabR n sv G) fun v A => v = .tuple #[.int .i64 (askV (rowAt rs slot) life session number).1, .string (askV (rowAt rs slot) life session number).2] ∧ A = TabR n sv G := by
  cases h : rowAt rs slot with
  | none =>
    have hh := rowAt_none h
    refine Con.intro (vs := [_, _, _, _, _]) Try.func52 rfl Try.ntmps52 rfl (fun B => ?_)
    repeat' (first | refine Cd.seq ?_ | refine Cd.reg ?_ | refine Ops.mv rfl rfl rfl rfl ?_ | refine Ops.asg rfl rfl rfl rfl ?_)
    refine Ops.call (there_spec n sv rs G slot hO) rfl (noPd rfl) rfl rfl rfl (fun v A' hR => ?_)
    obtain ⟨rfl, rfl⟩ := hR
    rw [hh]
    repeat' (first | refine Cd.seq ?_ | refine Cd.reg ?_ | refine Ops.nil ?_ | refine Ops.mv rfl rfl rfl rfl ?_ | refine Ops.asg rfl rfl rfl rfl ?_ | refine Ops.un rfl rfl rfl rfl ?_ | refine Ops.pickT rfl rfl rfl rfl rfl ?_ | refine Ops.gSkip rfl rfl rfl ?_ | refine Cd.condT rfl rfl ?_)
    exact Cd.ret (ret2 rfl (Res.tmp rfl) (Res.tmp rfl) (fun _ h => h.split) ⟨rfl, rfl⟩)
  | some r =>
    obtain ⟨hh, hr⟩ := rowAt_some h
    obtain ⟨hb0, hb1⟩ := hI r (List.mem_of_getElem? hr)
    have hO0 := hO
    obtain ⟨h0, h1⟩ : 0 ≤ slot ∧ slot < rs.length := by simpa [hasB] using hh
    obtain ⟨g, c, spare, rfl, rfl, hsp, hle⟩ := hO.some_ (by omega)
    have hok := dks_ok rs
    have hx : (dks rs)[slot.toNat]? = some [.int .i64 r.slot, .int .i64 r.life, .int .i64 r.session, .int .i64 r.last, .string r.reply] := by simp [dks, hr]
    refine Con.intro (vs := [_, _, _, _, _]) Try.func52 rfl Try.ntmps52 rfl (fun B => ?_)
    repeat' (first | refine Cd.seq ?_ | refine Cd.reg ?_ | refine Ops.mv rfl rfl rfl rfl ?_ | refine Ops.asg rfl rfl rfl rfl ?_)
    refine Ops.call (there_spec n _ rs _ slot hO0) rfl (noPd rfl) rfl rfl rfl (fun v A' hR => ?_)
    obtain ⟨rfl, rfl⟩ := hR
    rw [hh]
    by_cases h1 : r.life = 0 ∨ r.life ≠ life ∨ r.session ≠ session
    · unfold askV
      dsimp only
      rw [if_pos h1]
      repeat' (first | refine Cd.seq ?_ | refine Cd.reg ?_ | refine Ops.nil ?_ | refine Ops.mv rfl rfl rfl rfl ?_ | refine Ops.asg rfl rfl rfl rfl ?_ | refine Ops.nilP rfl rfl rfl rfl ?_ | refine Ops.fa0 rfl rfl rfl rfl ?_ | refine Ops.fa rfl rfl rfl rfl ?_ | refine Ops.ld1 rfl rfl rfl rfl rfl ?_ | refine Ops.bin rfl rfl rfl rfl rfl ?_ | refine Ops.un rfl rfl rfl rfl ?_ | refine Ops.pickT rfl rfl rfl rfl rfl ?_ | refine Ops.pickF rfl rfl rfl rfl rfl ?_ | refine Ops.gSkip rfl rfl rfl ?_ | refine Cd.condT rfl rfl ?_ | refine Ops.ixa0 rfl rfl rfl rfl (by omega) (by omega) rfl ?_ | refine Ops.ldRow1 rfl rfl rfl (by assumption) (by assumption) rfl rfl ?_ | refine Cd.condT rfl (by first | rfl | assumption | (simp only [decide_eq_true_eq, decide_eq_false_iff_not, Bool.not_eq_true', Bool.not_eq_false', Bool.not_eq_eq_eq_not, Bool.not_true, Bool.not_false, beq_iff_eq, beq_eq_false_iff_ne, ne_eq, decide_eq_decide, eq_self, true_iff, iff_true, not_true_eq_false, not_false_eq_true]; first | done | omega)) ?_ | ((fail_if_success refine Ops.probe rfl ?_); refine Ops.gSplit rfl rfl (fun hc => ?_) (fun hc => ?_) <;> (try simp only [decide_eq_true_eq, decide_eq_false_iff_not, Bool.not_eq_true', Bool.not_eq_false', Bool.not_eq_eq_eq_not, Bool.not_true, Bool.not_false, Int.not_lt, Int.not_le] at hc)))
      all_goals first | exact Cd.ret (ret2 rfl (Res.tmp rfl) (Res.tmp rfl) (fun _ h => h.split) ⟨rfl, rfl⟩) | (exfalso; omega)
    · unfold askV
      dsimp only
      rw [if_neg h1]
      by_cases h2 : number < 1
      · rw [if_pos h2]
        repeat' (first | refine Cd.seq ?_ | refine Cd.reg ?_ | refine Ops.nil ?_ | refine Ops.mv rfl rfl rfl rfl ?_ | refine Ops.asg rfl rfl rfl rfl ?_ | refine Ops.nilP rfl rfl rfl rfl ?_ | refine Ops.fa0 rfl rfl rfl rfl ?_ | refine Ops.fa rfl rfl rfl rfl ?_ | refine Ops.ld1 rfl rfl rfl rfl rfl ?_ | refine Ops.subI rfl rfl rfl rfl (by omega) (by omega) rfl ?_ | refine Ops.bin rfl rfl rfl rfl rfl ?_ | refine Ops.un rfl rfl rfl rfl ?_ | refine Ops.pickT rfl rfl rfl rfl rfl ?_ | refine Ops.pickF rfl rfl rfl rfl rfl ?_ | refine Ops.alloc rfl rfl rfl (noPd rfl) (fun b => ?_) | refine Ops.stN rfl rfl rfl rfl rfl rfl (noPd rfl) ?_ | refine Ops.gSkip rfl rfl rfl ?_ | refine Cd.condF rfl rfl ?_ | refine Cd.block ?_ | refine Cd.skip (Cd.next ?_) | refine Cd.skip (Cd.next (Q' := fun _ _ _ => True) ?_) | refine Ops.ixa0 rfl rfl rfl rfl (by omega) (by omega) rfl ?_ | refine Ops.ldRow rfl rfl rfl (by assumption) (by assumption) rfl ?_ | refine Ops.ldRow1 rfl rfl rfl (by assumption) (by assumption) rfl rfl ?_ | refine Cd.condF rfl (by first | rfl | assumption | (simp only [decide_eq_true_eq, decide_eq_false_iff_not, Bool.not_eq_true', Bool.not_eq_false', Bool.not_eq_eq_eq_not, Bool.not_true, Bool.not_false, beq_iff_eq, beq_eq_false_iff_ne, ne_eq, decide_eq_decide, eq_self, true_iff, iff_true, not_true_eq_false, not_false_eq_true]; first | done | omega)) ?_ | ((fail_if_success refine Ops.probe rfl ?_); refine Ops.gF rfl rfl (by first | rfl | assumption | (simp only [decide_eq_true_eq, decide_eq_false_iff_not, Bool.not_eq_true', Bool.not_eq_false', Bool.not_eq_eq_eq_not, Bool.not_true, Bool.not_false, beq_iff_eq, beq_eq_false_iff_ne, ne_eq, decide_eq_decide, eq_self, true_iff, iff_true, not_true_eq_false, not_false_eq_true]; first | done | omega)) ?_) | ((fail_if_success refine Ops.probe rfl ?_); refine Ops.gSplit rfl rfl (fun hc => ?_) (fun hc => ?_) <;> (try simp only [decide_eq_true_eq, decide_eq_false_iff_not, Bool.not_eq_true', Bool.not_eq_false', Bool.not_eq_eq_eq_not, Bool.not_true, Bool.not_false, Int.not_lt, Int.not_le] at hc)))
        all_goals first | exact Cd.ret (ret2 rfl (Res.tmp rfl) (Res.tmp rfl) (fun _ h => h.tail) ⟨rfl, rfl⟩) | (exfalso; omega)
      · rw [if_neg h2]
        by_cases h3 : number = r.last
        · rw [if_pos h3]
          repeat' (first | refine Cd.seq ?_ | refine Cd.reg ?_ | refine Ops.nil ?_ | refine Ops.mv rfl rfl rfl rfl ?_ | refine Ops.asg rfl rfl rfl rfl ?_ | refine Ops.nilP rfl rfl rfl rfl ?_ | refine Ops.fa0 rfl rfl rfl rfl ?_ | refine Ops.fa rfl rfl rfl rfl ?_ | refine Ops.ld1 rfl rfl rfl rfl rfl ?_ | refine Ops.bin rfl rfl rfl rfl rfl ?_ | refine Ops.un rfl rfl rfl rfl ?_ | refine Ops.pickT rfl rfl rfl rfl rfl ?_ | refine Ops.pickF rfl rfl rfl rfl rfl ?_ | refine Ops.alloc rfl rfl rfl (noPd rfl) (fun b => ?_) | refine Ops.stN rfl rfl rfl rfl rfl rfl (noPd rfl) ?_ | refine Cd.block ?_ | refine Cd.skip (Cd.next ?_) | refine Ops.ixa0 rfl rfl rfl rfl (by omega) (by omega) rfl ?_ | refine Ops.ldRow rfl rfl rfl (by assumption) (by assumption) rfl ?_ | refine Ops.ldRow1 rfl rfl rfl (by assumption) (by assumption) rfl rfl ?_ | refine Cd.condT rfl (by first | rfl | assumption | (simp only [decide_eq_true_eq, decide_eq_false_iff_not, Bool.not_eq_true', Bool.not_eq_false', Bool.not_eq_eq_eq_not, Bool.not_true, Bool.not_false, beq_iff_eq, beq_eq_false_iff_ne, ne_eq, decide_eq_decide, eq_self, true_iff, iff_true, not_true_eq_false, not_false_eq_true]; first | done | omega)) ?_ | refine Cd.condF rfl (by first | rfl | assumption | (simp only [decide_eq_true_eq, decide_eq_false_iff_not, Bool.not_eq_true', Bool.not_eq_false', Bool.not_eq_eq_eq_not, Bool.not_true, Bool.not_false, beq_iff_eq, beq_eq_false_iff_ne, ne_eq, decide_eq_decide, eq_self, true_iff, iff_true, not_true_eq_false, not_false_eq_true]; first | done | omega)) ?_ | ((fail_if_success refine Ops.probe rfl ?_); refine Ops.gT rfl rfl (by first | rfl | assumption | (simp only [decide_eq_true_eq, decide_eq_false_iff_not, Bool.not_eq_true', Bool.not_eq_false', Bool.not_eq_eq_eq_not, Bool.not_true, Bool.not_false, beq_iff_eq, beq_eq_false_iff_ne, ne_eq, decide_eq_decide, eq_self, true_iff, iff_true, not_true_eq_false, not_false_eq_true]; first | done | omega)) ?_) | ((fail_if_success refine Ops.probe rfl ?_); refine Ops.gF rfl rfl (by first | rfl | assumption | (simp only [decide_eq_true_eq, decide_eq_false_iff_not, Bool.not_eq_true', Bool.not_eq_false', Bool.not_eq_eq_eq_not, Bool.not_true, Bool.not_false, beq_iff_eq, beq_eq_false_iff_ne, ne_eq, decide_eq_decide, eq_self, true_iff, iff_true, not_true_eq_false, not_false_eq_true]; first | done | omega)) ?_))
          refine Cd.draw [(0, 0, []), (1, 1, []), (2, 0, []), (3, 0, [])] (by kernel_rfl) (by kernel_rfl) (by simp only [picked, nth]; exact rfl) ?_
          repeat' (first | refine Ops.nil ?_ | refine Ops.asg rfl rfl rfl rfl ?_ | refine Ops.fa0 rfl rfl rfl rfl ?_ | refine Ops.ld1 rfl rfl rfl rfl rfl ?_)
          exact Cd.ret (ret2 rfl (Res.tmp rfl) (Res.tmp rfl) (fun _ h => h.tail) ⟨rfl, rfl⟩)
        · rw [if_neg h3]
          by_cases h4 : number = r.last + 1
          · rw [if_pos h4]
            repeat' (first | refine Cd.seq ?_ | refine Cd.reg ?_ | refine Ops.nil ?_ | refine Ops.mv rfl rfl rfl rfl ?_ | refine Ops.asg rfl rfl rfl rfl ?_ | refine Ops.nilP rfl rfl rfl rfl ?_ | refine Ops.fa0 rfl rfl rfl rfl ?_ | refine Ops.fa rfl rfl rfl rfl ?_ | refine Ops.ld1 rfl rfl rfl rfl rfl ?_ | refine Ops.subI rfl rfl rfl rfl (by omega) (by omega) rfl ?_ | refine Ops.bin rfl rfl rfl rfl rfl ?_ | refine Ops.un rfl rfl rfl rfl ?_ | refine Ops.pickT rfl rfl rfl rfl rfl ?_ | refine Ops.pickF rfl rfl rfl rfl rfl ?_ | refine Ops.alloc rfl rfl rfl (noPd rfl) (fun b => ?_) | refine Ops.stN rfl rfl rfl rfl rfl rfl (noPd rfl) ?_ | refine Ops.gSkip rfl rfl rfl ?_ | refine Cd.condF rfl rfl ?_ | refine Cd.block ?_ | refine Cd.skip (Cd.next ?_) | refine Ops.ixa0 rfl rfl rfl rfl (by omega) (by omega) rfl ?_ | refine Ops.ldRow rfl rfl rfl (by assumption) (by assumption) rfl ?_ | refine Ops.ldRow1 rfl rfl rfl (by assumption) (by assumption) rfl rfl ?_ | refine Cd.condT rfl (by first | rfl | assumption | (simp only [decide_eq_true_eq, decide_eq_false_iff_not, Bool.not_eq_true', Bool.not_eq_false', Bool.not_eq_eq_eq_not, Bool.not_true, Bool.not_false, beq_iff_eq, beq_eq_false_iff_ne, ne_eq, decide_eq_decide, eq_self, true_iff, iff_true, not_true_eq_false, not_false_eq_true]; first | done | omega)) ?_ | refine Cd.condF rfl (by first | rfl | assumption | (simp only [decide_eq_true_eq, decide_eq_false_iff_not, Bool.not_eq_true', Bool.not_eq_false', Bool.not_eq_eq_eq_not, Bool.not_true, Bool.not_false, beq_iff_eq, beq_eq_false_iff_ne, ne_eq, decide_eq_decide, eq_self, true_iff, iff_true, not_true_eq_false, not_false_eq_true]; first | done | omega)) ?_ | ((fail_if_success refine Ops.probe rfl ?_); refine Ops.gT rfl rfl (by first | rfl | assumption | (simp only [decide_eq_true_eq, decide_eq_false_iff_not, Bool.not_eq_true', Bool.not_eq_false', Bool.not_eq_eq_eq_not, Bool.not_true, Bool.not_false, beq_iff_eq, beq_eq_false_iff_ne, ne_eq, decide_eq_decide, eq_self, true_iff, iff_true, not_true_eq_false, not_false_eq_true]; first | done | omega)) ?_) | ((fail_if_success refine Ops.probe rfl ?_); refine Ops.gF rfl rfl (by first | rfl | assumption | (simp only [decide_eq_true_eq, decide_eq_false_iff_not, Bool.not_eq_true', Bool.not_eq_false', Bool.not_eq_eq_eq_not, Bool.not_true, Bool.not_false, beq_iff_eq, beq_eq_false_iff_ne, ne_eq, decide_eq_decide, eq_self, true_iff, iff_true, not_true_eq_false, not_false_eq_true]; first | done | omega)) ?_))
            exact Cd.ret (ret2 rfl (Res.tmp rfl) (Res.tmp rfl) (fun _ h => h.tail) ⟨rfl, rfl⟩)
          · rw [if_neg h4]
            repeat' (first | refine Cd.seq ?_ | refine Cd.reg ?_ | refine Ops.nil ?_ | refine Ops.mv rfl rfl rfl rfl ?_ | refine Ops.asg rfl rfl rfl rfl ?_ | refine Ops.nilP rfl rfl rfl rfl ?_ | refine Ops.fa0 rfl rfl rfl rfl ?_ | refine Ops.fa rfl rfl rfl rfl ?_ | refine Ops.ld1 rfl rfl rfl rfl rfl ?_ | refine Ops.subI rfl rfl rfl rfl (by omega) (by omega) rfl ?_ | refine Ops.bin rfl rfl rfl rfl rfl ?_ | refine Ops.un rfl rfl rfl rfl ?_ | refine Ops.pickF rfl rfl rfl rfl rfl ?_ | refine Ops.alloc rfl rfl rfl (noPd rfl) (fun b => ?_) | refine Ops.stN rfl rfl rfl rfl rfl rfl (noPd rfl) ?_ | refine Ops.gSkip rfl rfl rfl ?_ | refine Cd.condF rfl rfl ?_ | refine Cd.block ?_ | refine Cd.skip (Cd.next ?_) | refine Cd.skip (Cd.next (Q' := fun _ _ _ => True) ?_) | refine Ops.ixa0 rfl rfl rfl rfl (by omega) (by omega) rfl ?_ | refine Ops.ldRow rfl rfl rfl (by assumption) (by assumption) rfl ?_ | refine Ops.ldRow1 rfl rfl rfl (by assumption) (by assumption) rfl rfl ?_ | refine Cd.condF rfl (by first | rfl | assumption | (simp only [decide_eq_true_eq, decide_eq_false_iff_not, Bool.not_eq_true', Bool.not_eq_false', Bool.not_eq_eq_eq_not, Bool.not_true, Bool.not_false, beq_iff_eq, beq_eq_false_iff_ne, ne_eq, decide_eq_decide, eq_self, true_iff, iff_true, not_true_eq_false, not_false_eq_true]; first | done | omega)) ?_ | ((fail_if_success refine Ops.probe rfl ?_); refine Ops.gF rfl rfl (by first | rfl | assumption | (simp only [decide_eq_true_eq, decide_eq_false_iff_not, Bool.not_eq_true', Bool.not_eq_false', Bool.not_eq_eq_eq_not, Bool.not_true, Bool.not_false, beq_iff_eq, beq_eq_false_iff_ne, ne_eq, decide_eq_decide, eq_self, true_iff, iff_true, not_true_eq_false, not_false_eq_true]; first | done | omega)) ?_))
            exact Cd.ret (ret2 rfl (Res.tmp rfl) (Res.tmp rfl) (fun _ h => h.tail) ⟨rfl, rfl⟩)

theorem ranswer_fun (n : Nat) (sv : Value) (rs : List Dk) (G : List Blk) (slot : Int) (reply : ByteArray) (hO : OwnK sv rs G) (hI : RowsI rs) : Con Try.prog 53 #[ptr n, .int .i64 slot, .string reply] (TabR n sv G) fun v A => v = .int .i64 (answerC (rowAt rs slot)) ∧ ∃ G', A = TabR n sv G' ∧ OwnK sv (putRow rs slot (answerV (rowAt rs slot) reply)) G' := by
  cases h : rowAt rs slot with
  | none =>
    have hh := rowAt_none h
    refine Con.intro (vs := [_, _, _]) Try.func53 rfl Try.ntmps53 rfl (fun B => ?_)
    repeat' (first | refine Cd.seq ?_ | refine Cd.reg ?_ | refine Ops.mv rfl rfl rfl rfl ?_ | refine Ops.asg rfl rfl rfl rfl ?_)
    refine Ops.call (there_spec n sv rs G slot hO) rfl (noPd rfl) rfl rfl rfl (fun v A' hR => ?_)
    obtain ⟨rfl, rfl⟩ := hR
    rw [hh]
    repeat' (first | refine Cd.seq ?_ | refine Cd.reg ?_ | refine Ops.nil ?_ | refine Ops.asg rfl rfl rfl rfl ?_ | refine Ops.un rfl rfl rfl rfl ?_ | refine Cd.condT rfl rfl ?_)
    exact Cd.ret (ret1 rfl (Res.tmp rfl) (fun _ h => h.split) ⟨rfl, G, rfl, hO⟩)
  | some r =>
    obtain ⟨hh, hr⟩ := rowAt_some h
    obtain ⟨hb0, hb1⟩ := hI r (List.mem_of_getElem? hr)
    have hO0 := hO
    obtain ⟨h0, h1⟩ : 0 ≤ slot ∧ slot < rs.length := by simpa [hasB] using hh
    obtain ⟨g, c, spare, rfl, rfl, hsp, hle⟩ := hO.some_ (by omega)
    have hok := dks_ok rs
    have hx : (dks rs)[slot.toNat]? = some [.int .i64 r.slot, .int .i64 r.life, .int .i64 r.session, .int .i64 r.last, .string r.reply] := by simp [dks, hr]
    refine Con.intro (vs := [_, _, _]) Try.func53 rfl Try.ntmps53 rfl (fun B => ?_)
    repeat' (first | refine Cd.seq ?_ | refine Cd.reg ?_ | refine Ops.mv rfl rfl rfl rfl ?_ | refine Ops.asg rfl rfl rfl rfl ?_)
    refine Ops.call (there_spec n _ rs _ slot hO0) rfl (noPd rfl) rfl rfl rfl (fun v A' hR => ?_)
    obtain ⟨rfl, rfl⟩ := hR
    rw [hh]
    by_cases hall : r.life ≠ 0 ∧ r.last ≠ 1099511627776
    · unfold answerV answerC
      dsimp only
      rw [if_pos hall, if_pos hall]
      obtain ⟨hl, hl2⟩ := hall
      repeat' (first | refine Cd.seq ?_ | refine Cd.reg ?_ | refine Ops.nil ?_ | refine Ops.mv rfl rfl rfl rfl ?_ | refine Ops.nilP rfl rfl rfl rfl ?_ | refine Ops.fa0 rfl rfl rfl rfl ?_ | refine Ops.fa rfl rfl rfl rfl ?_ | refine Ops.ld1 rfl rfl rfl rfl rfl ?_ | refine Ops.addI rfl rfl rfl rfl (by omega) (by omega) rfl ?_ | refine Ops.bin rfl rfl rfl rfl rfl ?_ | refine Ops.un rfl rfl rfl rfl ?_ | refine Ops.pickF rfl rfl rfl rfl rfl ?_ | refine Cd.condF rfl rfl ?_ | refine Cd.skip (Cd.next ?_) | refine Ops.ixa0 rfl rfl rfl rfl (by omega) (by omega) rfl ?_ | refine Ops.ldRow1 rfl rfl rfl (by assumption) (by assumption) rfl rfl ?_ | refine Cd.condF rfl (by first | rfl | assumption | (simp only [decide_eq_true_eq, decide_eq_false_iff_not, Bool.not_eq_true', Bool.not_eq_false', Bool.not_eq_eq_eq_not, Bool.not_true, Bool.not_false, beq_iff_eq, beq_eq_false_iff_ne, ne_eq, decide_eq_decide, eq_self, true_iff, iff_true, not_true_eq_false, not_false_eq_true]; first | done | omega)) ?_ | ((fail_if_success refine Ops.probe rfl ?_); refine Ops.gF rfl rfl (by first | rfl | assumption | (simp only [decide_eq_true_eq, decide_eq_false_iff_not, Bool.not_eq_true', Bool.not_eq_false', Bool.not_eq_eq_eq_not, Bool.not_true, Bool.not_false, beq_iff_eq, beq_eq_false_iff_ne, ne_eq, decide_eq_decide, eq_self, true_iff, iff_true, not_true_eq_false, not_false_eq_true]; first | done | omega)) ?_))
      refine Ops.stRow1 (sz := 5) (rows := dks rs) (i := slot.toNat) (o := 3) rfl rfl rfl rfl rfl hok hx rfl (noPd rfl) ?_
      have hok1 : RowsOk 5 ((dks rs).set slot.toNat ([.int .i64 r.slot, .int .i64 r.life, .int .i64 r.session, .int .i64 r.last, .string r.reply].set 3 (.int .i64 (r.last + 1)))) := fun x hx => by
        rcases List.mem_or_eq_of_mem_set hx with h | h
        · exact hok x h
        · subst h; exact ⟨rfl, rfl⟩
      have hx1 : ((dks rs).set slot.toNat ([.int .i64 r.slot, .int .i64 r.life, .int .i64 r.session, .int .i64 r.last, .string r.reply].set 3 (.int .i64 (r.last + 1))))[slot.toNat]? = some [.int .i64 r.slot, .int .i64 r.life, .int .i64 r.session, .int .i64 (r.last + 1), .string r.reply] := by
        rw [List.getElem?_set_self (by rw [dks_len]; omega)]; rfl
      repeat' (first | refine Cd.seq ?_ | refine Cd.reg ?_ | refine Ops.mv rfl rfl rfl rfl ?_ | refine Ops.nilP rfl rfl rfl rfl ?_ | refine Ops.fa0 rfl rfl rfl rfl ?_ | refine Ops.fa rfl rfl rfl rfl ?_ | refine Ops.ld1 rfl rfl rfl rfl rfl ?_ | refine Ops.ixa0 rfl rfl rfl rfl (by omega) (by omega) rfl ?_)
      refine Ops.stRow1 (sz := 5) (i := slot.toNat) (o := 4) rfl rfl rfl rfl rfl hok1 hx1 rfl (noPd rfl) ?_
      repeat' (first | refine Cd.seq ?_ | refine Cd.reg ?_ | refine Ops.nil ?_ | refine Ops.asg rfl rfl rfl rfl ?_)
      refine Cd.ret (ret1 (A' := TabR n (.slice (some ⟨g, 0, none⟩) rs.length c) [(g, cl (((dks rs).set slot.toNat [.int .i64 r.slot, .int .i64 r.life, .int .i64 r.session, .int .i64 (r.last + 1), .string reply]).flatten ++ spare) 98)]) rfl (Res.tmp rfl) (fun _ h => by rw [List.set_set] at h; exact h) ⟨rfl, _, rfl, ?_⟩)
      have := Own.set (rows := dks rs) (spare := spare) (c := c) (g := g) (by rw [dks_len]; exact hO0) hsp (by rw [dks_len]; exact hle) (i := slot.toNat) (r := [.int .i64 r.slot, .int .i64 r.life, .int .i64 r.session, .int .i64 (r.last + 1), .string reply]) rfl rfl
      unfold OwnK dks putRow
      dsimp only
      rw [List.map_set]
      simpa [dks] using this
    · unfold answerV answerC
      dsimp only
      rw [if_neg hall, if_neg hall]
      have hn : r.life = 0 ∨ r.last = 1099511627776 := by omega
      repeat' (first | refine Cd.seq ?_ | refine Cd.reg ?_ | refine Ops.nil ?_ | refine Ops.mv rfl rfl rfl rfl ?_ | refine Ops.asg rfl rfl rfl rfl ?_ | refine Ops.nilP rfl rfl rfl rfl ?_ | refine Ops.fa0 rfl rfl rfl rfl ?_ | refine Ops.fa rfl rfl rfl rfl ?_ | refine Ops.ld1 rfl rfl rfl rfl rfl ?_ | refine Ops.bin rfl rfl rfl rfl rfl ?_ | refine Ops.un rfl rfl rfl rfl ?_ | refine Ops.pickT rfl rfl rfl rfl rfl ?_ | refine Ops.pickF rfl rfl rfl rfl rfl ?_ | refine Ops.gSkip rfl rfl rfl ?_ | refine Cd.condT rfl rfl ?_ | refine Cd.condF rfl rfl ?_ | refine Cd.skip (Cd.next ?_) | refine Ops.ixa0 rfl rfl rfl rfl (by omega) (by omega) rfl ?_ | refine Ops.ldRow1 rfl rfl rfl (by assumption) (by assumption) rfl rfl ?_ | refine Cd.condT rfl (by first | rfl | assumption | (simp only [decide_eq_true_eq, decide_eq_false_iff_not, Bool.not_eq_true', Bool.not_eq_false', Bool.not_eq_eq_eq_not, Bool.not_true, Bool.not_false, beq_iff_eq, beq_eq_false_iff_ne, ne_eq, decide_eq_decide, eq_self, true_iff, iff_true, not_true_eq_false, not_false_eq_true]; first | done | omega)) ?_ | ((fail_if_success refine Ops.probe rfl ?_); refine Ops.gSplit rfl rfl (fun hc => ?_) (fun hc => ?_) <;> (try simp only [decide_eq_true_eq, decide_eq_false_iff_not, Bool.not_eq_true', Bool.not_eq_false', Bool.not_eq_eq_eq_not, Bool.not_true, Bool.not_false, Int.not_lt, Int.not_le] at hc)))
      all_goals first | exact Cd.ret (ret1 rfl (Res.tmp rfl) (fun _ h => h.split) ⟨rfl, _, rfl, hO0⟩) | (exfalso; omega)
end Go.Proofs.Ytdfimjgbdipnjaa
