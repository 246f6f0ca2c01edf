import Derived.Test.YtdfimjgbdipnjaaS27
namespace Go.Proofs.Ytdfimjgbdipnjaa
open Go Go.Sep Go.Proofs
set_option maxRecDepth 10000
set_option maxHeartbeats 8000000
set_option synthInstance.maxSize 2000
set_option linter.unusedSimpArgs false
set_option linter.unusedVariables false

def kindOf (n : Int) : Int := if n.tmod 3 = 2 then 4 else if n.tmod 3 = 1 then 3 else 2
def asksM (n : Int) : Mg := ⟨kindOf n, 0, 0, 0, 1, 0, 0, 0, 0, ⟨#[]⟩, ⟨#[]⟩⟩
theorem kindOf_in (n : Int) : 2 ≤ kindOf n ∧ kindOf n ≤ 4 := by
  unfold kindOf
  split
  · omega
  · split <;> omega

theorem asks_busy (jb cn tn : Nat) (life used asked : Int) (wv dv : Value) (s : CS) (n : Int) (hb : s.m.kind ≠ 0) :
    Con Try.prog 45 #[ptr jb, .int .i64 n] (JB jb cn tn life used asked wv dv :: CalB cn s)
      fun v A => A = JB jb cn tn life used asked wv dv :: CalB cn s := by
  refine Con.intro (vs := [_, _]) Try.func45 rfl Try.ntmps45 rfl (fun B => ?_)
  repeat' (first | refine Cd.seq ?_ | refine Cd.reg ?_ | refine Ops.mv rfl rfl rfl rfl ?_ | refine Ops.nilP rfl rfl rfl rfl ?_ | refine Ops.fa0 rfl rfl rfl rfl ?_ | refine Ops.ld1 rfl rfl rfl rfl rfl ?_)
  refine Ops.call (busy_spec cn s) rfl (noPd rfl) rfl rfl rfl (fun v A' hR => ?_)
  obtain ⟨rfl, rfl⟩ := hR
  repeat' (first | refine Ops.nil ?_ | refine Cd.condT rfl (by first | rfl | assumption | (simp only [decide_eq_true_eq, decide_eq_false_iff_not, Bool.not_eq_true', Bool.not_eq_false', Bool.not_eq_eq_eq_not, Bool.not_true, Bool.not_false, beq_iff_eq, beq_eq_false_iff_ne, ne_eq, decide_eq_decide, eq_self, true_iff, iff_true, not_true_eq_false, not_false_eq_true]; first | done | omega)) ?_)
  exact Cd.ret (ret0 (A' := JB jb cn tn life used asked wv dv :: CalB cn s) rfl (fun _ h => h.split) rfl)

theorem asks_free {k : Nat} {own : Int → Int} {aq : List Aq} {s : CS} {d : Dk} {life used asked : Int} {way : List Sd} {deeds : List De} (jb cn tn : Nat) (wv dv : Value) (n : Int)
    (h : JI k own aq s d life used asked way deeds) (hk : k ≤ 1048576) (hb : s.m.kind = 0) :
    Con Try.prog 45 #[ptr jb, .int .i64 n] (JB jb cn tn life used asked wv dv :: CalB cn s)
      fun v A => ∃ s' aq', A = JB jb cn tn life used (asked + 1) wv dv :: CalB cn s' ∧ JI (k + 1) own aq' s' d life used (asked + 1) way deeds := by
  have hc := h.cal
  have ha0 := h.asked0
  have ha1 := h.asked1
  obtain ⟨hk2, hk4⟩ := kindOf_in n
  refine Con.intro (vs := [_, _]) Try.func45 rfl Try.ntmps45 rfl (fun B => ?_)
  generalize hc1 : Code.seq (Code.seq (Code.region 2 _ _) _) _ = c1
  repeat' (first | refine Cd.seq ?_ | refine Cd.reg ?_ | refine Ops.mv rfl rfl rfl rfl ?_ | refine Ops.nilP rfl rfl rfl rfl ?_ | refine Ops.fa0 rfl rfl rfl rfl ?_ | refine Ops.ld1 rfl rfl rfl rfl rfl ?_)
  refine Ops.call (busy_spec cn s) rfl (noPd rfl) rfl rfl rfl (fun v A' hR => ?_)
  obtain ⟨rfl, rfl⟩ := hR
  repeat' (first | refine Cd.seq ?_ | refine Cd.reg ?_ | refine Ops.nil ?_ | refine Ops.asg rfl rfl rfl rfl ?_ | refine Cd.skip (Cd.next ?_) | refine Cd.condF rfl (by first | rfl | assumption | (simp only [decide_eq_true_eq, decide_eq_false_iff_not, Bool.not_eq_true', Bool.not_eq_false', Bool.not_eq_eq_eq_not, Bool.not_true, Bool.not_false, beq_iff_eq, beq_eq_false_iff_ne, ne_eq, decide_eq_decide, eq_self, true_iff, iff_true, not_true_eq_false, not_false_eq_true]; first | done | omega)) ?_)
  subst hc1
  refine Cd.cut (σ := Unit) (fun _ => True) (fun _ => [(0, ptr jb), (1, .int .i64 n), (4, .int .i64 (if n.tmod 3 = 1 then 3 else 2))]) (fun _ => JB jb cn tn life used asked wv dv :: CalB cn s) ?_ (fun _ _ => ?_)
  · repeat' (first | refine Cd.seq ?_ | refine Cd.reg ?_ | refine Ops.mv rfl rfl rfl rfl ?_)
    refine Ops.remI rfl rfl rfl rfl (by decide) rfl ?_
    by_cases h1 : n.tmod 3 = 1
    · rw [if_pos h1]
      repeat' (first | refine Cd.reg ?_ | refine Ops.nil ?_ | refine Ops.asg rfl rfl rfl rfl ?_ | refine Ops.bin rfl rfl rfl rfl rfl ?_ | refine Cd.condT rfl (by first | rfl | assumption | (simp only [decide_eq_true_eq, decide_eq_false_iff_not, Bool.not_eq_true', Bool.not_eq_false', Bool.not_eq_eq_eq_not, Bool.not_true, Bool.not_false, beq_iff_eq, beq_eq_false_iff_ne, ne_eq, decide_eq_decide, eq_self, true_iff, iff_true, not_true_eq_false, not_false_eq_true]; first | done | omega)) ?_)
      exact Ops.nilN (meet_end (Q := fun _ _ _ => True) () trivial ⟨rfl, rfl, rfl, trivial⟩ (fun w h => h.split))
    · rw [if_neg h1]
      repeat' (first | refine Ops.nil ?_ | refine Ops.bin rfl rfl rfl rfl rfl ?_ | refine Cd.condF rfl (by first | rfl | assumption | (simp only [decide_eq_true_eq, decide_eq_false_iff_not, Bool.not_eq_true', Bool.not_eq_false', Bool.not_eq_eq_eq_not, Bool.not_true, Bool.not_false, beq_iff_eq, beq_eq_false_iff_ne, ne_eq, decide_eq_decide, eq_self, true_iff, iff_true, not_true_eq_false, not_false_eq_true]; first | done | omega)) ?_)
      exact Cd.skip (meet_end (Q := fun _ _ _ => True) () trivial ⟨rfl, rfl, rfl, trivial⟩ (fun w h => h.split))
  refine Cd.cut (σ := Unit) (fun _ => True) (fun _ => [(0, ptr jb), (4, .int .i64 (kindOf n))]) (fun _ => JB jb cn tn life used asked wv dv :: CalB cn s) ?_ (fun _ _ => ?_)
  · repeat' (first | refine Cd.seq ?_ | refine Cd.reg ?_ | refine Ops.mv rfl rfl rfl rfl ?_)
    refine Ops.remI rfl rfl rfl rfl (by decide) rfl ?_
    unfold kindOf
    by_cases h2 : n.tmod 3 = 2
    · rw [if_pos h2]
      repeat' (first | refine Cd.reg ?_ | refine Ops.nil ?_ | refine Ops.asg rfl rfl rfl rfl ?_ | refine Ops.bin rfl rfl rfl rfl rfl ?_ | refine Cd.condT rfl (by first | rfl | assumption | (simp only [decide_eq_true_eq, decide_eq_false_iff_not, Bool.not_eq_true', Bool.not_eq_false', Bool.not_eq_eq_eq_not, Bool.not_true, Bool.not_false, beq_iff_eq, beq_eq_false_iff_ne, ne_eq, decide_eq_decide, eq_self, true_iff, iff_true, not_true_eq_false, not_false_eq_true]; first | done | omega)) ?_)
      exact Ops.nilN (meet_end (Q := fun _ _ _ => True) () trivial ⟨rfl, rfl, trivial⟩ (fun w h => h.split))
    · rw [if_neg h2]
      repeat' (first | refine Ops.nil ?_ | refine Ops.bin rfl rfl rfl rfl rfl ?_ | refine Cd.condF rfl (by first | rfl | assumption | (simp only [decide_eq_true_eq, decide_eq_false_iff_not, Bool.not_eq_true', Bool.not_eq_false', Bool.not_eq_eq_eq_not, Bool.not_true, Bool.not_false, beq_iff_eq, beq_eq_false_iff_ne, ne_eq, decide_eq_decide, eq_self, true_iff, iff_true, not_true_eq_false, not_false_eq_true]; first | done | omega)) ?_)
      exact Cd.skip (meet_end (Q := fun _ _ _ => True) () trivial ⟨rfl, rfl, trivial⟩ (fun w h => h.split))
  by_cases hs : s.session = 0
  · have hh := hello_F cn s hc
    have hJ := h.hello hb
    have e : helloF s = (0, { s with m := Mg.hello, timer := 0, session := 0, last := 0 }) := by unfold helloF; rw [if_pos hb]
    rw [e] at hh hJ
    dsimp only at hh hJ
    repeat' (first | refine Cd.seq ?_ | refine Cd.reg ?_ | refine Ops.mv rfl rfl rfl rfl ?_ | refine Ops.asg rfl rfl rfl rfl ?_ | refine Ops.nilP rfl rfl rfl rfl ?_ | refine Ops.fa0 rfl rfl rfl rfl ?_ | refine Ops.ld1 rfl rfl rfl rfl rfl ?_)
    refine Ops.call (session_spec cn s) rfl (noPd rfl) rfl rfl rfl (fun v A' hR => ?_)
    obtain ⟨rfl, rfl⟩ := hR
    repeat' (first | refine Cd.reg ?_ | refine Ops.nil ?_ | refine Ops.mv rfl rfl rfl rfl ?_ | refine Ops.nilP rfl rfl rfl rfl ?_ | refine Ops.fa0 rfl rfl rfl rfl ?_ | refine Ops.ld1 rfl rfl rfl rfl rfl ?_ | refine Ops.bin rfl rfl rfl rfl rfl ?_ | refine Cd.condT rfl (by first | rfl | assumption | (simp only [decide_eq_true_eq, decide_eq_false_iff_not, Bool.not_eq_true', Bool.not_eq_false', Bool.not_eq_eq_eq_not, Bool.not_true, Bool.not_false, beq_iff_eq, beq_eq_false_iff_ne, ne_eq, decide_eq_decide, eq_self, true_iff, iff_true, not_true_eq_false, not_false_eq_true]; first | done | omega)) ?_)
    refine Ops.call hh rfl (noPd rfl) rfl rfl rfl (fun v A' hR => ?_)
    obtain ⟨rfl, rfl⟩ := hR
    repeat' (first | refine Cd.seq ?_ | refine Cd.reg ?_ | refine Ops.mv rfl rfl rfl rfl ?_ | refine Ops.asg rfl rfl rfl rfl ?_ | refine Ops.nilP rfl rfl rfl rfl ?_ | refine Ops.fa0 rfl rfl rfl rfl ?_ | refine Ops.ld1 rfl rfl rfl rfl rfl ?_ | refine Ops.bin rfl rfl rfl rfl rfl ?_)
    refine Ops.call (busy_spec cn { s with m := Mg.hello, timer := 0, session := 0, last := 0 }) rfl (noPd rfl) rfl rfl rfl (fun v A' hR => ?_)
    obtain ⟨rfl, rfl⟩ := hR
    repeat' (first | refine Cd.reg ?_ | refine Ops.nil ?_ | refine Ops.mv rfl rfl rfl rfl ?_ | refine Ops.nilP rfl rfl rfl rfl ?_ | refine Ops.fa0 rfl rfl rfl rfl ?_ | refine Ops.ld1 rfl rfl rfl rfl rfl ?_ | refine Ops.addI rfl rfl rfl rfl (by omega) (by omega) rfl ?_ | refine Ops.un rfl rfl rfl rfl ?_ | refine Ops.pickF rfl rfl rfl rfl rfl ?_ | refine Ops.st1 rfl rfl rfl rfl rfl (noPd rfl) ?_ | refine Cd.condF rfl rfl ?_ | refine Cd.skip (Cd.next ?_))
    exact Ops.nilN (end0 rfl (fun _ h => h.split) ⟨_, aq, rfl, hJ⟩)
  · have hh := ask_F cn s (asksM n) hc
    obtain ⟨aq', hJ⟩ := h.ask (m := asksM n) hk hb hs hk2 hk4
    rw [askF_ok h hk hb hs hk2 hk4] at hh hJ
    dsimp only [asksM, Mg.row] at hh hJ
    generalize kindOf n = kq at *
    repeat' (first | refine Cd.seq ?_ | refine Cd.reg ?_ | refine Ops.mv rfl rfl rfl rfl ?_ | refine Ops.asg rfl rfl rfl rfl ?_ | refine Ops.nilP rfl rfl rfl rfl ?_ | refine Ops.fa0 rfl rfl rfl rfl ?_ | refine Ops.ld1 rfl rfl rfl rfl rfl ?_)
    refine Ops.call (session_spec cn s) rfl (noPd rfl) rfl rfl rfl (fun v A' hR => ?_)
    obtain ⟨rfl, rfl⟩ := hR
    repeat' (first | refine Cd.reg ?_ | refine Ops.nil ?_ | refine Ops.mv rfl rfl rfl rfl ?_ | refine Ops.nilP rfl rfl rfl rfl ?_ | refine Ops.fa0 rfl rfl rfl rfl ?_ | refine Ops.ld1 rfl rfl rfl rfl rfl ?_ | refine Ops.bin rfl rfl rfl rfl rfl ?_ | refine Ops.bld rfl rfl rfl rfl ?_ | refine Cd.condF rfl (by first | rfl | assumption | (simp only [decide_eq_true_eq, decide_eq_false_iff_not, Bool.not_eq_true', Bool.not_eq_false', Bool.not_eq_eq_eq_not, Bool.not_true, Bool.not_false, beq_iff_eq, beq_eq_false_iff_ne, ne_eq, decide_eq_decide, eq_self, true_iff, iff_true, not_true_eq_false, not_false_eq_true]; first | done | omega)) ?_)
    refine Ops.call hh rfl (noPd rfl) rfl rfl rfl (fun v A' hR => ?_)
    obtain ⟨rfl, rfl⟩ := hR
    repeat' (first | refine Cd.seq ?_ | refine Cd.reg ?_ | refine Ops.mv rfl rfl rfl rfl ?_ | refine Ops.asg rfl rfl rfl rfl ?_ | refine Ops.nilP rfl rfl rfl rfl ?_ | refine Ops.fa0 rfl rfl rfl rfl ?_ | refine Ops.ld1 rfl rfl rfl rfl rfl ?_ | refine Ops.bin rfl rfl rfl rfl rfl ?_)
    refine Ops.call (busy_spec cn { s with m := ⟨kq, s.session, s.last + 1, 0, 1, 0, 0, 0, 0, ⟨#[]⟩, ⟨#[]⟩⟩, timer := 0, last := s.last + 1 }) rfl (noPd rfl) rfl rfl rfl (fun v A' hR => ?_)
    obtain ⟨rfl, rfl⟩ := hR
    repeat' (first | refine Cd.reg ?_ | refine Ops.nil ?_ | refine Ops.mv rfl rfl rfl rfl ?_ | refine Ops.nilP rfl rfl rfl rfl ?_ | refine Ops.fa0 rfl rfl rfl rfl ?_ | refine Ops.ld1 rfl rfl rfl rfl rfl ?_ | refine Ops.addI rfl rfl rfl rfl (by omega) (by omega) rfl ?_ | refine Ops.un rfl rfl rfl rfl ?_ | refine Ops.pickF rfl rfl rfl rfl rfl ?_ | refine Ops.st1 rfl rfl rfl rfl rfl (noPd rfl) ?_ | refine Cd.skip (Cd.next ?_) | refine Cd.condF rfl (by first | rfl | assumption | (simp only [decide_eq_true_eq, decide_eq_false_iff_not, Bool.not_eq_true', Bool.not_eq_false', Bool.not_eq_eq_eq_not, Bool.not_true, Bool.not_false, beq_iff_eq, beq_eq_false_iff_ne, ne_eq, decide_eq_decide, eq_self, true_iff, iff_true, not_true_eq_false, not_false_eq_true]; first | done | omega)) ?_)
    exact Ops.nilN (end0 rfl (fun _ h => h.split) ⟨_, aq', rfl, hJ⟩)
end Go.Proofs.Ytdfimjgbdipnjaa
