import Derived.Test.YtdfimjgbdipnjaaS19
import Derived.Test.YtdfimjgbdipnjaaSep16
import Derived.Test.YtdfimjgbdipnjaaSep24
namespace Go.Proofs.Ytdfimjgbdipnjaa
open Go Go.Sep Go.Proofs
set_option maxRecDepth 10000
set_option maxHeartbeats 8000000
set_option linter.unusedSimpArgs false
set_option linter.unusedVariables false

theorem sclone_spec (sv : Value) (rs : List Dk) (G : List Blk) (h : OwnK sv rs G) (hlen : rs.length ≤ 1000) :
    Con Try.prog 49 #[sv] G fun v A => ∃ G', A = G' ++ G ∧ OwnK v rs G' := by
  have h0 := h
  have hl : (dks rs).length = rs.length := dks_len rs
  rcases h.2 with ⟨rfl, hb, rfl⟩ | ⟨g, c, spare, rfl, rfl, hsp, hle⟩
  · obtain rfl : rs = [] := by simpa [dks] using hb
    refine Con.intro (vs := [_]) Try.func49 rfl Try.ntmps49 rfl (fun B => ?_)
    repeat' (first | refine Cd.seq ?_ | refine Cd.reg ?_ | refine Ops.nil ?_ | refine Ops.mv rfl rfl rfl rfl ?_ | refine Ops.asg rfl rfl rfl rfl ?_ | refine Ops.bin rfl rfl rfl rfl rfl ?_ | refine Cd.condT rfl rfl ?_)
    exact Cd.ret (ret1 (A' := []) rfl (Res.tmp rfl) (fun _ h => h) ⟨[], rfl, Own.none⟩)
  · rw [hl] at h hle ⊢
    refine Con.intro (vs := [_]) Try.func49 rfl Try.ntmps49 rfl (fun B => ?_)
    repeat' (first | refine Cd.seq ?_ | refine Cd.reg ?_ | refine Ops.nil ?_ | refine Ops.mv rfl rfl rfl rfl ?_ | refine Ops.asg rfl rfl rfl rfl ?_ | refine Ops.bin rfl rfl rfl rfl rfl ?_ | refine Ops.bs0 rfl rfl rfl (noPd rfl) (fun b => ?_) | refine Cd.condF rfl rfl ?_ | refine Cd.skip (Cd.next ?_))
    refine Ops.appS (rows := []) (news := dks rs) Own.empty (Reads.own h) (by simp; omega) (by simp; omega) rfl rfl rfl rfl rfl (noPd rfl) rfl (fun v G' hG' => ?_)
    obtain ⟨a', c', rfl⟩ := hG'.form
    repeat' (first | refine Ops.nil ?_ | refine Ops.asg rfl rfl rfl rfl ?_)
    exact Cd.ret (ret1 (A' := G' ++ [(g, cl ((dks rs).flatten ++ spare) 98)]) rfl (Res.tmp rfl) (fun _ h => h.split) ⟨G', rfl, by unfold OwnK; simpa using hG'⟩)

theorem tclone_spec (n : Nat) (sv : Value) (rs : List Dk) (G : List Blk) (h : OwnK sv rs G) (hlen : rs.length ≤ 1000) :
    Con Try.prog 28 #[ptr n] (TabB n sv G) fun v A => ∃ n' sv' G', v = ptr n' ∧ A = TabB n' sv' (G' ++ TabB n sv G) ∧ OwnK sv' rs G' := by
  obtain ⟨a, c, rfl⟩ := h.form
  refine Con.intro (vs := [_]) Try.func28 rfl Try.ntmps28 rfl (fun B => ?_)
  repeat' (first | refine Cd.seq ?_ | refine Cd.reg ?_ | refine Ops.mv rfl rfl rfl rfl ?_ | refine Ops.asg rfl rfl rfl rfl ?_ | refine Ops.nilP rfl rfl rfl rfl ?_ | refine Ops.fa0 rfl rfl rfl rfl ?_ | refine Ops.ld1 rfl rfl rfl rfl rfl ?_)
  refine Ops.call (sclone_spec _ rs G h hlen) rfl (by first | exact noPd rfl | (intro v A' hR i hi; obtain ⟨A2, hR, rfl⟩ := hR; (try obtain ⟨rfl, rfl⟩ := hR); (repeat (rcases List.mem_cons.1 hi with rfl | hi; · (first | exact Still.ld1 rfl rfl rfl rfl rfl | exact Still.ldN rfl rfl rfl rfl | exact Still.len rfl rfl rfl rfl rfl | exact Still.skip rfl rfl rfl | exact Still.ldRow1 rfl rfl rfl (by assumption) (by assumption) rfl rfl | exact Still.ldR rfl rfl rfl (by apply_assumption) rfl))); cases hi)) rfl rfl rfl (fun v A' hR => ?_)
  obtain ⟨G', rfl, hG'⟩ := hR
  obtain ⟨a', c', rfl⟩ := hG'.form
  repeat' (first | refine Ops.nil ?_ | refine Ops.asg rfl rfl rfl rfl ?_ | refine Ops.bld rfl rfl rfl rfl ?_ | refine Ops.box rfl rfl rfl rfl (noPd rfl) (fun b => ?_))
  rename Nat => bd
  exact Cd.ret (ret1 (A' := TabB bd (.slice a' rs.length c') (G' ++ TabB n (.slice a rs.length c) G)) rfl (Res.tmp rfl) (fun _ h => h.split) ⟨bd, _, G', rfl, rfl, hG'⟩)

theorem rclone_spec (n : Nat) (sv : Value) (rs : List Dk) (G : List Blk) (h : OwnK sv rs G) (hlen : rs.length ≤ 1000) :
    Con Try.prog 29 #[ptr n] (TabR n sv G) fun v A => ∃ n' sv' G', v = ptr n' ∧ A = TabR n' sv' (G' ++ TabR n sv G) ∧ OwnK sv' rs G' := by
  obtain ⟨a, c, rfl⟩ := h.form
  have hl : (dks rs).length = rs.length := dks_len rs
  refine Con.intro (vs := [_]) Try.func29 rfl Try.ntmps29 rfl (fun B => ?_)
  repeat' (first | refine Cd.seq ?_ | refine Cd.reg ?_ | refine Ops.mv rfl rfl rfl rfl ?_ | refine Ops.asg rfl rfl rfl rfl ?_ | refine Ops.nilP rfl rfl rfl rfl ?_ | refine Ops.fa0 rfl rfl rfl rfl ?_ | refine Ops.ld1 rfl rfl rfl rfl rfl ?_ | refine Ops.bs0 rfl rfl rfl (noPd rfl) (fun b => ?_))
  refine Ops.appS (rows := []) (news := dks rs) Own.empty (Reads.own h) (by simp; omega) (by simp; omega) rfl rfl rfl rfl rfl (noPd rfl) rfl (fun v G' hG' => ?_)
  obtain ⟨a', c', rfl⟩ := hG'.form
  repeat' (first | refine Ops.nil ?_ | refine Ops.asg rfl rfl rfl rfl ?_ | refine Ops.bld rfl rfl rfl rfl ?_ | refine Ops.box rfl rfl rfl rfl (noPd rfl) (fun b => ?_))
  rename Nat => bd
  exact Cd.ret (ret1 (A' := TabR bd (.slice a' ([] ++ dks rs).length c') (G' ++ TabR n (.slice a rs.length c) G)) rfl (Res.tmp rfl) (fun _ h => h.split) ⟨bd, _, G', rfl, rfl, by unfold OwnK; simpa using hG'⟩)

/-! all rows -/
theorem dead_spec (d : Dk) : Con Try.prog 64 #[.agg d.row.toArray] [] fun v A => v = .bool (decide (d.life = 0)) ∧ A = [] := by
  refine Con.intro (vs := [_]) Try.func64 rfl Try.ntmps64 rfl (fun B => ?_)
  repeat' (first | refine Cd.seq ?_ | refine Cd.reg ?_ | refine Ops.nil ?_ | refine Ops.asg rfl rfl rfl rfl ?_ | refine Ops.fa0 rfl rfl rfl rfl ?_ | refine Ops.ld1 rfl rfl rfl rfl rfl ?_ | refine Ops.bin rfl rfl rfl rfl rfl ?_ | refine Ops.box rfl rfl rfl rfl (noPd rfl) (fun b => ?_))
  exact Cd.ret (ret1 rfl (Res.tmp rfl) (fun _ h => h.tail) ⟨rfl, rfl⟩)

@[reducible] def deadF : Value := .func (.func 64) #[] #[]
def liveB (d : Dk) : Bool := !decide (d.life = 0)
theorem index_no (sv : Value) (rs : List Dk) (G : List Blk) (h : OwnK sv rs G) (hlen : rs.length ≤ 1000) (ha : ∀ r ∈ rs, r.life ≠ 0) :
    Con Try.prog 65 #[sv, deadF] G fun v A => v = .int .i64 (-1) ∧ A = G := by
  obtain ⟨a, c, rfl⟩ := h.form
  refine Con.intro (vs := [_, _]) Try.func65 rfl Try.ntmps65 rfl (fun B => ?_)
  repeat' (first | refine Cd.seq ?_ | refine Cd.reg ?_ | refine Ops.nil ?_ | refine Ops.mv rfl rfl rfl rfl ?_ | refine Ops.asg rfl rfl rfl rfl ?_ | refine Ops.lenS rfl rfl rfl rfl ?_ | refine Cd.block ?_)
  refine Cd.loopK (fun i : Nat => i ≤ rs.length) (fun i => [(0, .slice a rs.length c), (1, deadF), (7, .int .i64 rs.length), (8, .int .i64 i)]) (fun _ => G) (fun i => rs.length - i) 0 (Nat.zero_le _) ⟨rfl, rfl, rfl, rfl, trivial⟩ (fun w h => h) (fun i hi => ?_)
  by_cases hil : i < rs.length
  · have hil' : (i : Int) < rs.length := by omega
    obtain ⟨g, c2, spare, e1, rfl, hsp, hle⟩ := h.some_ (by omega)
    injection e1 with q1 q2 q3
    subst q1; subst q3
    obtain ⟨r, hr⟩ : ∃ r, rs[i]? = some r := ⟨_, List.getElem?_eq_getElem hil⟩
    have hok := dks_ok rs
    have hx : (dks rs)[(i : Int).toNat]? = some r.row := by simp [dks, hr]
    have hlf := ha r (List.mem_of_getElem? hr)
    repeat' (first | refine Cd.seq ?_ | refine Cd.reg ?_ | refine Ops.mv rfl rfl rfl rfl ?_ | refine Ops.asg rfl rfl rfl rfl ?_ | refine Ops.bin rfl rfl rfl rfl rfl ?_ | refine Cd.block ?_ | refine Cd.skip (Cd.next ?_) | refine Ops.ixa0 rfl rfl rfl rfl (by omega) (by omega) rfl ?_ | refine Ops.ldRow rfl rfl rfl (by assumption) (by assumption) rfl ?_ | refine Cd.condT rfl (by first | rfl | assumption | (simp only [decide_eq_true_eq, decide_eq_false_iff_not, Bool.not_eq_true', Bool.not_eq_false', Bool.not_eq_eq_eq_not, Bool.not_true, Bool.not_false, beq_iff_eq, beq_eq_false_iff_ne, ne_eq, decide_eq_decide, eq_self, true_iff, iff_true, not_true_eq_false, not_false_eq_true]; first | done | omega)) ?_)
    refine Ops.callV (f := 64) (fi := []) (ca := []) (dead_spec r) rfl (noPd rfl) rfl rfl rfl rfl (fun v A' hR => ?_)
    obtain ⟨rfl, rfl⟩ := hR
    repeat' (first | refine Cd.reg ?_ | refine Ops.nil ?_ | refine Ops.mv rfl rfl rfl rfl ?_ | refine Ops.addI rfl rfl rfl rfl (by omega) (by omega) rfl ?_ | refine Cd.skip (Cd.next (Q' := fun _ _ _ => True) ?_) | refine Cd.condF rfl (by first | rfl | assumption | (simp only [decide_eq_true_eq, decide_eq_false_iff_not, Bool.not_eq_true', Bool.not_eq_false', Bool.not_eq_eq_eq_not, Bool.not_true, Bool.not_false, beq_iff_eq, beq_eq_false_iff_ne, ne_eq, decide_eq_decide, eq_self, true_iff, iff_true, not_true_eq_false, not_false_eq_true]; first | done | omega)) ?_)
    exact Ops.nilN (round_end (i + 1) (by show i + 1 ≤ rs.length; omega) (by show rs.length - (i + 1) < rs.length - i; omega) ⟨rfl, rfl, rfl, rfl, trivial⟩ (fun w h => h.split))
  · obtain rfl : i = rs.length := by omega
    repeat' (first | refine Cd.seq ?_ | refine Cd.reg ?_ | refine Ops.nil ?_ | refine Ops.asg rfl rfl rfl rfl ?_ | refine Ops.bin rfl rfl rfl rfl rfl ?_ | refine Cd.exit (Cd.next (Q' := fun _ _ _ => True) ?_) | refine Cd.condF rfl (by first | rfl | assumption | (simp only [decide_eq_true_eq, decide_eq_false_iff_not, Bool.not_eq_true', Bool.not_eq_false', Bool.not_eq_eq_eq_not, Bool.not_true, Bool.not_false, beq_iff_eq, beq_eq_false_iff_ne, ne_eq, decide_eq_decide, eq_self, true_iff, iff_true, not_true_eq_false, not_false_eq_true]; first | done | omega)) ?_)
    exact Cd.ret (ret1 rfl (Res.tmp rfl) (fun _ h => h) ⟨rfl, rfl⟩)

theorem index_yes (sv : Value) (rs : List Dk) (G : List Blk) (k : Nat) (d : Dk) (h : OwnK sv rs G) (hlen : rs.length ≤ 1000) (ha : ∀ (i : Nat) r, rs[i]? = some r → i < k → r.life ≠ 0) (hk : rs[k]? = some d) (hd : d.life = 0) :
    Con Try.prog 65 #[sv, deadF] G fun v A => v = .int .i64 k ∧ A = G := by
  have hkl : k < rs.length := (List.getElem?_eq_some_iff.1 hk).1
  obtain ⟨g, c, spare, rfl, rfl, hsp, hle⟩ := h.some_ (by omega)
  have hok := dks_ok rs
  refine Con.intro (vs := [_, _]) Try.func65 rfl Try.ntmps65 rfl (fun B => ?_)
  repeat' (first | refine Cd.seq ?_ | refine Cd.reg ?_ | refine Ops.nil ?_ | refine Ops.mv rfl rfl rfl rfl ?_ | refine Ops.asg rfl rfl rfl rfl ?_ | refine Ops.lenS rfl rfl rfl rfl ?_ | refine Cd.block ?_)
  refine Cd.loopK (fun i : Nat => i ≤ k) (fun i => [(0, .slice (some ⟨g, 0, none⟩) rs.length c), (1, deadF), (7, .int .i64 rs.length), (8, .int .i64 i)]) (fun _ => [(g, cl ((dks rs).flatten ++ spare) 98)]) (fun i => k - i) 0 (Nat.zero_le _) ⟨rfl, rfl, rfl, rfl, trivial⟩ (fun w h => h) (fun i hi => ?_)
  have hil' : (i : Int) < rs.length := by omega
  obtain ⟨r, hr⟩ : ∃ r, rs[i]? = some r := ⟨_, List.getElem?_eq_getElem (by omega)⟩
  have hx : (dks rs)[(i : Int).toNat]? = some r.row := by simp [dks, hr]
  by_cases hik : i < k
  · have hlf := ha i r hr hik
    repeat' (first | refine Cd.seq ?_ | refine Cd.reg ?_ | refine Ops.mv rfl rfl rfl rfl ?_ | refine Ops.asg rfl rfl rfl rfl ?_ | refine Ops.bin rfl rfl rfl rfl rfl ?_ | refine Cd.block ?_ | refine Cd.skip (Cd.next ?_) | refine Ops.ixa0 rfl rfl rfl rfl (by omega) (by omega) rfl ?_ | refine Ops.ldRow rfl rfl rfl (by assumption) (by assumption) rfl ?_ | refine Cd.condT rfl (by first | rfl | assumption | (simp only [decide_eq_true_eq, decide_eq_false_iff_not, Bool.not_eq_true', Bool.not_eq_false', Bool.not_eq_eq_eq_not, Bool.not_true, Bool.not_false, beq_iff_eq, beq_eq_false_iff_ne, ne_eq, decide_eq_decide, eq_self, true_iff, iff_true, not_true_eq_false, not_false_eq_true]; first | done | omega)) ?_)
    refine Ops.callV (f := 64) (fi := []) (ca := []) (dead_spec r) rfl (noPd rfl) rfl rfl rfl rfl (fun v A' hR => ?_)
    obtain ⟨rfl, rfl⟩ := hR
    repeat' (first | refine Cd.reg ?_ | refine Ops.nil ?_ | refine Ops.mv rfl rfl rfl rfl ?_ | refine Ops.addI rfl rfl rfl rfl (by omega) (by omega) rfl ?_ | refine Cd.skip (Cd.next (Q' := fun _ _ _ => True) ?_) | refine Cd.condF rfl (by first | rfl | assumption | (simp only [decide_eq_true_eq, decide_eq_false_iff_not, Bool.not_eq_true', Bool.not_eq_false', Bool.not_eq_eq_eq_not, Bool.not_true, Bool.not_false, beq_iff_eq, beq_eq_false_iff_ne, ne_eq, decide_eq_decide, eq_self, true_iff, iff_true, not_true_eq_false, not_false_eq_true]; first | done | omega)) ?_)
    exact Ops.nilN (round_end (i + 1) (by show i + 1 ≤ k; omega) (by show k - (i + 1) < k - i; omega) ⟨rfl, rfl, rfl, rfl, trivial⟩ (fun w h => h.split))
  · obtain rfl : i = k := by omega
    obtain rfl : d = r := by rw [hk] at hr; exact Option.some.inj hr
    repeat' (first | refine Cd.seq ?_ | refine Cd.reg ?_ | refine Ops.mv rfl rfl rfl rfl ?_ | refine Ops.asg rfl rfl rfl rfl ?_ | refine Ops.bin rfl rfl rfl rfl rfl ?_ | refine Cd.block ?_ | refine Cd.skip (Cd.next ?_) | refine Ops.ixa0 rfl rfl rfl rfl (by omega) (by omega) rfl ?_ | refine Ops.ldRow rfl rfl rfl (by assumption) (by assumption) rfl ?_ | refine Cd.condT rfl (by first | rfl | assumption | (simp only [decide_eq_true_eq, decide_eq_false_iff_not, Bool.not_eq_true', Bool.not_eq_false', Bool.not_eq_eq_eq_not, Bool.not_true, Bool.not_false, beq_iff_eq, beq_eq_false_iff_ne, ne_eq, decide_eq_decide, eq_self, true_iff, iff_true, not_true_eq_false, not_false_eq_true]; first | done | omega)) ?_)
    refine Ops.callV (f := 64) (fi := []) (ca := []) (dead_spec d) rfl (noPd rfl) rfl rfl rfl rfl (fun v A' hR => ?_)
    obtain ⟨rfl, rfl⟩ := hR
    repeat' (first | refine Cd.seq ?_ | refine Cd.reg ?_ | refine Ops.nil ?_ | refine Ops.mv rfl rfl rfl rfl ?_ | refine Ops.asg rfl rfl rfl rfl ?_ | refine Cd.condT rfl (by first | rfl | assumption | (simp only [decide_eq_true_eq, decide_eq_false_iff_not, Bool.not_eq_true', Bool.not_eq_false', Bool.not_eq_eq_eq_not, Bool.not_true, Bool.not_false, beq_iff_eq, beq_eq_false_iff_ne, ne_eq, decide_eq_decide, eq_self, true_iff, iff_true, not_true_eq_false, not_false_eq_true]; first | done | omega)) ?_)
    exact Cd.ret (ret1 rfl (Res.tmp rfl) (fun _ h => h.split) ⟨rfl, rfl⟩)
end Go.Proofs.Ytdfimjgbdipnjaa
