import Derived.Test.YtfghnepmbgbnoaaA16
import Derived.Test.YtfghnepmbgbnoaaSepF
namespace Go.Proofs.Ytfghnepmbgbnoaa
open Go Go.Sep Go.Proofs
set_option maxRecDepth 10000
set_option maxHeartbeats 4000000
set_option synthInstance.maxSize 2000
set_option linter.unusedSimpArgs false
set_option linter.unusedVariables false

/-! The document's book, weakly: each of its functions ends, and what it leaves is a book. -/
structure RJ where
  st : Int
  bd : Int
  rc : Int
  rb : Int
  log : List ByteArray
  la : Option Addr
  lc : Nat
@[reducible] def RJ.row (x : RJ) : List Value := [.int .i64 x.st, .int .i64 x.bd, .int .i64 x.rc, .int .u64 x.rb, .slice x.la x.log.length x.lc]
def OwnR (sv : Value) (l : List RJ) (G : List Blk) : Prop := Own 78 5 sv (l.map RJ.row) G
theorem rj_ok (l : List RJ) : RowsOk 5 (l.map RJ.row) := rows_map (f := RJ.row) (fun _ => ⟨rfl, rfl⟩) l
theorem OwnR.form {sv : Value} {l : List RJ} {G : List Blk} (h : OwnR sv l G) : ∃ a c, sv = .slice a l.length c := by
  obtain ⟨a, c, h⟩ := Own.form h
  exact ⟨a, c, by rw [h, List.length_map]⟩
def JIn (B : Base) (a : Option Addr) (l : List RJ) : Prop := ∀ (i : Nat) (e : RJ), l[i]? = some e → ∃ b off, a = some ⟨b, off, none⟩ ∧ ∀ A j u, e.row[j]? = some u → Rd B A b (off + i * 5 + j) u
theorem JIn.ext {B B2 : Base} {a : Option Addr} {l : List RJ} (e : Ext B B2) (h : JIn B a l) : JIn B2 a l := fun i s hs => by
  obtain ⟨b, off, ha, hr⟩ := h i s hs
  exact ⟨b, off, ha, fun A j u hu => (hr A j u hu).ext e⟩
theorem OwnR.jin {a : Option Addr} {n c : Nat} {l : List RJ} {G : List Blk} (h : OwnR (.slice a n c) l G) {B : Base} (hG : Holds B G) : JIn B a l := fun i e he => by
  have hlt := (List.getElem?_eq_some_iff.1 he).1
  obtain ⟨g, c', spare, h1, h2, h3, h4⟩ := Own.some_ h (by rw [List.length_map]; omega)
  injection h1 with e1 e2 e3
  refine ⟨g, 0, e1, fun A j u hu => ?_⟩
  have hrow : (l.map RJ.row)[i]? = some e.row := by rw [List.getElem?_map, he]; rfl
  have hj : j < 5 := (List.getElem?_eq_some_iff.1 hu).1
  have h5 := (rj_ok l).at_ hrow hj
  rw [Nat.zero_add]
  exact hG.cell (l := (l.map RJ.row).flatten ++ spare) (by rw [h2]; exact List.mem_singleton.2 rfl) (by rw [List.getElem?_append_left (List.getElem?_eq_some_iff.1 (h5.trans hu)).1, h5, hu]) A
@[reducible] def BKv (b : Nat) (v0 v1 v2 v3 v4 v5 v6 v7 v8 : Value) : Blk := (b, cl [v0, v1, v2, v3, v4, v5, v6, v7, v8] 56)

theorem rmay_spec (e : Ev) : Con Try.prog 18 #[.agg e.row.toArray] [] fun v A => v = .bool (mayE e) ∧ A = [] := by
  refine Con.intro (vs := [_]) Try.func18 rfl Try.ntmps18 rfl (fun B => ?_)
  repeat' (first | refine Cd.seq ?_ | refine Cd.reg ?_ | refine Ops.nil ?_ | refine Ops.mv rfl rfl rfl rfl ?_ | refine Ops.asg rfl rfl rfl rfl ?_ | refine Ops.fa0 rfl rfl rfl rfl ?_ | refine Ops.ld1 rfl rfl rfl rfl rfl ?_ | refine Ops.bin rfl rfl rfl rfl rfl ?_ | refine Ops.pickT rfl rfl rfl rfl rfl ?_ | refine Ops.pickF rfl rfl rfl rfl rfl ?_ | refine Ops.box rfl rfl rfl rfl (noPd rfl) (fun b => ?_) | refine Ops.gSkip rfl rfl rfl ?_ | refine Cd.condT rfl rfl ?_ | refine Cd.block ?_ | refine Cd.skip (Cd.next ?_) | refine Cd.skip (Cd.next (Q' := fun _ _ _ => True) ?_) | refine Cd.condT rfl (by first | rfl | assumption | (simp only [decide_eq_true_eq, decide_eq_false_iff_not, Bool.not_eq_true', Bool.not_eq_false', Bool.not_eq_eq_eq_not, Bool.not_true, Bool.not_false, beq_iff_eq, beq_eq_false_iff_ne, ne_eq, decide_eq_decide, eq_self, true_iff, iff_true, not_true_eq_false, not_false_eq_true]; first | done | omega)) ?_ | refine Cd.condF rfl (by first | rfl | assumption | (simp only [decide_eq_true_eq, decide_eq_false_iff_not, Bool.not_eq_true', Bool.not_eq_false', Bool.not_eq_eq_eq_not, Bool.not_true, Bool.not_false, beq_iff_eq, beq_eq_false_iff_ne, ne_eq, decide_eq_decide, eq_self, true_iff, iff_true, not_true_eq_false, not_false_eq_true]; first | done | omega)) ?_ | ((fail_if_success refine Ops.probe rfl ?_); refine Ops.gSplit rfl rfl (fun hc => ?_) (fun hc => ?_) <;> (try simp only [decide_eq_true_eq, decide_eq_false_iff_not, Bool.not_eq_true', Bool.not_eq_false', Bool.not_eq_eq_eq_not, Bool.not_true, Bool.not_false, Int.not_lt, Int.not_le] at hc)) | (refine Cd.cond rfl (fun hc => ?_) (fun hc => ?_) <;> (try simp only [decide_eq_true_eq, decide_eq_false_iff_not, Bool.not_eq_true', Bool.not_eq_false', Bool.not_eq_eq_eq_not, Bool.not_true, Bool.not_false, Int.not_lt, Int.not_le] at hc)))
  all_goals refine Cd.ret (ret1 (A' := []) rfl (Res.tmp rfl) (fun _ h => h.split) ⟨?_, rfl⟩)
  all_goals
    refine congrArg Value.bool ?_
    rw [Bool.eq_iff_iff]
    simp only [mayE, Bool.and_eq_true, Bool.or_eq_true, Bool.not_eq_true', decide_eq_true_eq, decide_eq_false_iff_not, Bool.false_eq_true, false_iff, iff_false, true_iff, iff_true] at *
    omega

theorem rule_spec (sv : Value) (xs : List Int) (G : List Blk) (n : Int) (bb : Bool) (hO : OwnI sv xs G) (hx : xs.length ≤ 1000) :
    Con Try.prog 20 #[sv, .int .i64 n, .bool bb] G fun v A => ∃ ys, OwnI v ys A ∧ ys.length ≤ xs.length + 1 := by
  have hll : (xs.map irow).length = xs.length := List.length_map _
  obtain ⟨a, c, rfl⟩ := OwnI.form hO
  refine Con.intro (vs := [_, _, _]) Try.func20 rfl Try.ntmps20 rfl (fun B => ?_)
  cases bb with
  | false =>
    repeat' (first | refine Cd.seq ?_ | refine Cd.reg ?_ | refine Ops.nil ?_ | refine Ops.mv rfl rfl rfl rfl ?_ | refine Ops.asg rfl rfl rfl rfl ?_ | refine Cd.condF rfl rfl ?_ | refine Cd.skip (Cd.next ?_))
    exact Cd.ret (ret1 (A' := G) rfl (Res.tmp rfl) (fun _ h => h) ⟨xs, hO, by omega⟩)
  | true =>
    repeat' (first | refine Cd.seq ?_ | refine Cd.reg ?_ | refine Ops.nil ?_ | refine Ops.mv rfl rfl rfl rfl ?_ | refine Ops.asg rfl rfl rfl rfl ?_ | refine Ops.bs1 rfl rfl rfl rfl rfl rfl rfl (noPd rfl) (fun b => ?_) | refine Cd.condT rfl rfl ?_)
    refine Ops.app1 (rows := xs.map irow) hO (by rw [hll]; omega) (by rw [hll]; omega) rfl rfl rfl rfl (by rfl) (by rfl) rfl (noPd rfl) rfl (fun v G' hG' => ?_)
    have hG2 : OwnI v (xs ++ [n]) G' := by
      unfold OwnI; rw [List.map_append]; exact hG'
    clear hG'
    obtain ⟨a', c', rfl⟩ := hG2.form
    repeat' (first | refine Ops.nil ?_ | refine Ops.asg rfl rfl rfl rfl ?_)
    exact Cd.ret (ret1 (A' := G') rfl (Res.tmp rfl) (fun _ h => h.split) ⟨_, hG2, by simp⟩)

theorem rknown_spec (b : Nat) (ja : Option Addr) (jn jc : Nat) (v1 v2 v3 v4 v5 v6 v7 v8 : Value) (n : Int) :
    Con Try.prog 52 #[ptr b, .int .i64 n] [BKv b (.slice ja jn jc) v1 v2 v3 v4 v5 v6 v7 v8] fun v A => v = .bool (decide (1 ≤ n ∧ n ≤ jn)) ∧ A = [BKv b (.slice ja jn jc) v1 v2 v3 v4 v5 v6 v7 v8] := by
  refine Con.intro (vs := [_, _]) Try.func52 rfl Try.ntmps52 rfl (fun B => ?_)
  by_cases h1 : 1 ≤ n
  · repeat' (first | refine Cd.seq ?_ | refine Cd.reg ?_ | refine Ops.nil ?_ | refine Ops.mv rfl rfl rfl rfl ?_ | refine Ops.asg rfl rfl rfl rfl ?_ | refine Ops.nilP rfl rfl rfl rfl ?_ | refine Ops.fa0 rfl rfl rfl rfl ?_ | refine Ops.ld1 rfl rfl rfl rfl rfl ?_ | refine Ops.lenS rfl rfl rfl rfl ?_ | refine Ops.bin rfl rfl rfl rfl rfl ?_ | refine Ops.pickT rfl rfl rfl rfl rfl ?_ | ((fail_if_success refine Ops.probe rfl ?_); refine Ops.gT rfl rfl (by first | rfl | assumption | (simp only [decide_eq_true_eq, decide_eq_false_iff_not, Bool.not_eq_true', Bool.not_eq_false', Bool.not_eq_eq_eq_not, Bool.not_true, Bool.not_false, beq_iff_eq, beq_eq_false_iff_ne, ne_eq, decide_eq_decide, eq_self, true_iff, iff_true, not_true_eq_false, not_false_eq_true]; first | done | omega)) ?_))
    exact Cd.ret (ret1 (A' := [BKv b (.slice ja jn jc) v1 v2 v3 v4 v5 v6 v7 v8]) rfl (Res.tmp rfl) (fun _ h => h.split) ⟨by simp [h1], rfl⟩)
  · repeat' (first | refine Cd.seq ?_ | refine Cd.reg ?_ | refine Ops.nil ?_ | refine Ops.mv rfl rfl rfl rfl ?_ | refine Ops.asg rfl rfl rfl rfl ?_ | refine Ops.bin rfl rfl rfl rfl rfl ?_ | refine Ops.pickF rfl rfl rfl rfl rfl ?_ | refine Ops.gSkip rfl rfl rfl ?_ | ((fail_if_success refine Ops.probe rfl ?_); refine Ops.gF rfl rfl (by first | rfl | assumption | (simp only [decide_eq_true_eq, decide_eq_false_iff_not, Bool.not_eq_true', Bool.not_eq_false', Bool.not_eq_eq_eq_not, Bool.not_true, Bool.not_false, beq_iff_eq, beq_eq_false_iff_ne, ne_eq, decide_eq_decide, eq_self, true_iff, iff_true, not_true_eq_false, not_false_eq_true]; first | done | omega)) ?_))
    exact Cd.ret (ret1 (A' := [BKv b (.slice ja jn jc) v1 v2 v3 v4 v5 v6 v7 v8]) rfl (Res.tmp rfl) (fun _ h => h.split) ⟨by simp [h1], rfl⟩)

theorem rheld_spec (B0 : Base) (b : Nat) (ja : Option Addr) (jc : Nat) (jobs : List RJ) (v1 v2 v3 v4 v5 v6 v7 v8 : Value) (n badge : Int) (hJ : JIn B0 ja jobs) (hf : jobs.length ≤ 1000) :
    ConB Try.prog B0 53 #[ptr b, .int .i64 n, .int .i64 badge] [BKv b (.slice ja jobs.length jc) v1 v2 v3 v4 v5 v6 v7 v8] fun v A => (∃ c, v = .bool c ∧ (c = true → 1 ≤ n ∧ n ≤ jobs.length)) ∧ A = [BKv b (.slice ja jobs.length jc) v1 v2 v3 v4 v5 v6 v7 v8] := by
  refine ConB.intro (vs := [_, _, _]) Try.func53 rfl Try.ntmps53 rfl (fun B hx => ?_)
  have hJ := hJ.ext hx
  generalize B.plain = B1 at hJ ⊢
  clear hx
  repeat' (first | refine Cd.seq ?_ | refine Cd.reg ?_ | refine Ops.mv rfl rfl rfl rfl ?_ | refine Ops.asg rfl rfl rfl rfl ?_)
  refine Ops.call (rknown_spec b ja jobs.length jc v1 v2 v3 v4 v5 v6 v7 v8 n) rfl (noPd rfl) rfl rfl rfl (fun v A' hR => ?_)
  obtain ⟨rfl, rfl⟩ := hR
  by_cases hk : 1 ≤ n ∧ n ≤ jobs.length
  · rw [decide_eq_true hk]
    obtain ⟨x, hx⟩ : ∃ x, jobs[(n - 1).toNat]? = some x := ⟨_, List.getElem?_eq_getElem (by omega)⟩
    obtain ⟨b0, off0, rfl, hrd⟩ := hJ _ x hx
    have hr0 : ∀ A, Rd B1 A b0 (off0 + (n - 1).toNat * 5 + 0) (.int .i64 x.st) := fun A => hrd A 0 _ rfl
    have hr1 : ∀ A, Rd B1 A b0 (off0 + (n - 1).toNat * 5 + 1) (.int .i64 x.bd) := fun A => hrd A 1 _ rfl
    clear hrd
    repeat' (first | refine Ops.nil ?_ | refine Ops.mv rfl rfl rfl rfl ?_ | refine Ops.asg rfl rfl rfl rfl ?_ | refine Ops.nilP rfl rfl rfl rfl ?_ | refine Ops.fa0 rfl rfl rfl rfl ?_ | refine Ops.fa rfl rfl rfl rfl ?_ | refine Ops.ld1 rfl rfl rfl rfl rfl ?_ | refine Ops.subI rfl rfl rfl rfl (by omega) (by omega) rfl ?_ | refine Ops.bin rfl rfl rfl rfl rfl ?_ | refine Ops.pickT rfl rfl rfl rfl rfl ?_ | refine Ops.pickF rfl rfl rfl rfl rfl ?_ | refine Ops.gSkip rfl rfl rfl ?_ | refine Ops.ixa rfl rfl rfl rfl (by omega) (by omega) rfl ?_ | refine Ops.ldR rfl rfl rfl (by apply_assumption) rfl ?_ | ((fail_if_success refine Ops.probe rfl ?_); refine Ops.gSplit rfl rfl (fun hc => ?_) (fun hc => ?_) <;> (try simp only [decide_eq_true_eq, decide_eq_false_iff_not, Bool.not_eq_true', Bool.not_eq_false', Bool.not_eq_eq_eq_not, Bool.not_true, Bool.not_false, Int.not_lt, Int.not_le] at hc)))
    all_goals exact Cd.ret (ret1 (A' := [BKv b (.slice (some ⟨b0, off0, none⟩) jobs.length jc) v1 v2 v3 v4 v5 v6 v7 v8]) rfl (Res.tmp rfl) (fun _ h => h.split) ⟨⟨_, rfl, fun _ => hk⟩, rfl⟩)
  · rw [decide_eq_false hk]
    repeat' (first | refine Ops.nil ?_ | refine Ops.mv rfl rfl rfl rfl ?_ | refine Ops.asg rfl rfl rfl rfl ?_ | refine Ops.pickF rfl rfl rfl rfl rfl ?_ | refine Ops.gSkip rfl rfl rfl ?_)
    exact Cd.ret (ret1 (A' := [BKv b (.slice ja jobs.length jc) v1 v2 v3 v4 v5 v6 v7 v8]) rfl (Res.tmp rfl) (fun _ h => h.split) ⟨⟨_, rfl, (fun h => by cases h)⟩, rfl⟩)

theorem rover_spec (B0 : Base) (b : Nat) (ja : Option Addr) (jc : Nat) (jobs : List RJ) (v1 v2 v3 v4 v5 v6 v7 v8 : Value) (n : Int) (hJ : JIn B0 ja jobs) (hf : jobs.length ≤ 1000) :
    ConB Try.prog B0 55 #[ptr b, .int .i64 n] [BKv b (.slice ja jobs.length jc) v1 v2 v3 v4 v5 v6 v7 v8] fun v A => (∃ c, v = .bool c) ∧ A = [BKv b (.slice ja jobs.length jc) v1 v2 v3 v4 v5 v6 v7 v8] := by
  refine ConB.intro (vs := [_, _]) Try.func55 rfl Try.ntmps55 rfl (fun B hx => ?_)
  have hJ := hJ.ext hx
  generalize B.plain = B1 at hJ ⊢
  clear hx
  repeat' (first | refine Cd.seq ?_ | refine Cd.reg ?_ | refine Ops.mv rfl rfl rfl rfl ?_ | refine Ops.asg rfl rfl rfl rfl ?_)
  refine Ops.call (rknown_spec b ja jobs.length jc v1 v2 v3 v4 v5 v6 v7 v8 n) rfl (noPd rfl) rfl rfl rfl (fun v A' hR => ?_)
  obtain ⟨rfl, rfl⟩ := hR
  by_cases hk : 1 ≤ n ∧ n ≤ jobs.length
  · rw [decide_eq_true hk]
    obtain ⟨x, hx⟩ : ∃ x, jobs[(n - 1).toNat]? = some x := ⟨_, List.getElem?_eq_getElem (by omega)⟩
    obtain ⟨b0, off0, rfl, hrd⟩ := hJ _ x hx
    have hr0 : ∀ A, Rd B1 A b0 (off0 + (n - 1).toNat * 5 + 0) (.int .i64 x.st) := fun A => hrd A 0 _ rfl
    clear hrd
    repeat' (first | refine Ops.nil ?_ | refine Ops.mv rfl rfl rfl rfl ?_ | refine Ops.asg rfl rfl rfl rfl ?_ | refine Ops.nilP rfl rfl rfl rfl ?_ | refine Ops.fa0 rfl rfl rfl rfl ?_ | refine Ops.fa rfl rfl rfl rfl ?_ | refine Ops.ld1 rfl rfl rfl rfl rfl ?_ | refine Ops.subI rfl rfl rfl rfl (by omega) (by omega) rfl ?_ | refine Ops.bin rfl rfl rfl rfl rfl ?_ | refine Ops.pickT rfl rfl rfl rfl rfl ?_ | refine Ops.pickF rfl rfl rfl rfl rfl ?_ | refine Ops.gSkip rfl rfl rfl ?_ | refine Ops.ixa rfl rfl rfl rfl (by omega) (by omega) rfl ?_ | refine Ops.ldR rfl rfl rfl (by apply_assumption) rfl ?_ | ((fail_if_success refine Ops.probe rfl ?_); refine Ops.gSplit rfl rfl (fun hc => ?_) (fun hc => ?_) <;> (try simp only [decide_eq_true_eq, decide_eq_false_iff_not, Bool.not_eq_true', Bool.not_eq_false', Bool.not_eq_eq_eq_not, Bool.not_true, Bool.not_false, Int.not_lt, Int.not_le] at hc)))
    all_goals exact Cd.ret (ret1 (A' := [BKv b (.slice (some ⟨b0, off0, none⟩) jobs.length jc) v1 v2 v3 v4 v5 v6 v7 v8]) rfl (Res.tmp rfl) (fun _ h => h.split) ⟨⟨_, rfl⟩, rfl⟩)
  · rw [decide_eq_false hk]
    repeat' (first | refine Ops.nil ?_ | refine Ops.mv rfl rfl rfl rfl ?_ | refine Ops.asg rfl rfl rfl rfl ?_ | refine Ops.pickF rfl rfl rfl rfl rfl ?_ | refine Ops.gSkip rfl rfl rfl ?_ | refine Ops.gSkipU rfl rfl rfl rfl ?_)
    exact Cd.ret (ret1 (A' := [BKv b (.slice ja jobs.length jc) v1 v2 v3 v4 v5 v6 v7 v8]) rfl (Res.tmp rfl) (fun _ h => h.split) ⟨⟨_, rfl⟩, rfl⟩)

theorem rtext_spec (B0 : Base) (a : Option Addr) (c : Nat) (l : List Ev) (badge index : Int) (hV : VIn B0 a l) (hl : l.length ≤ 2000000) :
    ConB Try.prog B0 57 #[.slice a l.length c, .int .i64 badge, .int .i64 index] [] fun v A => (∃ s c, v = .tuple #[.string s, .bool c]) ∧ A = [] := by
  refine ConB.intro (vs := [_, _, _]) Try.func57 rfl Try.ntmps57 rfl (fun B hx => ?_)
  have hV := hV.ext hx
  generalize B.plain = B1 at hV ⊢
  clear hx
  repeat' (first | refine Cd.seq ?_ | refine Cd.reg ?_ | refine Ops.nil ?_ | refine Ops.asg rfl rfl rfl rfl ?_ | refine Cd.block ?_)
  refine Cd.loopK (fun i : Nat => i ≤ l.length) (fun i => [(0, .slice a l.length c), (1, .int .i64 badge), (2, .int .i64 index), (8, .int .i64 i)]) (fun _ => []) (fun i => l.length - i) 0 (Nat.zero_le _) ⟨rfl, rfl, rfl, rfl, trivial⟩ (fun w h => h) (fun i hi => ?_)
  by_cases hil : i < l.length
  · have hil' : (i : Int) < l.length := by omega
    obtain ⟨x, hx⟩ : ∃ x, l[i]? = some x := ⟨_, List.getElem?_eq_getElem hil⟩
    obtain ⟨b0, off0, rfl, hrd⟩ := hV i x hx
    have hr5 : ∀ A, Rd B1 A b0 (off0 + (i : Int).toNat * 13 + 5) (.int .i64 x.badge) := fun A => by rw [Int.toNat_natCast]; exact hrd A 5 _ rfl
    have hr6 : ∀ A, Rd B1 A b0 (off0 + (i : Int).toNat * 13 + 6) (.int .i64 x.index) := fun A => by rw [Int.toNat_natCast]; exact hrd A 6 _ rfl
    have hr11 : ∀ A, Rd B1 A b0 (off0 + (i : Int).toNat * 13 + 11) (.string x.text) := fun A => by rw [Int.toNat_natCast]; exact hrd A 11 _ rfl
    clear hrd
    repeat' (first | refine Cd.seq ?_ | refine Cd.reg ?_ | refine Ops.nil ?_ | refine Ops.mv rfl rfl rfl rfl ?_ | refine Ops.asg rfl rfl rfl rfl ?_ | refine Ops.fa rfl rfl rfl rfl ?_ | refine Ops.lenS rfl rfl rfl rfl ?_ | refine Ops.addI rfl rfl rfl rfl (by omega) (by omega) rfl ?_ | refine Ops.bin rfl rfl rfl rfl rfl ?_ | refine Ops.pickT rfl rfl rfl rfl rfl ?_ | refine Ops.pickF rfl rfl rfl rfl rfl ?_ | refine Ops.gSkip rfl rfl rfl ?_ | refine Cd.condF rfl rfl ?_ | refine Cd.block ?_ | refine Cd.skip (Cd.next ?_) | refine Cd.skip (Cd.next (Q' := fun _ _ _ => True) ?_) | refine Ops.ixa rfl rfl rfl rfl (by omega) (by omega) rfl ?_ | refine Ops.ldR rfl rfl rfl (by apply_assumption) rfl ?_ | refine Cd.condT rfl (by first | rfl | assumption | (simp only [decide_eq_true_eq, decide_eq_false_iff_not, Bool.not_eq_true', Bool.not_eq_false', Bool.not_eq_eq_eq_not, Bool.not_true, Bool.not_false, beq_iff_eq, beq_eq_false_iff_ne, ne_eq, decide_eq_decide, eq_self, true_iff, iff_true, not_true_eq_false, not_false_eq_true]; first | done | omega)) ?_ | ((fail_if_success refine Ops.probe rfl ?_); refine Ops.gSplit rfl rfl (fun hc => ?_) (fun hc => ?_) <;> (try simp only [decide_eq_true_eq, decide_eq_false_iff_not, Bool.not_eq_true', Bool.not_eq_false', Bool.not_eq_eq_eq_not, Bool.not_true, Bool.not_false, Int.not_lt, Int.not_le] at hc)) | (refine Cd.cond rfl (fun hc => ?_) (fun hc => ?_) <;> (try simp only [decide_eq_true_eq, decide_eq_false_iff_not, Bool.not_eq_true', Bool.not_eq_false', Bool.not_eq_eq_eq_not, Bool.not_true, Bool.not_false, Int.not_lt, Int.not_le] at hc)))
    all_goals first
      | exact Ops.nilN (round_end (i + 1) (by show i + 1 ≤ l.length; omega) (by show l.length - (i + 1) < l.length - i; omega) ⟨rfl, rfl, rfl, rfl, trivial⟩ (fun w h => h.split))
      | exact Cd.ret (ret2 (A' := []) rfl (Res.tmp rfl) (Res.tmp rfl) (fun _ h => h.split) ⟨⟨_, _, rfl⟩, rfl⟩)
  · obtain rfl : i = l.length := by omega
    have hil' : ¬ ((l.length : Nat) : Int) < l.length := by omega
    repeat' (first | refine Cd.seq ?_ | refine Cd.reg ?_ | refine Ops.nil ?_ | refine Ops.mv rfl rfl rfl rfl ?_ | refine Ops.asg rfl rfl rfl rfl ?_ | refine Ops.lenS rfl rfl rfl rfl ?_ | refine Ops.bin rfl rfl rfl rfl rfl ?_ | refine Cd.exit (Cd.next (Q' := fun _ _ _ => True) ?_) | refine Cd.condF rfl (by first | rfl | assumption | (simp only [decide_eq_true_eq, decide_eq_false_iff_not, Bool.not_eq_true', Bool.not_eq_false', Bool.not_eq_eq_eq_not, Bool.not_true, Bool.not_false, beq_iff_eq, beq_eq_false_iff_ne, ne_eq, decide_eq_decide, eq_self, true_iff, iff_true, not_true_eq_false, not_false_eq_true]; first | done | omega)) ?_)
    exact Cd.ret (ret2 (A' := []) rfl (Res.tmp rfl) (Res.tmp rfl) (fun _ h => h.split) ⟨⟨_, _, rfl⟩, rfl⟩)

theorem rbegins_spec (B0 : Base) (a : Option Addr) (ca : Nat) (l1 : List ByteArray) (b : Option Addr) (cb : Nat) (l2 : List ByteArray) (h1 : SIn B0 a l1) (h2 : SIn B0 b l2) (hl1 : l1.length ≤ 4000000) (hl2 : l2.length ≤ 4000000) :
    ConB Try.prog B0 73 #[.slice a l1.length ca, .slice b l2.length cb] [] fun v A => (∃ c, v = .bool c) ∧ A = [] := by
  refine ConB.intro (vs := [_, _]) Try.func73 rfl Try.ntmps73 rfl (fun B hx => ?_)
  have h1 := h1.ext hx
  have h2 := h2.ext hx
  generalize B.plain = B1 at h1 h2 ⊢
  clear hx
  by_cases hgt : (l2.length : Int) < l1.length
  · repeat' (first | refine Cd.seq ?_ | refine Cd.reg ?_ | refine Ops.nil ?_ | refine Ops.mv rfl rfl rfl rfl ?_ | refine Ops.asg rfl rfl rfl rfl ?_ | refine Ops.lenS rfl rfl rfl rfl ?_ | refine Ops.bin rfl rfl rfl rfl rfl ?_ | refine Cd.condT rfl (by first | rfl | assumption | (simp only [decide_eq_true_eq, decide_eq_false_iff_not, Bool.not_eq_true', Bool.not_eq_false', Bool.not_eq_eq_eq_not, Bool.not_true, Bool.not_false, beq_iff_eq, beq_eq_false_iff_ne, ne_eq, decide_eq_decide, eq_self, true_iff, iff_true, not_true_eq_false, not_false_eq_true]; first | done | omega)) ?_)
    exact Cd.ret (ret1 (A' := []) rfl (Res.tmp rfl) (fun _ h => h.split) ⟨⟨_, rfl⟩, rfl⟩)
  repeat' (first | refine Cd.seq ?_ | refine Cd.reg ?_ | refine Ops.nil ?_ | refine Ops.mv rfl rfl rfl rfl ?_ | refine Ops.asg rfl rfl rfl rfl ?_ | refine Ops.lenS rfl rfl rfl rfl ?_ | refine Ops.bin rfl rfl rfl rfl rfl ?_ | refine Cd.block ?_ | refine Cd.skip (Cd.next ?_) | refine Cd.condF rfl (by first | rfl | assumption | (simp only [decide_eq_true_eq, decide_eq_false_iff_not, Bool.not_eq_true', Bool.not_eq_false', Bool.not_eq_eq_eq_not, Bool.not_true, Bool.not_false, beq_iff_eq, beq_eq_false_iff_ne, ne_eq, decide_eq_decide, eq_self, true_iff, iff_true, not_true_eq_false, not_false_eq_true]; first | done | omega)) ?_)
  refine Cd.loopK (fun i : Nat => i ≤ l1.length) (fun i => [(0, .slice a l1.length ca), (1, .slice b l2.length cb), (5, .int .i64 i)]) (fun _ => []) (fun i => l1.length - i) 0 (Nat.zero_le _) ⟨rfl, rfl, rfl, trivial⟩ (fun w h => h) (fun i hi => ?_)
  by_cases hil : i < l1.length
  · have hil' : (i : Int) < l1.length := by omega
    have hil2 : (i : Int) < l2.length := by omega
    obtain ⟨x, hx⟩ : ∃ x, l1[i]? = some x := ⟨_, List.getElem?_eq_getElem hil⟩
    obtain ⟨y, hy⟩ : ∃ y, l2[i]? = some y := ⟨_, List.getElem?_eq_getElem (by omega)⟩
    obtain ⟨b0, off0, rfl, hrd⟩ := h1 i x hx
    obtain ⟨b1, off1, rfl, hrd1⟩ := h2 i y hy
    have hr0 : ∀ A, Rd B1 A b0 (off0 + (i : Int).toNat * 1) (.string x) := fun A => by rw [Int.toNat_natCast]; exact hrd A
    have hr1 : ∀ A, Rd B1 A b1 (off1 + (i : Int).toNat * 1) (.string y) := fun A => by rw [Int.toNat_natCast]; exact hrd1 A
    clear hrd hrd1
    by_cases hxy : x = y
    · repeat' (first | refine Cd.seq ?_ | refine Cd.reg ?_ | refine Ops.nil ?_ | refine Ops.mv rfl rfl rfl rfl ?_ | refine Ops.lenS rfl rfl rfl rfl ?_ | refine Ops.bin rfl rfl rfl rfl rfl ?_ | refine Cd.block ?_ | refine Cd.skip (Cd.next ?_) | refine Cd.condT rfl (by first | rfl | assumption | (simp only [decide_eq_true_eq, decide_eq_false_iff_not, Bool.not_eq_true', Bool.not_eq_false', Bool.not_eq_eq_eq_not, Bool.not_true, Bool.not_false, beq_iff_eq, beq_eq_false_iff_ne, ne_eq, decide_eq_decide, eq_self, true_iff, iff_true, not_true_eq_false, not_false_eq_true]; first | done | omega)) ?_)
      refine Cd.draw [(0, 0, []), (1, 0, []), (2, 0, []), (3, 1, []), (4, 0, []), (5, 0, []), (6, 0, []), (7, 1, []), (8, 0, [])] (by kernel_rfl) (by kernel_rfl) (by simp only [picked, nth]; exact rfl) ?_
      repeat' (first | refine Cd.reg ?_ | refine Ops.nil ?_ | refine Ops.mv rfl rfl rfl rfl ?_ | refine Ops.asg rfl rfl rfl rfl ?_ | refine Ops.addI rfl rfl rfl rfl (by omega) (by omega) rfl ?_ | refine Ops.bin rfl rfl rfl rfl rfl ?_ | refine Cd.skip (Cd.next (Q' := fun _ _ _ => True) ?_) | refine Ops.ixa rfl rfl rfl rfl (by omega) (by omega) rfl ?_ | refine Ops.ldR rfl rfl rfl (by apply_assumption) rfl ?_ | refine Cd.condF rfl (by first | rfl | assumption | (simp only [decide_eq_true_eq, decide_eq_false_iff_not, Bool.not_eq_true', Bool.not_eq_false', Bool.not_eq_eq_eq_not, Bool.not_true, Bool.not_false, beq_iff_eq, beq_eq_false_iff_ne, ne_eq, decide_eq_decide, eq_self, true_iff, iff_true, not_true_eq_false, not_false_eq_true]; first | done | omega)) ?_)
      all_goals first
        | exact Ops.nilN (round_end (i + 1) (by show i + 1 ≤ l1.length; omega) (by show l1.length - (i + 1) < l1.length - i; omega) ⟨rfl, rfl, rfl, trivial⟩ (fun w h => h.split))
        | exact Cd.ret (ret1 (A' := []) rfl (Res.tmp rfl) (fun _ h => h.split) ⟨⟨_, rfl⟩, rfl⟩)
    · repeat' (first | refine Cd.seq ?_ | refine Cd.reg ?_ | refine Ops.nil ?_ | refine Ops.mv rfl rfl rfl rfl ?_ | refine Ops.lenS rfl rfl rfl rfl ?_ | refine Ops.bin rfl rfl rfl rfl rfl ?_ | refine Cd.block ?_ | refine Cd.skip (Cd.next ?_) | refine Cd.condT rfl (by first | rfl | assumption | (simp only [decide_eq_true_eq, decide_eq_false_iff_not, Bool.not_eq_true', Bool.not_eq_false', Bool.not_eq_eq_eq_not, Bool.not_true, Bool.not_false, beq_iff_eq, beq_eq_false_iff_ne, ne_eq, decide_eq_decide, eq_self, true_iff, iff_true, not_true_eq_false, not_false_eq_true]; first | done | omega)) ?_)
      refine Cd.draw [(0, 0, []), (1, 0, []), (2, 0, []), (3, 1, []), (4, 0, []), (5, 0, []), (6, 0, []), (7, 1, []), (8, 0, [])] (by kernel_rfl) (by kernel_rfl) (by simp only [picked, nth]; exact rfl) ?_
      repeat' (first | refine Cd.seq ?_ | refine Cd.reg ?_ | refine Ops.nil ?_ | refine Ops.mv rfl rfl rfl rfl ?_ | refine Ops.asg rfl rfl rfl rfl ?_ | refine Ops.bin rfl rfl rfl rfl rfl ?_ | refine Ops.ixa rfl rfl rfl rfl (by omega) (by omega) rfl ?_ | refine Ops.ldR rfl rfl rfl (by apply_assumption) rfl ?_ | refine Cd.condT rfl (by first | rfl | assumption | (simp only [decide_eq_true_eq, decide_eq_false_iff_not, Bool.not_eq_true', Bool.not_eq_false', Bool.not_eq_eq_eq_not, Bool.not_true, Bool.not_false, beq_iff_eq, beq_eq_false_iff_ne, ne_eq, decide_eq_decide, eq_self, true_iff, iff_true, not_true_eq_false, not_false_eq_true]; first | done | omega)) ?_)
      all_goals first
        | exact Ops.nilN (round_end (i + 1) (by show i + 1 ≤ l1.length; omega) (by show l1.length - (i + 1) < l1.length - i; omega) ⟨rfl, rfl, rfl, trivial⟩ (fun w h => h.split))
        | exact Cd.ret (ret1 (A' := []) rfl (Res.tmp rfl) (fun _ h => h.split) ⟨⟨_, rfl⟩, rfl⟩)
  · obtain rfl : i = l1.length := by omega
    have hil' : ¬ ((l1.length : Nat) : Int) < l1.length := by omega
    repeat' (first | refine Cd.seq ?_ | refine Cd.reg ?_ | refine Ops.nil ?_ | refine Ops.mv rfl rfl rfl rfl ?_ | refine Ops.asg rfl rfl rfl rfl ?_ | refine Ops.lenS rfl rfl rfl rfl ?_ | refine Ops.bin rfl rfl rfl rfl rfl ?_ | refine Cd.exit (Cd.next (Q' := fun _ _ _ => True) ?_) | refine Cd.condF rfl (by first | rfl | assumption | (simp only [decide_eq_true_eq, decide_eq_false_iff_not, Bool.not_eq_true', Bool.not_eq_false', Bool.not_eq_eq_eq_not, Bool.not_true, Bool.not_false, beq_iff_eq, beq_eq_false_iff_ne, ne_eq, decide_eq_decide, eq_self, true_iff, iff_true, not_true_eq_false, not_false_eq_true]; first | done | omega)) ?_)
    exact Cd.ret (ret1 (A' := []) rfl (Res.tmp rfl) (fun _ h => h.split) ⟨⟨_, rfl⟩, rfl⟩)

theorem rchunks_spec (B0 : Base) (b : Nat) (ea : Option Addr) (ec : Nat) (em : List Ev) (v0 v1 v3 v4 v5 v6 v7 v8 : Value) (badge fr : Int) (a : Option Addr) (c : Nat) (l : List ByteArray) (hV : VIn B0 ea em) (hem : em.length ≤ 2000000) (hS : SIn B0 a l) (h0 : 0 ≤ fr) (h1 : fr ≤ 1099511627776) (hl : l.length ≤ 2000000) :
    ConB Try.prog B0 54 #[ptr b, .int .i64 badge, .int .i64 fr, .slice a l.length c] [BKv b v0 v1 (.slice ea em.length ec) v3 v4 v5 v6 v7 v8] fun v A => (∃ c, v = .bool c) ∧ A = [BKv b v0 v1 (.slice ea em.length ec) v3 v4 v5 v6 v7 v8] := by
  have htx := fun badge i => rtext_spec B0 ea ec em badge i hV hem
  refine ConB.intro (vs := [_, _, _, _]) Try.func54 rfl Try.ntmps54 rfl (fun B hx => ?_)
  have hS := hS.ext hx
  generalize B.plain = B1 at hS hx ⊢
  repeat' (first | refine Cd.seq ?_ | refine Cd.reg ?_ | refine Ops.nil ?_ | refine Ops.asg rfl rfl rfl rfl ?_ | refine Cd.block ?_)
  refine Cd.loopK (fun i : Nat => i ≤ l.length) (fun i => [(0, ptr b), (1, .int .i64 badge), (2, .int .i64 fr), (3, .slice a l.length c), (9, .int .i64 i)])
    (fun _ => [BKv b v0 v1 (.slice ea em.length ec) v3 v4 v5 v6 v7 v8]) (fun i => l.length - i) 0 (Nat.zero_le _) ⟨rfl, rfl, rfl, rfl, rfl, trivial⟩ (fun w h => h) (fun i hi => ?_)
  by_cases hil : i < l.length
  · have hil' : (i : Int) < l.length := by omega
    obtain ⟨x, hx0⟩ : ∃ x, l[i]? = some x := ⟨_, List.getElem?_eq_getElem hil⟩
    obtain ⟨b0, off0, rfl, hrd⟩ := hS i x hx0
    have hr0 : ∀ A, Rd B1 A b0 (off0 + (i : Int).toNat * 1) (.string x) := fun A => by rw [Int.toNat_natCast]; exact hrd A
    clear hrd
    repeat' (first | refine Cd.seq ?_ | refine Cd.reg ?_ | refine Ops.nil ?_ | refine Ops.mv rfl rfl rfl rfl ?_ | refine Ops.nilP rfl rfl rfl rfl ?_ | refine Ops.fa0 rfl rfl rfl rfl ?_ | refine Ops.ld1 rfl rfl rfl rfl rfl ?_ | refine Ops.lenS rfl rfl rfl rfl ?_ | refine Ops.addI rfl rfl rfl rfl (by omega) (by omega) rfl ?_ | refine Ops.bin rfl rfl rfl rfl rfl ?_ | refine Cd.block ?_ | refine Cd.skip (Cd.next ?_) | refine Cd.condT rfl (by first | rfl | assumption | (simp only [decide_eq_true_eq, decide_eq_false_iff_not, Bool.not_eq_true', Bool.not_eq_false', Bool.not_eq_eq_eq_not, Bool.not_true, Bool.not_false, beq_iff_eq, beq_eq_false_iff_ne, ne_eq, decide_eq_decide, eq_self, true_iff, iff_true, not_true_eq_false, not_false_eq_true]; first | done | omega)) ?_)
    refine Ops.callB (htx badge (fr + i)) hx rfl (noPd rfl) rfl rfl rfl (fun v A' hR => ?_)
    obtain ⟨⟨s, c1, rfl⟩, rfl⟩ := hR
    cases c1
    · repeat' (first | refine Cd.seq ?_ | refine Cd.reg ?_ | refine Ops.nil ?_ | refine Ops.mv rfl rfl rfl rfl ?_ | refine Ops.asg rfl rfl rfl rfl ?_ | refine Ops.un rfl rfl rfl rfl ?_ | refine Ops.pickT rfl rfl rfl rfl rfl ?_ | refine Ops.ext rfl rfl rfl rfl rfl ?_ | refine Ops.gSkip rfl rfl rfl ?_ | refine Cd.condT rfl rfl ?_)
      exact Cd.ret (ret1 (A' := [BKv b v0 v1 (.slice ea em.length ec) v3 v4 v5 v6 v7 v8]) rfl (Res.tmp rfl) (fun _ h => h.split) ⟨⟨_, rfl⟩, rfl⟩)
    · repeat' (first | refine Cd.seq ?_ | refine Cd.reg ?_ | refine Ops.nil ?_ | refine Ops.mv rfl rfl rfl rfl ?_ | refine Ops.asg rfl rfl rfl rfl ?_ | refine Ops.addI rfl rfl rfl rfl (by omega) (by omega) rfl ?_ | refine Ops.bin rfl rfl rfl rfl rfl ?_ | refine Ops.un rfl rfl rfl rfl ?_ | refine Ops.pickF rfl rfl rfl rfl rfl ?_ | refine Ops.ext rfl rfl rfl rfl rfl ?_ | refine Cd.skip (Cd.next (Q' := fun _ _ _ => True) ?_) | refine Ops.ixa rfl rfl rfl rfl (by omega) (by omega) rfl ?_ | refine Ops.ldR rfl rfl rfl (by apply_assumption) rfl ?_ | (refine Cd.cond rfl (fun hc => ?_) (fun hc => ?_) <;> (try simp only [decide_eq_true_eq, decide_eq_false_iff_not, Bool.not_eq_true', Bool.not_eq_false', Bool.not_eq_eq_eq_not, Bool.not_true, Bool.not_false, Int.not_lt, Int.not_le] at hc)))
      all_goals first
        | exact Ops.nilN (round_end (i + 1) (by show i + 1 ≤ l.length; omega) (by show l.length - (i + 1) < l.length - i; omega) ⟨rfl, rfl, rfl, rfl, rfl, trivial⟩ (fun w h => h.split))
        | exact Cd.ret (ret1 (A' := [BKv b v0 v1 (.slice ea em.length ec) v3 v4 v5 v6 v7 v8]) rfl (Res.tmp rfl) (fun _ h => h.split) ⟨⟨_, rfl⟩, rfl⟩)
  · obtain rfl : i = l.length := by omega
    have hil' : ¬ ((l.length : Nat) : Int) < l.length := by omega
    repeat' (first | refine Cd.seq ?_ | refine Cd.reg ?_ | refine Ops.nil ?_ | refine Ops.mv rfl rfl rfl rfl ?_ | refine Ops.asg rfl rfl rfl rfl ?_ | refine Ops.lenS rfl rfl rfl rfl ?_ | refine Ops.bin rfl rfl rfl rfl rfl ?_ | refine Cd.exit (Cd.next (Q' := fun _ _ _ => True) ?_) | refine Cd.condF rfl (by first | rfl | assumption | (simp only [decide_eq_true_eq, decide_eq_false_iff_not, Bool.not_eq_true', Bool.not_eq_false', Bool.not_eq_eq_eq_not, Bool.not_true, Bool.not_false, beq_iff_eq, beq_eq_false_iff_ne, ne_eq, decide_eq_decide, eq_self, true_iff, iff_true, not_true_eq_false, not_false_eq_true]; first | done | omega)) ?_)
    exact Cd.ret (ret1 (A' := [BKv b v0 v1 (.slice ea em.length ec) v3 v4 v5 v6 v7 v8]) rfl (Res.tmp rfl) (fun _ h => h.split) ⟨⟨_, rfl⟩, rfl⟩)

theorem rends_spec (B0 : Base) (b : Nat) (na : Option Addr) (nc : Nat) (en : List Ev) (v0 v1 v2 v3 v5 v6 v7 v8 : Value) (job badge rc rb count : Int) (hV : VIn B0 na en) (hen : en.length ≤ 2000000) :
    ConB Try.prog B0 56 #[ptr b, .int .i64 job, .int .i64 badge, .agg #[.int .i64 rc, .int .u64 rb], .int .i64 count] [BKv b v0 v1 v2 v3 (.slice na en.length nc) v5 v6 v7 v8] fun v A => (∃ c d, v = .tuple #[.bool c, .bool d]) ∧ A = [BKv b v0 v1 v2 v3 (.slice na en.length nc) v5 v6 v7 v8] := by
  refine ConB.intro (vs := [_, _, _, _, _]) Try.func56 rfl Try.ntmps56 rfl (fun B hx => ?_)
  have hV := hV.ext hx
  generalize B.plain = B1 at hV ⊢
  clear hx
  repeat' (first | refine Cd.seq ?_ | refine Cd.reg ?_ | refine Ops.nil ?_ | refine Ops.asg rfl rfl rfl rfl ?_ | refine Ops.box rfl rfl rfl rfl (noPd rfl) (fun b => ?_) | refine Cd.block ?_)
  rename Nat => b8
  refine Cd.loopK (σ := Nat × Bool × Bool) (fun s => s.1 ≤ en.length) (fun s => [(0, ptr b), (1, .int .i64 job), (2, .int .i64 badge), (4, .int .i64 count), (8, ptr b8), (12, .bool s.2.1), (13, .bool s.2.2), (14, .int .i64 s.1)])
    (fun _ => [(b8, cl [.int .i64 rc, .int .u64 rb] 36), BKv b v0 v1 v2 v3 (.slice na en.length nc) v5 v6 v7 v8]) (fun s => en.length - s.1) (0, false, false) (Nat.zero_le _) ⟨rfl, rfl, rfl, rfl, rfl, rfl, rfl, rfl, trivial⟩ (fun w h => h) (fun s hi => ?_)
  obtain ⟨i, c1, c2⟩ := s
  dsimp only at hi ⊢
  by_cases hil : i < en.length
  · have hil' : (i : Int) < en.length := by omega
    obtain ⟨x, hx⟩ : ∃ x, en[i]? = some x := ⟨_, List.getElem?_eq_getElem hil⟩
    obtain ⟨b0, off0, rfl, hrd⟩ := hV i x hx
    have hrw : ∀ A j u, x.row[j]? = some u → Rd B1 A b0 (off0 + (i : Int).toNat * 13 + j) u := fun A j u hu => by rw [Int.toNat_natCast]; exact hrd A j u hu
    clear hrd
    repeat' (first | refine Cd.seq ?_ | refine Cd.reg ?_ | refine Ops.nil ?_ | refine Ops.mv rfl rfl rfl rfl ?_ | refine Ops.nilP rfl rfl rfl rfl ?_ | refine Ops.fa0 rfl rfl rfl rfl ?_ | refine Ops.ld1 rfl rfl rfl rfl rfl ?_ | refine Ops.lenS rfl rfl rfl rfl ?_ | refine Ops.bin rfl rfl rfl rfl rfl ?_ | refine Cd.block ?_ | refine Cd.skip (Cd.next ?_) | refine Ops.ixa rfl rfl rfl rfl (by omega) (by omega) rfl ?_ | refine Cd.condT rfl (by first | rfl | assumption | (simp only [decide_eq_true_eq, decide_eq_false_iff_not, Bool.not_eq_true', Bool.not_eq_false', Bool.not_eq_eq_eq_not, Bool.not_true, Bool.not_false, beq_iff_eq, beq_eq_false_iff_ne, ne_eq, decide_eq_decide, eq_self, true_iff, iff_true, not_true_eq_false, not_false_eq_true]; first | done | omega)) ?_)
    refine Ops.ldRN (r := x.row) rfl rfl rfl rfl (hrw _) rfl ?_
    cases c1 <;> cases c2
    all_goals
      repeat' (first | refine Ops.nilN (inB (Cd.next ?_)) | refine Cd.seq ?_ | refine Cd.reg ?_ | refine Ops.nil ?_ | refine Ops.mv rfl rfl rfl rfl ?_ | refine Ops.asg rfl rfl rfl rfl ?_ | refine Ops.fa0 rfl rfl rfl rfl ?_ | refine Ops.ld1 rfl rfl rfl rfl rfl ?_ | refine Ops.ldN rfl rfl rfl rfl ?_ | refine Ops.addI rfl rfl rfl rfl (by omega) (by omega) rfl ?_ | refine Ops.bin rfl rfl rfl rfl rfl ?_ | refine Ops.pickT rfl rfl rfl rfl rfl ?_ | refine Ops.pickF rfl rfl rfl rfl rfl ?_ | refine Ops.alloc rfl rfl rfl (noPd rfl) (fun b => ?_) | refine Ops.stN rfl rfl rfl rfl rfl rfl (noPd rfl) ?_ | refine Ops.gSkip rfl rfl rfl ?_ | refine Cd.condF rfl rfl ?_ | refine Cd.skip (Cd.next (Q' := fun _ _ _ => True) ?_) | ((fail_if_success refine Ops.probe rfl ?_); refine Ops.gSplit rfl rfl (fun hc => ?_) (fun hc => ?_) <;> (try simp only [decide_eq_true_eq, decide_eq_false_iff_not, Bool.not_eq_true', Bool.not_eq_false', Bool.not_eq_eq_eq_not, Bool.not_true, Bool.not_false, Int.not_lt, Int.not_le] at hc)) | (refine Cd.cond rfl (fun hc => ?_) (fun hc => ?_) <;> (try simp only [decide_eq_true_eq, decide_eq_false_iff_not, Bool.not_eq_true', Bool.not_eq_false', Bool.not_eq_eq_eq_not, Bool.not_true, Bool.not_false, Int.not_lt, Int.not_le] at hc)))
    all_goals exact Ops.nilN (round_end (i + 1, _, _) (by show i + 1 ≤ en.length; omega) (by show en.length - (i + 1) < en.length - i; omega) ⟨rfl, rfl, rfl, rfl, rfl, rfl, rfl, rfl, trivial⟩ (fun w h => h.split))
  · obtain rfl : i = en.length := by omega
    have hil' : ¬ ((en.length : Nat) : Int) < en.length := by omega
    repeat' (first | refine Cd.seq ?_ | refine Cd.reg ?_ | refine Ops.nil ?_ | refine Ops.mv rfl rfl rfl rfl ?_ | refine Ops.asg rfl rfl rfl rfl ?_ | refine Ops.nilP rfl rfl rfl rfl ?_ | refine Ops.fa0 rfl rfl rfl rfl ?_ | refine Ops.ld1 rfl rfl rfl rfl rfl ?_ | refine Ops.lenS rfl rfl rfl rfl ?_ | refine Ops.bin rfl rfl rfl rfl rfl ?_ | refine Cd.exit (Cd.next (Q' := fun _ _ _ => True) ?_) | refine Cd.condF rfl (by first | rfl | assumption | (simp only [decide_eq_true_eq, decide_eq_false_iff_not, Bool.not_eq_true', Bool.not_eq_false', Bool.not_eq_eq_eq_not, Bool.not_true, Bool.not_false, beq_iff_eq, beq_eq_false_iff_ne, ne_eq, decide_eq_decide, eq_self, true_iff, iff_true, not_true_eq_false, not_false_eq_true]; first | done | omega)) ?_)
    exact Cd.ret (ret2 (A' := [BKv b v0 v1 v2 v3 (.slice na en.length nc) v5 v6 v7 v8]) rfl (Res.tmp rfl) (Res.tmp rfl) (fun _ h => h.split) ⟨⟨_, _, rfl⟩, rfl⟩)
end Go.Proofs.Ytfghnepmbgbnoaa
