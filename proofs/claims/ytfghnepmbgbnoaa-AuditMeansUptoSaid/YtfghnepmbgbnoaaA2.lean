import Derived.Test.YtfghnepmbgbnoaaA0
import Derived.Test.YtfghnepmbgbnoaaA1
import Derived.Test.YtfghnepmbgbnoaaSepM
import Derived.Test.YtfghnepmbgbnoaaSep23
namespace Go.Proofs.Ytfghnepmbgbnoaa
open Go Go.Sep Go.Proofs
set_option maxRecDepth 10000
set_option maxHeartbeats 4000000
set_option synthInstance.maxSize 2000
set_option linter.unusedSimpArgs false
set_option linter.unusedVariables false

/-! An auditor, as it lies in memory. -/
@[reducible] def ptr (b : Nat) : Value := .pointer (some ⟨b, 0, none⟩)
@[reducible] def srow (s : ByteArray) : List Value := [.string s]
def OwnT (sv : Value) (l : List ByteArray) (G : List Blk) : Prop := Own 9 1 sv (l.map srow) G
theorem OwnT.form {sv : Value} {l : List ByteArray} {G : List Blk} (h : OwnT sv l G) : ∃ a c, sv = .slice a l.length c := by
  obtain ⟨a, c, h⟩ := Own.form h
  exact ⟨a, c, by rw [h, List.length_map]⟩
theorem OwnI.form {sv : Value} {l : List Int} {G : List Blk} (h : OwnI sv l G) : ∃ a c, sv = .slice a l.length c := by
  obtain ⟨a, c, h⟩ := Own.form h
  exact ⟨a, c, by rw [h, List.length_map]⟩
structure JR where
  j : Jb
  la : Option Addr
  lc : Nat
  G : List Blk
@[reducible] def JR.row (x : JR) : List Value := [.int .i64 x.j.status, .int .i64 x.j.badge, .int .i64 x.j.rcode, .int .u64 x.j.rbits, .slice x.la x.j.log.length x.lc]
def JR.ok (x : JR) : Prop := OwnT (.slice x.la x.j.log.length x.lc) x.j.log x.G
def OwnJ (sv : Value) (l : List JR) (G : List Blk) : Prop := Own 80 5 sv (l.map JR.row) G
theorem jr_ok (l : List JR) : RowsOk 5 (l.map JR.row) := rows_map (f := JR.row) (fun _ => ⟨rfl, rfl⟩) l
theorem OwnJ.form {sv : Value} {l : List JR} {G : List Blk} (h : OwnJ sv l G) : ∃ a c, sv = .slice a l.length c := by
  obtain ⟨a, c, h⟩ := Own.form h
  exact ⟨a, c, by rw [h, List.length_map]⟩
theorem OwnJ.some_ {a : Option Addr} {n c : Nat} {l : List JR} {G : List Blk} (h : OwnJ (.slice a n c) l G) (hn : 0 < l.length) :
    ∃ g spare, a = some ⟨g, 0, none⟩ ∧ n = l.length ∧ G = [(g, cl ((l.map JR.row).flatten ++ spare) 80)] ∧ (l.map JR.row).flatten.length + spare.length = c * 5 ∧ l.length ≤ c := by
  obtain ⟨g, c', spare, h1, h2, h3, h4⟩ := Own.some_ h (by rw [List.length_map]; exact hn)
  rw [List.length_map] at h1 h4
  injection h1 with e1 e2 e3
  subst e3
  exact ⟨g, spare, e1, e2, h2, h3, h4⟩
structure EN where
  job : Int
  badge : Int
  evs : List Ev
  ea : Option Addr
  ec : Nat
  G : List Blk
def OwnV (sv : Value) (l : List Ev) (G : List Blk) : Prop := Own 39 13 sv (l.map Ev.row) G
theorem ev_ok (l : List Ev) : RowsOk 13 (l.map Ev.row) := rows_map (f := Ev.row) (fun _ => ⟨rfl, rfl⟩) l
theorem OwnV.form {sv : Value} {l : List Ev} {G : List Blk} (h : OwnV sv l G) : ∃ a c, sv = .slice a l.length c := by
  obtain ⟨a, c, h⟩ := Own.form h
  exact ⟨a, c, by rw [h, List.length_map]⟩
def EN.ok (x : EN) : Prop := OwnV (.slice x.ea x.evs.length x.ec) x.evs x.G
def EN.pe (x : EN) : PE := ⟨x.job, x.badge, .slice x.ea x.evs.length x.ec⟩
def EN.pure (x : EN) : Int × Int × List Ev := (x.job, x.badge, x.evs)
def eents (l : List EN) : List PE := l.map EN.pe
def tent (t : Int × Int × ByteArray) : PE := ⟨t.1, t.2.1, .agg #[.string t.2.2]⟩
def tents (l : Tx) : List PE := l.map tent
theorem tget (l : Tx) (b i : Int) : pget (tents l) b i = (lookT l b i).map fun s => .agg #[.string s] := by
  unfold pget tents
  suffices ∀ n, (pfind b i (l.map tent) n).map (·.2) = (lookT l b i).map fun s => (.agg #[.string s] : Value) from this 0
  induction l with
  | nil => intro n; rfl
  | cons t l ih =>
    intro n
    simp only [List.map_cons, pfind, lookT, tent]
    split
    · rfl
    · exact ih (n + 1)
theorem tput (l : Tx) (b i : Int) (s : ByteArray) (h : lookT l b i = none) : pput (tents l) b i (.agg #[.string s]) = tents (putT l b i s) := by
  have h1 := tget l b i
  rw [h] at h1
  unfold pget at h1
  unfold pput putT
  rw [h]
  cases hf : pfind b i (tents l) 0 with
  | some p => rw [hf] at h1; cases h1
  | none => simp [tents, tent]

/-- What of an auditor is not its lists. -/
structure SR where
  great : Int
  cm : Nat
  pn : Nat
  em : Nat
  ad : Ad
  sh : Bool
  shn : Int
  rv : Value
@[reducible] def AB (ab : Nat) (ja : Option Addr) (jn jc : Nat) (s : SR) (bv : Value) : Blk :=
  (ab, cl [.slice ja jn jc, .int .i64 s.great, .map (some s.cm), .map (some s.pn), .map (some s.em),
    .int .i64 s.ad.b0, .int .i64 s.ad.i0, .int .i64 s.ad.b1, .int .i64 s.ad.i1, .int .i64 s.ad.b2, .int .i64 s.ad.i2, .int .i64 s.ad.b3, .int .i64 s.ad.i3, .int .i64 s.ad.b4, .int .i64 s.ad.i4, .int .i64 s.ad.b5, .int .i64 s.ad.i5, .int .i64 s.ad.b6, .int .i64 s.ad.i6, .int .i64 s.ad.b7, .int .i64 s.ad.i7, .int .i64 s.ad.b8, .int .i64 s.ad.i8,
    .bool s.sh, .int .i64 s.shn, bv, s.rv] 68)

theorem breaks_spec (ab : Nat) (ja : Option Addr) (jn jc : Nat) (s : SR) (ba : Option Addr) (bc : Nat) (xs : List Int) (BG : List Blk) (n : Int) (b : Bool) (hB : OwnI (.slice ba xs.length bc) xs BG) (hlen : xs.length ≤ 100) :
    Con Try.prog 33 #[ptr ab, .int .i64 n, .bool b] (AB ab ja jn jc s (.slice ba xs.length bc) :: BG)
      fun v A => ∃ ba' bc' BG', A = AB ab ja jn jc s (.slice ba' (xs ++ brk n b).length bc') :: BG' ∧ OwnI (.slice ba' (xs ++ brk n b).length bc') (xs ++ brk n b) BG' := by
  have hll : (xs.map irow).length = xs.length := List.length_map _
  refine Con.intro (vs := [_, _, _]) Try.func33 rfl Try.ntmps33 rfl (fun B => ?_)
  cases b with
  | false =>
    repeat' (first | refine Cd.seq ?_ | refine Cd.reg ?_ | refine Ops.nil ?_ | refine Ops.mv rfl rfl rfl rfl ?_ | refine Cd.condF rfl rfl ?_)
    exact Cd.skip (end0 (A' := AB ab ja jn jc s (.slice ba xs.length bc) :: BG) rfl (fun _ h => h) ⟨ba, bc, BG, by simp [brk], by simpa [brk] using hB⟩)
  | true =>
    repeat' (first | refine Cd.seq ?_ | refine Cd.reg ?_ | refine Ops.nil ?_ | refine Ops.mv rfl rfl rfl rfl ?_ | refine Ops.nilP rfl rfl rfl rfl ?_ | refine Ops.fa0 rfl rfl rfl rfl ?_ | refine Ops.ld1 rfl rfl rfl rfl rfl ?_ | refine Ops.bs1 rfl rfl rfl rfl rfl rfl rfl (noPd rfl) (fun b => ?_) | refine Cd.condT rfl rfl ?_)
    refine Ops.app1 (rows := xs.map irow) hB (by rw [hll]; omega) (by rw [hll]; omega) rfl rfl rfl rfl (by rfl) (by rfl) rfl (noPd rfl) rfl (fun v G' hG' => ?_)
    have hG2 : OwnI v (xs ++ brk n true) G' := by
      unfold OwnI; rw [List.map_append]; exact hG'
    clear hG'
    obtain ⟨a', c', rfl⟩ := hG2.form
    repeat' (first | refine Ops.nilP rfl rfl rfl rfl ?_ | refine Ops.fa0 rfl rfl rfl rfl ?_ | refine Ops.st1 rfl rfl rfl rfl rfl (noPd rfl) ?_)
    exact Ops.nilN (end0 rfl (fun _ h => (h.split : Sat _ (AB ab ja jn jc s (.slice a' (xs ++ brk n true).length c') :: G') _)) ⟨a', c', G', rfl, hG2⟩)

theorem known_no (ab : Nat) (ja : Option Addr) (jn jc : Nat) (s : SR) (bv : Value) (n : Int) (h : ¬ (1 ≤ n ∧ n ≤ jn)) :
    Con Try.prog 42 #[ptr ab, .int .i64 n] [AB ab ja jn jc s bv] fun v A => v = .pointer none ∧ A = [AB ab ja jn jc s bv] := by
  refine Con.intro (vs := [_, _]) Try.func42 rfl Try.ntmps42 rfl (fun B => ?_)
  by_cases h1 : n < 1
  · repeat' (first | refine Cd.seq ?_ | refine Cd.reg ?_ | refine Ops.nil ?_ | refine Ops.mv rfl rfl rfl rfl ?_ | refine Ops.asg rfl rfl rfl rfl ?_ | refine Ops.bin rfl rfl rfl rfl rfl ?_ | refine Ops.pickT rfl rfl rfl rfl rfl ?_ | refine Ops.gSkip rfl rfl rfl ?_ | refine Cd.condT rfl rfl ?_ | ((fail_if_success refine Ops.probe rfl ?_); refine Ops.gT rfl rfl (by first | rfl | assumption | (simp only [decide_eq_true_eq, decide_eq_false_iff_not, Bool.not_eq_true', Bool.not_eq_false', Bool.not_eq_eq_eq_not, Bool.not_true, Bool.not_false, beq_iff_eq, beq_eq_false_iff_ne, ne_eq, decide_eq_decide, eq_self, true_iff, iff_true, not_true_eq_false, not_false_eq_true]; first | done | omega)) ?_))
    exact Cd.ret (ret1 rfl (Res.tmp rfl) (fun _ h => h) ⟨rfl, rfl⟩)
  · have h2 : (jn : Int) < n := by omega
    repeat' (first | refine Cd.seq ?_ | refine Cd.reg ?_ | refine Ops.nil ?_ | refine Ops.mv rfl rfl rfl rfl ?_ | refine Ops.asg rfl rfl rfl rfl ?_ | refine Ops.nilP rfl rfl rfl rfl ?_ | refine Ops.fa0 rfl rfl rfl rfl ?_ | refine Ops.ld1 rfl rfl rfl rfl rfl ?_ | refine Ops.lenS rfl rfl rfl rfl ?_ | refine Ops.bin rfl rfl rfl rfl rfl ?_ | refine Ops.pickF rfl rfl rfl rfl rfl ?_ | refine Cd.condT rfl (by first | rfl | assumption | (simp only [decide_eq_true_eq, decide_eq_false_iff_not, Bool.not_eq_true', Bool.not_eq_false', Bool.not_eq_eq_eq_not, Bool.not_true, Bool.not_false, beq_iff_eq, beq_eq_false_iff_ne, ne_eq, decide_eq_decide, eq_self, true_iff, iff_true, not_true_eq_false, not_false_eq_true]; first | done | omega)) ?_ | ((fail_if_success refine Ops.probe rfl ?_); refine Ops.gF rfl rfl (by first | rfl | assumption | (simp only [decide_eq_true_eq, decide_eq_false_iff_not, Bool.not_eq_true', Bool.not_eq_false', Bool.not_eq_eq_eq_not, Bool.not_true, Bool.not_false, beq_iff_eq, beq_eq_false_iff_ne, ne_eq, decide_eq_decide, eq_self, true_iff, iff_true, not_true_eq_false, not_false_eq_true]; first | done | omega)) ?_))
    exact Cd.ret (ret1 rfl (Res.tmp rfl) (fun _ h => h) ⟨rfl, rfl⟩)
theorem known_yes (ab g : Nat) (jn jc : Nat) (s : SR) (bv : Value) (n : Int) (h : 1 ≤ n ∧ n ≤ jn) (hb : jn ≤ 1000) :
    Con Try.prog 42 #[ptr ab, .int .i64 n] [AB ab (some ⟨g, 0, none⟩) jn jc s bv] fun v A => v = .pointer (some ⟨g, (n - 1).toNat * 5, none⟩) ∧ A = [AB ab (some ⟨g, 0, none⟩) jn jc s bv] := by
  have h1 : ¬ n < 1 := by omega
  have h2 : ¬ (jn : Int) < n := by omega
  refine Con.intro (vs := [_, _]) Try.func42 rfl Try.ntmps42 rfl (fun B => ?_)
  repeat' (first | refine Cd.seq ?_ | refine Cd.reg ?_ | refine Ops.nil ?_ | refine Ops.mv rfl rfl rfl rfl ?_ | refine Ops.asg rfl rfl rfl rfl ?_ | refine Ops.nilP rfl rfl rfl rfl ?_ | refine Ops.fa0 rfl rfl rfl rfl ?_ | refine Ops.ld1 rfl rfl rfl rfl rfl ?_ | refine Ops.lenS rfl rfl rfl rfl ?_ | refine Ops.subI rfl rfl rfl rfl (by omega) (by omega) rfl ?_ | refine Ops.bin rfl rfl rfl rfl rfl ?_ | refine Ops.pickF rfl rfl rfl rfl rfl ?_ | refine Cd.skip (Cd.next ?_) | refine Ops.ixa0 rfl rfl rfl rfl (by omega) (by omega) rfl ?_ | refine Cd.condF rfl (by first | rfl | assumption | (simp only [decide_eq_true_eq, decide_eq_false_iff_not, Bool.not_eq_true', Bool.not_eq_false', Bool.not_eq_eq_eq_not, Bool.not_true, Bool.not_false, beq_iff_eq, beq_eq_false_iff_ne, ne_eq, decide_eq_decide, eq_self, true_iff, iff_true, not_true_eq_false, not_false_eq_true]; first | done | omega)) ?_ | ((fail_if_success refine Ops.probe rfl ?_); refine Ops.gF rfl rfl (by first | rfl | assumption | (simp only [decide_eq_true_eq, decide_eq_false_iff_not, Bool.not_eq_true', Bool.not_eq_false', Bool.not_eq_eq_eq_not, Bool.not_true, Bool.not_false, beq_iff_eq, beq_eq_false_iff_ne, ne_eq, decide_eq_decide, eq_self, true_iff, iff_true, not_true_eq_false, not_false_eq_true]; first | done | omega)) ?_))
  exact Cd.ret (ret1 rfl (Res.tmp rfl) (fun _ h => h) ⟨rfl, rfl⟩)

theorem jobAt_map {l : List JR} {n : Int} : jobAt (l.map JR.j) n = (jobAt l n).map JR.j := by
  unfold jobAt
  rw [List.length_map]
  split
  · rw [List.getElem?_map]
  · rfl
theorem jobAt_none {α : Type} {l : List α} {n : Int} (h : jobAt l n = none) : ¬ (1 ≤ n ∧ n ≤ l.length) := by
  unfold jobAt at h
  split at h
  · rename_i hc
    rw [List.getElem?_eq_none_iff] at h
    omega
  · assumption
theorem jobAt_some {α : Type} {l : List α} {n : Int} {x : α} (h : jobAt l n = some x) : (1 ≤ n ∧ n ≤ l.length) ∧ l[(n - 1).toNat]? = some x := by
  unfold jobAt at h
  split at h
  · rename_i hc; exact ⟨hc, h⟩
  · cases h
theorem jobSet_eq {α : Type} {l : List α} {n : Int} {x : α} (h : 1 ≤ n ∧ n ≤ l.length) : jobSet l n x = l.set (n - 1).toNat x := if_pos h
theorem heldA_none {l : List JR} {e : Ev} (h : heldA (l.map JR.j) e = none) : jobAt l e.job = none ∨ ∃ x, jobAt l e.job = some x ∧ ¬ (x.j.status = 2 ∧ x.j.badge = e.badge) := by
  unfold heldA at h
  rw [jobAt_map] at h
  cases hj : jobAt l e.job with
  | none => exact .inl rfl
  | some x =>
    rw [hj] at h
    dsimp only [Option.map_some] at h
    split at h
    · cases h
    · exact .inr ⟨x, rfl, by assumption⟩
theorem heldA_some {l : List JR} {e : Ev} {j : Jb} (h : heldA (l.map JR.j) e = some j) : ∃ x, jobAt l e.job = some x ∧ x.j = j ∧ x.j.status = 2 ∧ x.j.badge = e.badge := by
  unfold heldA at h
  rw [jobAt_map] at h
  cases hj : jobAt l e.job with
  | none => rw [hj] at h; cases h
  | some x =>
    rw [hj] at h
    dsimp only [Option.map_some] at h
    split at h
    · rename_i hc
      injection h with h
      exact ⟨x, rfl, h, hc.1, hc.2⟩
    · cases h

theorem held_no (ab : Nat) (ja : Option Addr) (jc : Nat) (s : SR) (bv : Value) (jobs : List JR) (JG : List Blk) (e : Ev) (hJ : OwnJ (.slice ja jobs.length jc) jobs JG) (hfew : jobs.length ≤ 1000) (h : heldA (jobs.map JR.j) e = none) :
    Con Try.prog 43 #[ptr ab, .agg e.row.toArray] (AB ab ja jobs.length jc s bv :: JG) fun v A => v = .pointer none ∧ A = AB ab ja jobs.length jc s bv :: JG := by
  refine Con.intro (vs := [_, _]) Try.func43 rfl Try.ntmps43 rfl (fun B => ?_)
  rcases heldA_none h with hk | ⟨x, hk, hn⟩
  · repeat' (first | refine Cd.seq ?_ | refine Cd.reg ?_ | refine Ops.mv rfl rfl rfl rfl ?_ | refine Ops.asg rfl rfl rfl rfl ?_ | refine Ops.fa0 rfl rfl rfl rfl ?_ | refine Ops.ld1 rfl rfl rfl rfl rfl ?_ | refine Ops.box rfl rfl rfl rfl (noPd rfl) (fun b => ?_))
    refine Ops.call (known_no ab ja jobs.length jc s bv e.job (jobAt_none hk)) rfl (noPd rfl) rfl rfl rfl (fun v A' hR => ?_)
    obtain ⟨rfl, rfl⟩ := hR
    repeat' (first | refine Cd.seq ?_ | refine Ops.asg rfl rfl rfl rfl ?_)
    refine Cd.draw [(0, 0, []), (1, 0, []), (2, 0, []), (3, 0, []), (4, 0, []), (5, 0, []), (6, 1, []), (7, 0, []), (8, 0, []), (9, 0, []), (10, 0, []), (11, 0, []), (12, 0, []), (13, 1, []), (14, 0, []), (15, 1, []), (16, 0, []), (17, 0, [])] (by kernel_rfl) (by kernel_rfl) (by simp only [picked, nth]; exact rfl) ?_
    repeat' (first | refine Cd.seq ?_ | refine Cd.reg ?_ | refine Ops.nil ?_ | refine Ops.mv rfl rfl rfl rfl ?_ | refine Ops.asg rfl rfl rfl rfl ?_ | refine Ops.bin rfl rfl rfl rfl rfl ?_ | refine Ops.pickT rfl rfl rfl rfl rfl ?_ | refine Ops.gSkip rfl rfl rfl ?_ | refine Cd.condT rfl rfl ?_)
    exact Cd.ret (ret1 (A' := AB ab ja jobs.length jc s bv :: JG) rfl (Res.tmp rfl) (fun _ h => h.split) ⟨rfl, rfl⟩)
  · obtain ⟨hr, hx⟩ := jobAt_some hk
    obtain ⟨g, spare, rfl, _, rfl, hsp, hle⟩ := hJ.some_ (by omega)
    have hok := jr_ok jobs
    have hrow : (jobs.map JR.row)[(e.job - 1).toNat]? = some x.row := by rw [List.getElem?_map, hx]; rfl
    by_cases h2 : x.j.status = 2
    · have h3 : x.j.badge ≠ e.badge := fun h4 => hn ⟨h2, h4⟩
      repeat' (first | refine Cd.seq ?_ | refine Cd.reg ?_ | refine Ops.mv rfl rfl rfl rfl ?_ | refine Ops.asg rfl rfl rfl rfl ?_ | refine Ops.fa0 rfl rfl rfl rfl ?_ | refine Ops.ld1 rfl rfl rfl rfl rfl ?_ | refine Ops.box rfl rfl rfl rfl (noPd rfl) (fun b => ?_))
      refine Ops.call (known_yes ab g jobs.length jc s bv e.job hr hfew) rfl (noPd rfl) rfl rfl rfl (fun v A' hR => ?_)
      obtain ⟨rfl, rfl⟩ := hR
      repeat' (first | refine Cd.seq ?_ | refine Ops.asg rfl rfl rfl rfl ?_)
      refine Cd.draw [(0, 0, []), (1, 0, []), (2, 0, []), (3, 0, []), (4, 0, []), (5, 0, []), (6, 1, []), (7, 0, []), (8, 0, []), (9, 0, []), (10, 0, []), (11, 0, []), (12, 0, []), (13, 1, []), (14, 0, []), (15, 1, []), (16, 0, []), (17, 0, [])] (by kernel_rfl) (by kernel_rfl) (by simp only [picked, nth]; exact rfl) ?_
      repeat' (first | refine Cd.seq ?_ | refine Cd.reg ?_ | refine Ops.nil ?_ | refine Ops.mv rfl rfl rfl rfl ?_ | refine Ops.asg rfl rfl rfl rfl ?_ | refine Ops.nilP rfl rfl rfl rfl ?_ | refine Ops.fa0 rfl rfl rfl rfl ?_ | refine Ops.fa rfl rfl rfl rfl ?_ | refine Ops.ld1 rfl rfl rfl rfl rfl ?_ | refine Ops.bin rfl rfl rfl rfl rfl ?_ | refine Ops.pickF rfl rfl rfl rfl rfl ?_ | refine Ops.ldRow1 rfl rfl rfl (by assumption) (by assumption) rfl rfl ?_ | refine Cd.condT rfl (by first | rfl | assumption | (simp only [decide_eq_true_eq, decide_eq_false_iff_not, Bool.not_eq_true', Bool.not_eq_false', Bool.not_eq_eq_eq_not, Bool.not_true, Bool.not_false, beq_iff_eq, beq_eq_false_iff_ne, ne_eq, decide_eq_decide, eq_self, true_iff, iff_true, not_true_eq_false, not_false_eq_true]; first | done | omega)) ?_ | ((fail_if_success refine Ops.probe rfl ?_); refine Ops.gF rfl rfl (by first | rfl | assumption | (simp only [decide_eq_true_eq, decide_eq_false_iff_not, Bool.not_eq_true', Bool.not_eq_false', Bool.not_eq_eq_eq_not, Bool.not_true, Bool.not_false, beq_iff_eq, beq_eq_false_iff_ne, ne_eq, decide_eq_decide, eq_self, true_iff, iff_true, not_true_eq_false, not_false_eq_true]; first | done | omega)) ?_))
      exact Cd.ret (ret1 (A' := AB ab (some ⟨g, 0, none⟩) jobs.length jc s bv :: [(g, cl ((jobs.map JR.row).flatten ++ spare) 80)]) rfl (Res.tmp rfl) (fun _ h => h.split) ⟨rfl, rfl⟩)
    · repeat' (first | refine Cd.seq ?_ | refine Cd.reg ?_ | refine Ops.mv rfl rfl rfl rfl ?_ | refine Ops.asg rfl rfl rfl rfl ?_ | refine Ops.fa0 rfl rfl rfl rfl ?_ | refine Ops.ld1 rfl rfl rfl rfl rfl ?_ | refine Ops.box rfl rfl rfl rfl (noPd rfl) (fun b => ?_))
      refine Ops.call (known_yes ab g jobs.length jc s bv e.job hr hfew) rfl (noPd rfl) rfl rfl rfl (fun v A' hR => ?_)
      obtain ⟨rfl, rfl⟩ := hR
      repeat' (first | refine Cd.seq ?_ | refine Ops.asg rfl rfl rfl rfl ?_)
      refine Cd.draw [(0, 0, []), (1, 0, []), (2, 0, []), (3, 0, []), (4, 0, []), (5, 0, []), (6, 1, []), (7, 0, []), (8, 0, []), (9, 0, []), (10, 0, []), (11, 0, []), (12, 0, []), (13, 1, []), (14, 0, []), (15, 1, []), (16, 0, []), (17, 0, [])] (by kernel_rfl) (by kernel_rfl) (by simp only [picked, nth]; exact rfl) ?_
      repeat' (first | refine Cd.seq ?_ | refine Cd.reg ?_ | refine Ops.nil ?_ | refine Ops.mv rfl rfl rfl rfl ?_ | refine Ops.asg rfl rfl rfl rfl ?_ | refine Ops.nilP rfl rfl rfl rfl ?_ | refine Ops.fa rfl rfl rfl rfl ?_ | refine Ops.bin rfl rfl rfl rfl rfl ?_ | refine Ops.pickT rfl rfl rfl rfl rfl ?_ | refine Ops.pickF rfl rfl rfl rfl rfl ?_ | refine Ops.gSkip rfl rfl rfl ?_ | refine Cd.condT rfl rfl ?_ | refine Ops.ldRow1 rfl rfl rfl (by assumption) (by assumption) rfl rfl ?_ | ((fail_if_success refine Ops.probe rfl ?_); refine Ops.gT rfl rfl (by first | rfl | assumption | (simp only [decide_eq_true_eq, decide_eq_false_iff_not, Bool.not_eq_true', Bool.not_eq_false', Bool.not_eq_eq_eq_not, Bool.not_true, Bool.not_false, beq_iff_eq, beq_eq_false_iff_ne, ne_eq, decide_eq_decide, eq_self, true_iff, iff_true, not_true_eq_false, not_false_eq_true]; first | done | omega)) ?_))
      exact Cd.ret (ret1 (A' := AB ab (some ⟨g, 0, none⟩) jobs.length jc s bv :: [(g, cl ((jobs.map JR.row).flatten ++ spare) 80)]) rfl (Res.tmp rfl) (fun _ h => h.split) ⟨rfl, rfl⟩)
theorem held_yes (ab g : Nat) (jc : Nat) (s : SR) (bv : Value) (jobs : List JR) (spare : List Value) (e : Ev) (x : JR) (hfew : jobs.length ≤ 1000) (hx : jobAt jobs e.job = some x) (h2 : x.j.status = 2) (h3 : x.j.badge = e.badge) :
    Con Try.prog 43 #[ptr ab, .agg e.row.toArray] [AB ab (some ⟨g, 0, none⟩) jobs.length jc s bv, (g, cl ((jobs.map JR.row).flatten ++ spare) 80)]
      fun v A => v = .pointer (some ⟨g, (e.job - 1).toNat * 5, none⟩) ∧ A = [AB ab (some ⟨g, 0, none⟩) jobs.length jc s bv, (g, cl ((jobs.map JR.row).flatten ++ spare) 80)] := by
  obtain ⟨hr, hx⟩ := jobAt_some hx
  have hok := jr_ok jobs
  have hrow : (jobs.map JR.row)[(e.job - 1).toNat]? = some x.row := by rw [List.getElem?_map, hx]; rfl
  refine Con.intro (vs := [_, _]) Try.func43 rfl Try.ntmps43 rfl (fun B => ?_)
  repeat' (first | refine Cd.seq ?_ | refine Cd.reg ?_ | refine Ops.mv rfl rfl rfl rfl ?_ | refine Ops.asg rfl rfl rfl rfl ?_ | refine Ops.fa0 rfl rfl rfl rfl ?_ | refine Ops.ld1 rfl rfl rfl rfl rfl ?_ | refine Ops.box rfl rfl rfl rfl (noPd rfl) (fun b => ?_))
  refine Ops.call (known_yes ab g jobs.length jc s bv e.job hr hfew) rfl (noPd rfl) rfl rfl rfl (fun v A' hR => ?_)
  obtain ⟨rfl, rfl⟩ := hR
  repeat' (first | refine Cd.seq ?_ | refine Ops.asg rfl rfl rfl rfl ?_)
  refine Cd.draw [(0, 0, []), (1, 0, []), (2, 0, []), (3, 0, []), (4, 0, []), (5, 0, []), (6, 1, []), (7, 0, []), (8, 0, []), (9, 0, []), (10, 0, []), (11, 0, []), (12, 0, []), (13, 1, []), (14, 0, []), (15, 1, []), (16, 0, []), (17, 0, [])] (by kernel_rfl) (by kernel_rfl) (by simp only [picked, nth]; exact rfl) ?_
  repeat' (first | refine Cd.seq ?_ | refine Cd.reg ?_ | refine Ops.nil ?_ | refine Ops.mv rfl rfl rfl rfl ?_ | refine Ops.asg rfl rfl rfl rfl ?_ | refine Ops.nilP rfl rfl rfl rfl ?_ | refine Ops.fa0 rfl rfl rfl rfl ?_ | refine Ops.fa rfl rfl rfl rfl ?_ | refine Ops.ld1 rfl rfl rfl rfl rfl ?_ | refine Ops.bin rfl rfl rfl rfl rfl ?_ | refine Ops.pickF rfl rfl rfl rfl rfl ?_ | refine Cd.skip (Cd.next ?_) | refine Ops.ldRow1 rfl rfl rfl (by assumption) (by assumption) rfl rfl ?_ | refine Cd.condF rfl (by first | rfl | assumption | (simp only [decide_eq_true_eq, decide_eq_false_iff_not, Bool.not_eq_true', Bool.not_eq_false', Bool.not_eq_eq_eq_not, Bool.not_true, Bool.not_false, beq_iff_eq, beq_eq_false_iff_ne, ne_eq, decide_eq_decide, eq_self, true_iff, iff_true, not_true_eq_false, not_false_eq_true]; first | done | omega)) ?_ | ((fail_if_success refine Ops.probe rfl ?_); refine Ops.gF rfl rfl (by first | rfl | assumption | (simp only [decide_eq_true_eq, decide_eq_false_iff_not, Bool.not_eq_true', Bool.not_eq_false', Bool.not_eq_eq_eq_not, Bool.not_true, Bool.not_false, beq_iff_eq, beq_eq_false_iff_ne, ne_eq, decide_eq_decide, eq_self, true_iff, iff_true, not_true_eq_false, not_false_eq_true]; first | done | omega)) ?_))
  exact Cd.ret (ret1 (A' := [AB ab (some ⟨g, 0, none⟩) jobs.length jc s bv, (g, cl ((jobs.map JR.row).flatten ++ spare) 80)]) rfl (Res.tmp rfl) (fun _ h => h.split) ⟨rfl, rfl⟩)

theorem settled_spec (ab : Nat) (ja : Option Addr) (jc : Nat) (s : SR) (bv : Value) (jobs : List JR) (JG : List Blk) (n : Int) (hJ : OwnJ (.slice ja jobs.length jc) jobs JG) (hfew : jobs.length ≤ 1000) :
    Con Try.prog 45 #[ptr ab, .int .i64 n] (AB ab ja jobs.length jc s bv :: JG) fun v A => v = .bool (settledA (jobs.map JR.j) n) ∧ A = AB ab ja jobs.length jc s bv :: JG := by
  refine Con.intro (vs := [_, _]) Try.func45 rfl Try.ntmps45 rfl (fun B => ?_)
  unfold settledA
  rw [jobAt_map]
  cases hk : jobAt jobs n with
  | none =>
    repeat' (first | refine Cd.seq ?_ | refine Cd.reg ?_ | refine Ops.mv rfl rfl rfl rfl ?_ | refine Ops.asg rfl rfl rfl rfl ?_)
    refine Ops.call (known_no ab ja jobs.length jc s bv n (jobAt_none hk)) rfl (noPd rfl) rfl rfl rfl (fun v A' hR => ?_)
    obtain ⟨rfl, rfl⟩ := hR
    repeat' (first | refine Cd.seq ?_ | refine Cd.reg ?_ | refine Ops.nil ?_ | refine Ops.mv rfl rfl rfl rfl ?_ | refine Ops.asg rfl rfl rfl rfl ?_ | refine Ops.bin rfl rfl rfl rfl rfl ?_ | refine Ops.pickF rfl rfl rfl rfl rfl ?_ | refine Ops.gSkip rfl rfl rfl ?_ | refine Ops.gSkipU rfl rfl rfl rfl ?_)
    exact Cd.ret (ret1 (A' := AB ab ja jobs.length jc s bv :: JG) rfl (Res.tmp rfl) (fun _ h => h.split) ⟨rfl, rfl⟩)
  | some x =>
    obtain ⟨hr, hx⟩ := jobAt_some hk
    obtain ⟨g, spare, rfl, _, rfl, hsp, hle⟩ := hJ.some_ (by omega)
    have hok := jr_ok jobs
    have hrow : (jobs.map JR.row)[(n - 1).toNat]? = some x.row := by rw [List.getElem?_map, hx]; rfl
    repeat' (first | refine Cd.seq ?_ | refine Cd.reg ?_ | refine Ops.mv rfl rfl rfl rfl ?_ | refine Ops.asg rfl rfl rfl rfl ?_)
    refine Ops.call (known_yes ab g jobs.length jc s bv n hr hfew) rfl (noPd rfl) rfl rfl rfl (fun v A' hR => ?_)
    obtain ⟨rfl, rfl⟩ := hR
    by_cases h3 : x.j.status = 3
    · repeat' (first | refine Cd.seq ?_ | refine Cd.reg ?_ | refine Ops.nil ?_ | refine Ops.mv rfl rfl rfl rfl ?_ | refine Ops.asg rfl rfl rfl rfl ?_ | refine Ops.nilP rfl rfl rfl rfl ?_ | refine Ops.fa rfl rfl rfl rfl ?_ | refine Ops.bin rfl rfl rfl rfl rfl ?_ | refine Ops.pickT rfl rfl rfl rfl rfl ?_ | refine Ops.gSkip rfl rfl rfl ?_ | refine Ops.ldRow1 rfl rfl rfl (by assumption) (by assumption) rfl rfl ?_ | ((fail_if_success refine Ops.probe rfl ?_); refine Ops.gT rfl rfl (by first | rfl | assumption | (simp only [decide_eq_true_eq, decide_eq_false_iff_not, Bool.not_eq_true', Bool.not_eq_false', Bool.not_eq_eq_eq_not, Bool.not_true, Bool.not_false, beq_iff_eq, beq_eq_false_iff_ne, ne_eq, decide_eq_decide, eq_self, true_iff, iff_true, not_true_eq_false, not_false_eq_true]; first | done | omega)) ?_))
      exact Cd.ret (ret1 (A' := AB ab (some ⟨g, 0, none⟩) jobs.length jc s bv :: [(g, cl ((jobs.map JR.row).flatten ++ spare) 80)]) rfl (Res.tmp rfl) (fun _ h => h.split) ⟨by simp [h3], rfl⟩)
    · repeat' (first | refine Cd.seq ?_ | refine Cd.reg ?_ | refine Ops.nil ?_ | refine Ops.mv rfl rfl rfl rfl ?_ | refine Ops.asg rfl rfl rfl rfl ?_ | refine Ops.nilP rfl rfl rfl rfl ?_ | refine Ops.fa rfl rfl rfl rfl ?_ | refine Ops.bin rfl rfl rfl rfl rfl ?_ | refine Ops.pickT rfl rfl rfl rfl rfl ?_ | refine Ops.pickF rfl rfl rfl rfl rfl ?_ | refine Ops.ldRow1 rfl rfl rfl (by assumption) (by assumption) rfl rfl ?_ | ((fail_if_success refine Ops.probe rfl ?_); refine Ops.gF rfl rfl (by first | rfl | assumption | (simp only [decide_eq_true_eq, decide_eq_false_iff_not, Bool.not_eq_true', Bool.not_eq_false', Bool.not_eq_eq_eq_not, Bool.not_true, Bool.not_false, beq_iff_eq, beq_eq_false_iff_ne, ne_eq, decide_eq_decide, eq_self, true_iff, iff_true, not_true_eq_false, not_false_eq_true]; first | done | omega)) ?_))
      exact Cd.ret (ret1 (A' := AB ab (some ⟨g, 0, none⟩) jobs.length jc s bv :: [(g, cl ((jobs.map JR.row).flatten ++ spare) 80)]) rfl (Res.tmp rfl) (fun _ h => h.split) ⟨by simp [h3], rfl⟩)
end Go.Proofs.Ytfghnepmbgbnoaa
