import Derived.Test.YtfghnepmbgbnoaaB1
namespace Go.Proofs.Ytfghnepmbgbnoaa
open Go Go.Sep Go.Proofs
set_option maxRecDepth 10000
set_option maxHeartbeats 8000000
set_option synthInstance.maxSize 2000
set_option linter.unusedSimpArgs false
set_option linter.unusedVariables false

theorem Con.lendS {P : Program} {f : FuncId} {args : Array Value} {A1 G : List Blk} {p : Value → Prop} (h : ∀ B0, Holds B0 G → ConB P B0 f args A1 fun v A => p v ∧ A = A1) : Con P f args (A1 ++ G) fun v A => p v ∧ A = A1 ++ G := fun B w hS =>
  (Con.lend h B w hS).mono fun _ _ ⟨v, A', he, hR, hS'⟩ => by
    obtain ⟨A2, ⟨hp, rfl⟩, rfl⟩ := hR
    exact ⟨v, _, he, ⟨hp, rfl⟩, hS'⟩
theorem ConB.lendS {P : Program} {B1 : Base} {f : FuncId} {args : Array Value} {A1 G : List Blk} {p : Value → Prop} (h : ∀ B0, Ext B1 B0 → Holds B0 G → ConB P B0 f args A1 fun v A => p v ∧ A = A1) : ConB P B1 f args (A1 ++ G) fun v A => p v ∧ A = A1 ++ G := fun B w hx hS =>
  (ConB.lend h B w hx hS).mono fun _ _ ⟨v, A', he, hR, hS'⟩ => by
    obtain ⟨A2, ⟨hp, rfl⟩, rfl⟩ := hR
    exact ⟨v, _, he, ⟨hp, rfl⟩, hS'⟩
section
variable (b : Nat) (ja : Option Addr) (jc : Nat) (jobs : List RJ) (JG : List Blk) (v1 v2 v3 v4 v5 v6 v7 v8 : Value)
theorem rheldC (n badge : Int) (hO : OwnR (.slice ja jobs.length jc) jobs JG) (hf : jobs.length ≤ 1000) :
    Con Try.prog 53 #[ptr b, .int .i64 n, .int .i64 badge] (BKv b (.slice ja jobs.length jc) v1 v2 v3 v4 v5 v6 v7 v8 :: JG) fun v A => (∃ c, v = .bool c ∧ (c = true → 1 ≤ n ∧ n ≤ jobs.length)) ∧ A = BKv b (.slice ja jobs.length jc) v1 v2 v3 v4 v5 v6 v7 v8 :: JG :=
  Con.lendS (A1 := [BKv b (.slice ja jobs.length jc) v1 v2 v3 v4 v5 v6 v7 v8]) fun B0 hG => rheld_spec B0 b ja jc jobs v1 v2 v3 v4 v5 v6 v7 v8 n badge (hO.jin hG) hf
theorem roverC (n : Int) (hO : OwnR (.slice ja jobs.length jc) jobs JG) (hf : jobs.length ≤ 1000) :
    Con Try.prog 55 #[ptr b, .int .i64 n] (BKv b (.slice ja jobs.length jc) v1 v2 v3 v4 v5 v6 v7 v8 :: JG) fun v A => (∃ c, v = .bool c) ∧ A = BKv b (.slice ja jobs.length jc) v1 v2 v3 v4 v5 v6 v7 v8 :: JG :=
  Con.lendS (A1 := [BKv b (.slice ja jobs.length jc) v1 v2 v3 v4 v5 v6 v7 v8]) fun B0 hG => rover_spec B0 b ja jc jobs v1 v2 v3 v4 v5 v6 v7 v8 n (hO.jin hG) hf
end

/-- Whence a job's log is. -/
def Keep (jobs0 : List RJ) (tot : Nat) (LG : List Blk) (x : RJ) : Prop :=
  (∃ y ∈ jobs0, y.la = x.la ∧ y.lc = x.lc ∧ y.log = x.log) ∨ (x.la = none ∧ x.lc = 0 ∧ x.log = []) ∨ (x.log.length ≤ tot ∧ OwnT (.slice x.la x.log.length x.lc) x.log LG)
def JAct (b : Nat) (v2 v3 v4 v5 v6 v7 : Value) (jobs0 : List RJ) (tot : Nat) : Value → List Blk → Prop := fun v A =>
  ∃ jobs ja jc JG gr shn LG ys XG, A = BKv b (.slice ja jobs.length jc) (.int .i64 gr) v2 v3 v4 v5 v6 v7 (.int .i64 shn) :: (JG ++ (LG ++ XG)) ∧ OwnR (.slice ja jobs.length jc) jobs JG ∧ jobs.length ≤ 8 ∧ OwnI v ys XG ∧ ys.length ≤ 8 ∧ (0 ≤ shn ∧ shn ≤ 8) ∧ ∀ x ∈ jobs, Keep jobs0 tot LG x
theorem own_one {g : Nat} {n : Int} : OwnI (.slice (some ⟨g, 0, none⟩) 1 1) [n] [(g, cl [.int .i64 n] 3)] :=
  ⟨irows_ok [n], .inr ⟨g, 1, [], rfl, rfl, rfl, Nat.le_refl _⟩⟩
theorem own_setR {g jc : Nat} {jobs : List RJ} {spare : List Value} {i : Nat} (hJ : OwnR (.slice (some ⟨g, 0, none⟩) jobs.length jc) jobs [(g, cl ((jobs.map RJ.row).flatten ++ spare) 78)]) (hsp : (jobs.map RJ.row).flatten.length + spare.length = jc * 5) (hle : jobs.length ≤ jc) (y : RJ) {yr : List Value} (hr : yr = y.row) :
    OwnR (.slice (some ⟨g, 0, none⟩) (jobs.set i y).length jc) (jobs.set i y) [(g, cl (((jobs.map RJ.row).set i yr).flatten ++ spare) 78)] := by
  subst hr
  unfold OwnR at hJ ⊢
  rw [List.map_set, List.length_set]
  have := Own.set (i := i) (r := y.row) (rows := jobs.map RJ.row) (by rw [List.length_map]; exact hJ) hsp (by rw [List.length_map]; exact hle) rfl rfl
  rw [List.length_map] at this
  exact this
theorem keep_self {jobs : List RJ} {tot : Nat} {LG : List Blk} : ∀ x ∈ jobs, Keep jobs tot LG x := fun x hx => .inl ⟨x, hx, rfl, rfl, rfl⟩
theorem keep_set {jobs : List RJ} {tot : Nat} {LG : List Blk} {i : Nat} {y : RJ} (hy : Keep jobs tot LG y) : ∀ x ∈ jobs.set i y, Keep jobs tot LG x := fun x hx => by
  rcases List.mem_or_eq_of_mem_set hx with hx | rfl
  · exact keep_self x hx
  · exact hy
theorem OwnR.some_ {a : Option Addr} {n c : Nat} {l : List RJ} {G : List Blk} (h : OwnR (.slice a n c) l G) (hn : 0 < l.length) :
    ∃ g spare, a = some ⟨g, 0, none⟩ ∧ n = l.length ∧ G = [(g, cl ((l.map RJ.row).flatten ++ spare) 78)] ∧ (l.map RJ.row).flatten.length + spare.length = c * 5 ∧ l.length ≤ c := by
  obtain ⟨g, c', spare, h1, h2, h3, h4⟩ := Own.some_ h (by rw [List.length_map]; exact hn)
  rw [List.length_map] at h1 h4
  injection h1 with e1 e2 e3
  subst e3
  exact ⟨g, spare, e1, e2, h2, h3, h4⟩

theorem rgranted_spec (bd : Nat) (ja : Option Addr) (jc : Nat) (jobs : List RJ) (JG : List Blk) (gr shn : Int) (v2 v3 v4 v5 v6 v7 : Value) (tot : Nat) (e : Ev) (hO : OwnR (.slice ja jobs.length jc) jobs JG) (few : jobs.length ≤ 8) (hs0 : 0 ≤ shn) (hs8 : shn ≤ 8) :
    Con Try.prog 36 #[ptr bd, .agg e.row.toArray] (BKv bd (.slice ja jobs.length jc) (.int .i64 gr) v2 v3 v4 v5 v6 v7 (.int .i64 shn) :: JG) (JAct bd v2 v3 v4 v5 v6 v7 jobs tot) := by
  by_cases hk : 1 ≤ e.job ∧ e.job ≤ jobs.length
  · skip
    obtain ⟨x, hx⟩ : ∃ x, jobs[(e.job - 1).toNat]? = some x := ⟨_, List.getElem?_eq_getElem (by omega)⟩
    have hlt := (List.getElem?_eq_some_iff.1 hx).1
    obtain ⟨g, spare, rfl, _, rfl, hsp, hle⟩ := hO.some_ (by omega)
    have hok := rj_ok jobs
    have hrow : (jobs.map RJ.row)[(e.job - 1).toNat]? = some x.row := by rw [List.getElem?_map, hx]; rfl
    refine Con.intro (vs := [_, _]) Try.func36 rfl Try.ntmps36 rfl (fun B => ?_)
    repeat' (first | refine Cd.seq ?_ | refine Cd.reg ?_ | refine Ops.asg rfl rfl rfl rfl ?_ | refine Ops.box rfl rfl rfl rfl (noPd rfl) (fun b => ?_))
    refine Cd.draw [(1, 0, []), (2, 1, []), (3, 0, []), (4, 0, []), (5, 0, []), (6, 1, []), (7, 0, []), (0, 2, [2, 6]), (8, 2, []), (9, 0, [])] (by kernel_rfl) (by kernel_rfl) (by simp only [picked, nth]; exact rfl) ?_
    repeat' (first | refine Ops.mv rfl rfl rfl rfl ?_ | refine Ops.nilP rfl rfl rfl rfl ?_ | refine Ops.fa0 rfl rfl rfl rfl ?_ | refine Ops.ld1 rfl rfl rfl rfl rfl ?_ | refine Ops.bin rfl rfl rfl rfl rfl ?_ | refine Ops.bs0 rfl rfl rfl (by first | exact noPd rfl | (intro v A' hR i hi; obtain ⟨b, rfl, rfl⟩ := hR; (repeat (rcases List.mem_cons.1 hi with rfl | hi; · (first | exact Still.ld1 rfl rfl rfl rfl rfl | exact Still.ldN rfl rfl rfl rfl | exact Still.len rfl rfl rfl rfl rfl | exact Still.skip rfl rfl rfl | exact Still.ldRow1 rfl rfl rfl (by assumption) (by assumption) rfl rfl | exact Still.ldR rfl rfl rfl (by apply_assumption) rfl))); cases hi)) (fun b => ?_))
    refine Ops.call (rule_spec _ [] _ 3 _ Own.empty (by decide)) rfl (noPd rfl) rfl rfl rfl (fun v A' hR => ?_)
    obtain ⟨ys1, hO1, hy1⟩ := hR
    obtain ⟨a1, c1, rfl⟩ := OwnI.form hO1
    repeat' (first | refine Cd.seq ?_ | refine Ops.nil ?_ | refine Ops.asg rfl rfl rfl rfl ?_)
    refine Cd.draw [(0, 0, []), (1, 0, []), (2, 0, []), (3, 1, []), (4, 2, []), (5, 0, []), (6, 0, []), (7, 0, []), (8, 0, []), (9, 0, []), (10, 1, []), (11, 0, []), (12, 1, []), (13, 0, []), (14, 0, []), (15, 0, []), (16, 1, []), (17, 0, []), (18, 0, []), (19, 2, []), (20, 2, [])] (by kernel_rfl) (by kernel_rfl) (by simp only [picked, nth]; exact rfl) ?_
    repeat' (first | refine Ops.mv rfl rfl rfl rfl ?_ | refine Ops.fa0 rfl rfl rfl rfl ?_ | refine Ops.ld1 rfl rfl rfl rfl rfl ?_)
    refine Ops.call (rknown_spec bd (some ⟨g, 0, none⟩) jobs.length jc (.int .i64 gr) v2 v3 v4 v5 v6 v7 (.int .i64 shn) e.job) rfl (noPd rfl) rfl rfl rfl (fun v A' hR => ?_)
    obtain ⟨rfl, rfl⟩ := hR
    rw [decide_eq_true hk]
    repeat' (first | refine Ops.mv rfl rfl rfl rfl ?_ | refine Ops.nilP rfl rfl rfl rfl ?_ | refine Ops.fa0 rfl rfl rfl rfl ?_ | refine Ops.fa rfl rfl rfl rfl ?_ | refine Ops.ld1 rfl rfl rfl rfl rfl ?_ | refine Ops.subI rfl rfl rfl rfl (by omega) (by omega) rfl ?_ | refine Ops.bin rfl rfl rfl rfl rfl ?_ | refine Ops.un rfl rfl rfl rfl ?_ | refine Ops.pickF rfl rfl rfl rfl rfl ?_ | refine Ops.ixa0 rfl rfl rfl rfl (by omega) (by omega) rfl ?_ | refine Ops.ldRow1 rfl rfl rfl (by assumption) (by assumption) rfl rfl ?_)
    refine Ops.call (rule_spec _ ys1 A' 4 _ hO1 (by simp at hy1; omega)) rfl (noPd rfl) rfl rfl rfl (fun v A'' hR => ?_)
    obtain ⟨ys2, hO2, hy2⟩ := hR
    obtain ⟨a2, c2, rfl⟩ := OwnI.form hO2
    repeat' (first | refine Cd.seq ?_ | refine Cd.reg ?_ | refine Ops.nil ?_ | refine Ops.mv rfl rfl rfl rfl ?_ | refine Ops.fa0 rfl rfl rfl rfl ?_ | refine Ops.ld1 rfl rfl rfl rfl rfl ?_ | refine Ops.asgE rfl (noPd rfl) rfl rfl rfl ?_)
    refine Ops.call (rknown_spec bd (some ⟨g, 0, none⟩) jobs.length jc (.int .i64 gr) v2 v3 v4 v5 v6 v7 (.int .i64 shn) e.job) rfl (noPd rfl) rfl rfl rfl (fun v A' hR => ?_)
    obtain ⟨rfl, rfl⟩ := hR
    rw [decide_eq_true hk]
    repeat' (first | refine Cd.seq ?_ | refine Ops.nil ?_ | refine Cd.condT rfl rfl ?_)
    refine Cd.draw [(0, 0, []), (1, 0, []), (2, 0, []), (3, 1, []), (4, 0, []), (5, 1, []), (6, 0, []), (7, 0, []), (8, 1, []), (9, 0, []), (10, 0, []), (11, 2, [])] (by kernel_rfl) (by kernel_rfl) (by simp only [picked, nth]; exact rfl) ?_
    repeat' (first | refine Ops.mv rfl rfl rfl rfl ?_ | refine Ops.nilP rfl rfl rfl rfl ?_ | refine Ops.fa0 rfl rfl rfl rfl ?_ | refine Ops.ld1 rfl rfl rfl rfl rfl ?_ | refine Ops.subI rfl rfl rfl rfl (by omega) (by omega) rfl ?_ | refine Ops.bld rfl rfl rfl rfl ?_ | refine Ops.ixa0 rfl rfl rfl rfl (by omega) (by omega) rfl ?_)
    refine Ops.stRow rfl rfl rfl rfl rfl rfl hok (by rw [List.length_map]; exact hlt) (noPd rfl) ?_
    repeat' (first | refine Ops.nil ?_)
    refine Cd.draw [(0, 0, []), (1, 0, []), (2, 0, []), (3, 0, []), (4, 1, []), (5, 0, []), (6, 1, []), (7, 0, []), (8, 0, []), (9, 0, []), (10, 2, [])] (by kernel_rfl) (by kernel_rfl) (by simp only [picked, nth]; exact rfl) ?_
    repeat' (first | refine Cd.seq ?_ | refine Cd.reg ?_ | refine Ops.nil ?_ | refine Ops.mv rfl rfl rfl rfl ?_ | refine Ops.asg rfl rfl rfl rfl ?_ | refine Ops.nilP rfl rfl rfl rfl ?_ | refine Ops.fa0 rfl rfl rfl rfl ?_ | refine Ops.ld1 rfl rfl rfl rfl rfl ?_ | refine Ops.maxI rfl rfl rfl rfl rfl ?_ | refine Ops.st1 rfl rfl rfl rfl rfl (noPd rfl) ?_)
    exact Cd.ret (ret1 (A' := BKv bd (.slice (some ⟨g, 0, none⟩) jobs.length jc) (.int .i64 (max gr e.badge)) v2 v3 v4 v5 v6 v7 (.int .i64 shn) :: ([(g, cl (((jobs.map RJ.row).set (e.job - 1).toNat [.int .i64 2, .int .i64 e.badge, .int .i64 0, .int .u64 0, .slice none 0 0]).flatten ++ spare) 78)] ++ ([] ++ A''))) rfl (Res.tmp rfl) (fun _ h => h.split)
      ⟨jobs.set (e.job - 1).toNat ⟨2, e.badge, 0, 0, [], none, 0⟩, _, jc, _, max gr e.badge, shn, [], ys2, A'', by rw [List.length_set] <;> rfl, own_setR hO hsp hle _ rfl, by rw [List.length_set]; exact few, hO2, by simp at hy1; omega, ⟨hs0, hs8⟩, keep_set (.inr (.inl ⟨rfl, rfl, rfl⟩))⟩)
  · skip
    refine Con.intro (vs := [_, _]) Try.func36 rfl Try.ntmps36 rfl (fun B => ?_)
    repeat' (first | refine Cd.seq ?_ | refine Cd.reg ?_ | refine Ops.asg rfl rfl rfl rfl ?_ | refine Ops.box rfl rfl rfl rfl (noPd rfl) (fun b => ?_))
    refine Cd.draw [(1, 0, []), (2, 1, []), (3, 0, []), (4, 0, []), (5, 0, []), (6, 1, []), (7, 0, []), (0, 2, [2, 6]), (8, 2, []), (9, 0, [])] (by kernel_rfl) (by kernel_rfl) (by simp only [picked, nth]; exact rfl) ?_
    repeat' (first | refine Ops.mv rfl rfl rfl rfl ?_ | refine Ops.nilP rfl rfl rfl rfl ?_ | refine Ops.fa0 rfl rfl rfl rfl ?_ | refine Ops.ld1 rfl rfl rfl rfl rfl ?_ | refine Ops.bin rfl rfl rfl rfl rfl ?_ | refine Ops.bs0 rfl rfl rfl (by first | exact noPd rfl | (intro v A' hR i hi; obtain ⟨b, rfl, rfl⟩ := hR; (repeat (rcases List.mem_cons.1 hi with rfl | hi; · (first | exact Still.ld1 rfl rfl rfl rfl rfl | exact Still.ldN rfl rfl rfl rfl | exact Still.len rfl rfl rfl rfl rfl | exact Still.skip rfl rfl rfl | exact Still.ldRow1 rfl rfl rfl (by assumption) (by assumption) rfl rfl | exact Still.ldR rfl rfl rfl (by apply_assumption) rfl))); cases hi)) (fun b => ?_))
    refine Ops.call (rule_spec _ [] _ 3 _ Own.empty (by decide)) rfl (noPd rfl) rfl rfl rfl (fun v A' hR => ?_)
    obtain ⟨ys1, hO1, hy1⟩ := hR
    obtain ⟨a1, c1, rfl⟩ := OwnI.form hO1
    repeat' (first | refine Cd.seq ?_ | refine Ops.nil ?_ | refine Ops.asg rfl rfl rfl rfl ?_)
    refine Cd.draw [(0, 0, []), (1, 0, []), (2, 0, []), (3, 1, []), (4, 2, []), (5, 0, []), (6, 0, []), (7, 0, []), (8, 0, []), (9, 0, []), (10, 1, []), (11, 0, []), (12, 1, []), (13, 0, []), (14, 0, []), (15, 0, []), (16, 1, []), (17, 0, []), (18, 0, []), (19, 2, []), (20, 2, [])] (by kernel_rfl) (by kernel_rfl) (by simp only [picked, nth]; exact rfl) ?_
    repeat' (first | refine Ops.mv rfl rfl rfl rfl ?_ | refine Ops.fa0 rfl rfl rfl rfl ?_ | refine Ops.ld1 rfl rfl rfl rfl rfl ?_)
    refine Ops.call (rknown_spec bd ja jobs.length jc (.int .i64 gr) v2 v3 v4 v5 v6 v7 (.int .i64 shn) e.job) rfl (noPd rfl) rfl rfl rfl (fun v A' hR => ?_)
    obtain ⟨rfl, rfl⟩ := hR
    rw [decide_eq_false hk]
    repeat' (first | refine Ops.mv rfl rfl rfl rfl ?_ | refine Ops.un rfl rfl rfl rfl ?_ | refine Ops.pickT rfl rfl rfl rfl rfl ?_ | refine Ops.gSkip rfl rfl rfl ?_)
    refine Ops.call (rule_spec _ ys1 A' 4 _ hO1 (by simp at hy1; omega)) rfl (noPd rfl) rfl rfl rfl (fun v A'' hR => ?_)
    obtain ⟨ys2, hO2, hy2⟩ := hR
    obtain ⟨a2, c2, rfl⟩ := OwnI.form hO2
    repeat' (first | refine Cd.seq ?_ | refine Cd.reg ?_ | refine Ops.nil ?_ | refine Ops.mv rfl rfl rfl rfl ?_ | refine Ops.fa0 rfl rfl rfl rfl ?_ | refine Ops.ld1 rfl rfl rfl rfl rfl ?_ | refine Ops.asgE rfl (noPd rfl) rfl rfl rfl ?_)
    refine Ops.call (rknown_spec bd ja jobs.length jc (.int .i64 gr) v2 v3 v4 v5 v6 v7 (.int .i64 shn) e.job) rfl (noPd rfl) rfl rfl rfl (fun v A' hR => ?_)
    obtain ⟨rfl, rfl⟩ := hR
    rw [decide_eq_false hk]
    repeat' (first | refine Cd.seq ?_ | refine Cd.reg ?_ | refine Ops.nil ?_ | refine Ops.mv rfl rfl rfl rfl ?_ | refine Ops.asg rfl rfl rfl rfl ?_ | refine Cd.condF rfl rfl ?_ | refine Cd.skip (Cd.next ?_))
    exact Cd.ret (ret1 (A' := BKv bd (.slice ja jobs.length jc) (.int .i64 gr) v2 v3 v4 v5 v6 v7 (.int .i64 shn) :: (JG ++ ([] ++ A''))) rfl (Res.tmp rfl) (fun _ h => h.split) ⟨jobs, ja, jc, JG, gr, shn, [], ys2, A'', rfl, hO, few, hO2, by simp at hy1; omega, ⟨hs0, hs8⟩, keep_self⟩)

theorem rended_spec (bd : Nat) (ja : Option Addr) (jc : Nat) (jobs : List RJ) (JG : List Blk) (gr shn : Int) (v2 v3 v4 v5 v6 v7 : Value) (tot : Nat) (e : Ev) (hO : OwnR (.slice ja jobs.length jc) jobs JG) (few : jobs.length ≤ 8) (hs0 : 0 ≤ shn) (hs8 : shn ≤ 8) :
    Con Try.prog 38 #[ptr bd, .agg e.row.toArray] (BKv bd (.slice ja jobs.length jc) (.int .i64 gr) v2 v3 v4 v5 v6 v7 (.int .i64 shn) :: JG) (JAct bd v2 v3 v4 v5 v6 v7 jobs tot) := by
  by_cases hk : 1 ≤ e.job ∧ e.job ≤ jobs.length
  · skip
    obtain ⟨x, hx⟩ : ∃ x, jobs[(e.job - 1).toNat]? = some x := ⟨_, List.getElem?_eq_getElem (by omega)⟩
    have hlt := (List.getElem?_eq_some_iff.1 hx).1
    obtain ⟨g, spare, rfl, _, rfl, hsp, hle⟩ := hO.some_ (by omega)
    have hok := rj_ok jobs
    have hrow : (jobs.map RJ.row)[(e.job - 1).toNat]? = some x.row := by rw [List.getElem?_map, hx]; rfl
    refine Con.intro (vs := [_, _]) Try.func38 rfl Try.ntmps38 rfl (fun B => ?_)
    repeat' (first | refine Cd.seq ?_ | refine Cd.reg ?_ | refine Ops.asg rfl rfl rfl rfl ?_ | refine Ops.box rfl rfl rfl rfl (noPd rfl) (fun b => ?_))
    refine Cd.draw [(0, 0, []), (1, 0, []), (2, 1, []), (3, 0, []), (4, 1, []), (6, 0, []), (7, 0, []), (8, 1, []), (5, 2, [8]), (9, 2, []), (10, 0, []), (11, 0, [])] (by kernel_rfl) (by kernel_rfl) (by simp only [picked, nth]; exact rfl) ?_
    repeat' (first | refine Ops.mv rfl rfl rfl rfl ?_ | refine Ops.fa0 rfl rfl rfl rfl ?_ | refine Ops.ld1 rfl rfl rfl rfl rfl ?_)
    refine Ops.call (rheldC bd (some ⟨g, 0, none⟩) jc jobs [(g, cl ((jobs.map RJ.row).flatten ++ spare) 78)] (.int .i64 gr) v2 v3 v4 v5 v6 v7 (.int .i64 shn) e.job e.badge hO (by omega)) rfl (by intro v A' hR i hi; obtain ⟨A2, ⟨_, rfl⟩, rfl⟩ := hR; (repeat (rcases List.mem_cons.1 hi with rfl | hi; · (first | exact Still.ld1 rfl rfl rfl rfl rfl | exact Still.ldN rfl rfl rfl rfl | exact Still.len rfl rfl rfl rfl rfl | exact Still.skip rfl rfl rfl | exact Still.ldRow1 rfl rfl rfl (by assumption) (by assumption) rfl rfl | exact Still.ldR rfl rfl rfl (by apply_assumption) rfl))); cases hi) rfl rfl rfl (fun v A' hR => ?_)
    obtain ⟨⟨hc, rfl, hh⟩, rfl⟩ := hR
    skip
    refine Ops.call (roverC bd (some ⟨g, 0, none⟩) jc jobs [(g, cl ((jobs.map RJ.row).flatten ++ spare) 78)] (.int .i64 gr) v2 v3 v4 v5 v6 v7 (.int .i64 shn) e.job hO (by omega)) rfl (noPd rfl) rfl rfl rfl (fun v A' hR => ?_)
    obtain ⟨⟨oc, rfl⟩, rfl⟩ := hR
    cases hc
    · cases oc
      · repeat' (first | refine Cd.seq ?_ | refine Cd.reg ?_ | refine Ops.nil ?_ | refine Ops.mv rfl rfl rfl rfl ?_ | refine Ops.asg rfl rfl rfl rfl ?_ | refine Ops.fa0 rfl rfl rfl rfl ?_ | refine Ops.ld1 rfl rfl rfl rfl rfl ?_ | refine Ops.bin rfl rfl rfl rfl rfl ?_ | refine Ops.pickT rfl rfl rfl rfl rfl ?_ | refine Ops.pickF rfl rfl rfl rfl rfl ?_ | refine Ops.bs1 rfl rfl rfl rfl rfl rfl rfl (noPd rfl) (fun b => ?_) | refine Ops.gSkip rfl rfl rfl ?_ | refine Cd.condF rfl rfl ?_ | refine Cd.skip (Cd.next ?_) | ((fail_if_success refine Ops.probe rfl ?_); refine Ops.gSplit rfl rfl (fun hc => ?_) (fun hc => ?_) <;> (try simp only [decide_eq_true_eq, decide_eq_false_iff_not, Bool.not_eq_true', Bool.not_eq_false', Bool.not_eq_eq_eq_not, Bool.not_true, Bool.not_false, Int.not_lt, Int.not_le] at hc)))
        all_goals first
          | exact Cd.ret (ret1 (A' := BKv bd (.slice (some ⟨g, 0, none⟩) jobs.length jc) (.int .i64 gr) v2 v3 v4 v5 v6 v7 (.int .i64 shn) :: ([(g, cl ((jobs.map RJ.row).flatten ++ spare) 78)] ++ ([] ++ [(b, cl [.int .i64 1] 3)]))) rfl (Res.tmp rfl) (fun _ h => h.split) ⟨jobs, _, jc, _, gr, shn, [], [1], _, rfl, hO, few, own_one, by simp, ⟨hs0, hs8⟩, keep_self⟩)
          | exact Cd.ret (ret1 (A' := BKv bd (.slice (some ⟨g, 0, none⟩) jobs.length jc) (.int .i64 gr) v2 v3 v4 v5 v6 v7 (.int .i64 shn) :: ([(g, cl ((jobs.map RJ.row).flatten ++ spare) 78)] ++ ([] ++ [(b, cl [.int .i64 4] 3)]))) rfl (Res.tmp rfl) (fun _ h => h.split) ⟨jobs, _, jc, _, gr, shn, [], [4], _, rfl, hO, few, own_one, by simp, ⟨hs0, hs8⟩, keep_self⟩)
      · repeat' (first | refine Cd.seq ?_ | refine Cd.reg ?_ | refine Ops.nil ?_ | refine Ops.mv rfl rfl rfl rfl ?_ | refine Ops.asg rfl rfl rfl rfl ?_ | refine Ops.fa0 rfl rfl rfl rfl ?_ | refine Ops.ld1 rfl rfl rfl rfl rfl ?_ | refine Ops.bin rfl rfl rfl rfl rfl ?_ | refine Ops.pickT rfl rfl rfl rfl rfl ?_ | refine Ops.pickF rfl rfl rfl rfl rfl ?_ | refine Ops.bs1 rfl rfl rfl rfl rfl rfl rfl (noPd rfl) (fun b => ?_) | refine Ops.gSkip rfl rfl rfl ?_ | refine Cd.condT rfl rfl ?_ | refine Cd.condF rfl rfl ?_ | refine Cd.skip (Cd.next ?_) | ((fail_if_success refine Ops.probe rfl ?_); refine Ops.gSplit rfl rfl (fun hc => ?_) (fun hc => ?_) <;> (try simp only [decide_eq_true_eq, decide_eq_false_iff_not, Bool.not_eq_true', Bool.not_eq_false', Bool.not_eq_eq_eq_not, Bool.not_true, Bool.not_false, Int.not_lt, Int.not_le] at hc)))
        all_goals first
          | exact Cd.ret (ret1 (A' := BKv bd (.slice (some ⟨g, 0, none⟩) jobs.length jc) (.int .i64 gr) v2 v3 v4 v5 v6 v7 (.int .i64 shn) :: ([(g, cl ((jobs.map RJ.row).flatten ++ spare) 78)] ++ ([] ++ [(b, cl [.int .i64 1] 3)]))) rfl (Res.tmp rfl) (fun _ h => h.split) ⟨jobs, _, jc, _, gr, shn, [], [1], _, rfl, hO, few, own_one, by simp, ⟨hs0, hs8⟩, keep_self⟩)
          | exact Cd.ret (ret1 (A' := BKv bd (.slice (some ⟨g, 0, none⟩) jobs.length jc) (.int .i64 gr) v2 v3 v4 v5 v6 v7 (.int .i64 shn) :: ([(g, cl ((jobs.map RJ.row).flatten ++ spare) 78)] ++ ([] ++ [(b, cl [.int .i64 4] 3)]))) rfl (Res.tmp rfl) (fun _ h => h.split) ⟨jobs, _, jc, _, gr, shn, [], [4], _, rfl, hO, few, own_one, by simp, ⟨hs0, hs8⟩, keep_self⟩)
    · by_cases h7 : e.kind = 7
      · repeat' (first | refine Cd.seq ?_ | refine Cd.reg ?_ | refine Ops.nil ?_ | refine Ops.mv rfl rfl rfl rfl ?_ | refine Ops.asg rfl rfl rfl rfl ?_ | refine Ops.fa0 rfl rfl rfl rfl ?_ | refine Ops.ld1 rfl rfl rfl rfl rfl ?_ | refine Ops.bin rfl rfl rfl rfl rfl ?_ | refine Cd.condT rfl rfl ?_)
        refine Cd.draw [(0, 0, []), (1, 0, []), (2, 0, []), (3, 1, []), (4, 0, []), (5, 1, []), (6, 0, []), (7, 0, []), (8, 0, []), (9, 2, [])] (by kernel_rfl) (by kernel_rfl) (by simp only [picked, nth]; exact rfl) ?_
        repeat' (first | refine Ops.mv rfl rfl rfl rfl ?_ | refine Ops.nilP rfl rfl rfl rfl ?_ | refine Ops.fa0 rfl rfl rfl rfl ?_ | refine Ops.fa rfl rfl rfl rfl ?_ | refine Ops.ld1 rfl rfl rfl rfl rfl ?_ | refine Ops.subI rfl rfl rfl rfl (by omega) (by omega) rfl ?_ | refine Ops.ixa0 rfl rfl rfl rfl (by omega) (by omega) rfl ?_)
        refine Ops.stRow1 rfl rfl rfl rfl rfl hok hrow rfl (noPd rfl) ?_
        repeat' (first | refine Cd.seq ?_ | refine Cd.reg ?_ | refine Ops.nil ?_ | refine Ops.mv rfl rfl rfl rfl ?_ | refine Cd.condT rfl (by first | rfl | assumption | (simp only [decide_eq_true_eq, decide_eq_false_iff_not, Bool.not_eq_true', Bool.not_eq_false', Bool.not_eq_eq_eq_not, Bool.not_true, Bool.not_false, beq_iff_eq, beq_eq_false_iff_ne, ne_eq, decide_eq_decide, eq_self, true_iff, iff_true, not_true_eq_false, not_false_eq_true]; first | done | omega)) ?_)
        refine Cd.draw [(0, 0, []), (1, 0, []), (2, 0, []), (3, 1, []), (4, 0, []), (5, 1, []), (6, 0, []), (7, 0, []), (8, 0, []), (9, 2, [])] (by kernel_rfl) (by kernel_rfl) (by simp only [picked, nth]; exact rfl) ?_
        repeat' (first | refine Ops.mv rfl rfl rfl rfl ?_ | refine Ops.nilP rfl rfl rfl rfl ?_ | refine Ops.fa0 rfl rfl rfl rfl ?_ | refine Ops.fa rfl rfl rfl rfl ?_ | refine Ops.ld1 rfl rfl rfl rfl rfl ?_ | refine Ops.subI rfl rfl rfl rfl (by omega) (by omega) rfl ?_ | refine Ops.ixa0 rfl rfl rfl rfl (by omega) (by omega) rfl ?_)
        refine Ops.stRow1 rfl rfl rfl rfl rfl (hok.set rfl rfl) (List.getElem?_set_self (by rw [List.length_map]; exact hlt)) rfl (noPd rfl) ?_
        rw [List.set_set]
        repeat' (first | refine Cd.seq ?_ | refine Cd.reg ?_ | refine Ops.nil ?_ | refine Ops.asg rfl rfl rfl rfl ?_)
        exact Cd.ret (ret1 (A' := BKv bd (.slice (some ⟨g, 0, none⟩) jobs.length jc) (.int .i64 gr) v2 v3 v4 v5 v6 v7 (.int .i64 shn) :: ([(g, cl (((jobs.map RJ.row).set (e.job - 1).toNat ((x.row.set 0 (.int .i64 1)).set 0 (.int .i64 4))).flatten ++ spare) 78)] ++ ([] ++ []))) rfl (Res.tmp rfl) (fun _ h => h.split)
          ⟨jobs.set (e.job - 1).toNat { x with st := 4 }, _, jc, _, gr, shn, [], [], [], by rw [List.length_set] <;> rfl, own_setR hO hsp hle _ rfl, by rw [List.length_set]; exact few, Own.none, by simp, ⟨hs0, hs8⟩, keep_set (.inl ⟨x, List.mem_of_getElem? hx, rfl, rfl, rfl⟩)⟩)
      · repeat' (first | refine Cd.seq ?_ | refine Cd.reg ?_ | refine Ops.nil ?_ | refine Ops.mv rfl rfl rfl rfl ?_ | refine Ops.asg rfl rfl rfl rfl ?_ | refine Ops.fa0 rfl rfl rfl rfl ?_ | refine Ops.ld1 rfl rfl rfl rfl rfl ?_ | refine Ops.bin rfl rfl rfl rfl rfl ?_ | refine Cd.condT rfl rfl ?_)
        refine Cd.draw [(0, 0, []), (1, 0, []), (2, 0, []), (3, 1, []), (4, 0, []), (5, 1, []), (6, 0, []), (7, 0, []), (8, 0, []), (9, 2, [])] (by kernel_rfl) (by kernel_rfl) (by simp only [picked, nth]; exact rfl) ?_
        repeat' (first | refine Ops.mv rfl rfl rfl rfl ?_ | refine Ops.nilP rfl rfl rfl rfl ?_ | refine Ops.fa0 rfl rfl rfl rfl ?_ | refine Ops.fa rfl rfl rfl rfl ?_ | refine Ops.ld1 rfl rfl rfl rfl rfl ?_ | refine Ops.subI rfl rfl rfl rfl (by omega) (by omega) rfl ?_ | refine Ops.ixa0 rfl rfl rfl rfl (by omega) (by omega) rfl ?_)
        refine Ops.stRow1 rfl rfl rfl rfl rfl hok hrow rfl (noPd rfl) ?_
        repeat' (first | refine Cd.seq ?_ | refine Cd.reg ?_ | refine Ops.nil ?_ | refine Ops.mv rfl rfl rfl rfl ?_ | refine Ops.asg rfl rfl rfl rfl ?_ | refine Cd.skip (Cd.next ?_) | refine Cd.condF rfl (by first | rfl | assumption | (simp only [decide_eq_true_eq, decide_eq_false_iff_not, Bool.not_eq_true', Bool.not_eq_false', Bool.not_eq_eq_eq_not, Bool.not_true, Bool.not_false, beq_iff_eq, beq_eq_false_iff_ne, ne_eq, decide_eq_decide, eq_self, true_iff, iff_true, not_true_eq_false, not_false_eq_true]; first | done | omega)) ?_)
        exact Cd.ret (ret1 (A' := BKv bd (.slice (some ⟨g, 0, none⟩) jobs.length jc) (.int .i64 gr) v2 v3 v4 v5 v6 v7 (.int .i64 shn) :: ([(g, cl (((jobs.map RJ.row).set (e.job - 1).toNat (x.row.set 0 (.int .i64 1))).flatten ++ spare) 78)] ++ ([] ++ []))) rfl (Res.tmp rfl) (fun _ h => h.split)
          ⟨jobs.set (e.job - 1).toNat { x with st := 1 }, _, jc, _, gr, shn, [], [], [], by rw [List.length_set] <;> rfl, own_setR hO hsp hle _ rfl, by rw [List.length_set]; exact few, Own.none, by simp, ⟨hs0, hs8⟩, keep_set (.inl ⟨x, List.mem_of_getElem? hx, rfl, rfl, rfl⟩)⟩)
  · skip
    refine Con.intro (vs := [_, _]) Try.func38 rfl Try.ntmps38 rfl (fun B => ?_)
    repeat' (first | refine Cd.seq ?_ | refine Cd.reg ?_ | refine Ops.asg rfl rfl rfl rfl ?_ | refine Ops.box rfl rfl rfl rfl (noPd rfl) (fun b => ?_))
    refine Cd.draw [(0, 0, []), (1, 0, []), (2, 1, []), (3, 0, []), (4, 1, []), (6, 0, []), (7, 0, []), (8, 1, []), (5, 2, [8]), (9, 2, []), (10, 0, []), (11, 0, [])] (by kernel_rfl) (by kernel_rfl) (by simp only [picked, nth]; exact rfl) ?_
    repeat' (first | refine Ops.mv rfl rfl rfl rfl ?_ | refine Ops.fa0 rfl rfl rfl rfl ?_ | refine Ops.ld1 rfl rfl rfl rfl rfl ?_)
    refine Ops.call (rheldC bd ja jc jobs JG (.int .i64 gr) v2 v3 v4 v5 v6 v7 (.int .i64 shn) e.job e.badge hO (by omega)) rfl (by intro v A' hR i hi; obtain ⟨A2, ⟨_, rfl⟩, rfl⟩ := hR; (repeat (rcases List.mem_cons.1 hi with rfl | hi; · (first | exact Still.ld1 rfl rfl rfl rfl rfl | exact Still.ldN rfl rfl rfl rfl | exact Still.len rfl rfl rfl rfl rfl | exact Still.skip rfl rfl rfl | exact Still.ldRow1 rfl rfl rfl (by assumption) (by assumption) rfl rfl | exact Still.ldR rfl rfl rfl (by apply_assumption) rfl))); cases hi) rfl rfl rfl (fun v A' hR => ?_)
    obtain ⟨⟨hc, rfl, hh⟩, rfl⟩ := hR
    skip
    refine Ops.call (roverC bd ja jc jobs JG (.int .i64 gr) v2 v3 v4 v5 v6 v7 (.int .i64 shn) e.job hO (by omega)) rfl (noPd rfl) rfl rfl rfl (fun v A' hR => ?_)
    obtain ⟨⟨oc, rfl⟩, rfl⟩ := hR
    cases hc
    · cases oc
      · repeat' (first | refine Cd.seq ?_ | refine Cd.reg ?_ | refine Ops.nil ?_ | refine Ops.mv rfl rfl rfl rfl ?_ | refine Ops.asg rfl rfl rfl rfl ?_ | refine Ops.fa0 rfl rfl rfl rfl ?_ | refine Ops.ld1 rfl rfl rfl rfl rfl ?_ | refine Ops.bin rfl rfl rfl rfl rfl ?_ | refine Ops.pickT rfl rfl rfl rfl rfl ?_ | refine Ops.pickF rfl rfl rfl rfl rfl ?_ | refine Ops.bs1 rfl rfl rfl rfl rfl rfl rfl (noPd rfl) (fun b => ?_) | refine Ops.gSkip rfl rfl rfl ?_ | refine Cd.condF rfl rfl ?_ | refine Cd.skip (Cd.next ?_) | ((fail_if_success refine Ops.probe rfl ?_); refine Ops.gSplit rfl rfl (fun hc => ?_) (fun hc => ?_) <;> (try simp only [decide_eq_true_eq, decide_eq_false_iff_not, Bool.not_eq_true', Bool.not_eq_false', Bool.not_eq_eq_eq_not, Bool.not_true, Bool.not_false, Int.not_lt, Int.not_le] at hc)))
        all_goals first
          | exact Cd.ret (ret1 (A' := BKv bd (.slice ja jobs.length jc) (.int .i64 gr) v2 v3 v4 v5 v6 v7 (.int .i64 shn) :: (JG ++ ([] ++ [(b, cl [.int .i64 1] 3)]))) rfl (Res.tmp rfl) (fun _ h => h.split) ⟨jobs, _, jc, _, gr, shn, [], [1], _, rfl, hO, few, own_one, by simp, ⟨hs0, hs8⟩, keep_self⟩)
          | exact Cd.ret (ret1 (A' := BKv bd (.slice ja jobs.length jc) (.int .i64 gr) v2 v3 v4 v5 v6 v7 (.int .i64 shn) :: (JG ++ ([] ++ [(b, cl [.int .i64 4] 3)]))) rfl (Res.tmp rfl) (fun _ h => h.split) ⟨jobs, _, jc, _, gr, shn, [], [4], _, rfl, hO, few, own_one, by simp, ⟨hs0, hs8⟩, keep_self⟩)
      · repeat' (first | refine Cd.seq ?_ | refine Cd.reg ?_ | refine Ops.nil ?_ | refine Ops.mv rfl rfl rfl rfl ?_ | refine Ops.asg rfl rfl rfl rfl ?_ | refine Ops.fa0 rfl rfl rfl rfl ?_ | refine Ops.ld1 rfl rfl rfl rfl rfl ?_ | refine Ops.bin rfl rfl rfl rfl rfl ?_ | refine Ops.pickT rfl rfl rfl rfl rfl ?_ | refine Ops.pickF rfl rfl rfl rfl rfl ?_ | refine Ops.bs1 rfl rfl rfl rfl rfl rfl rfl (noPd rfl) (fun b => ?_) | refine Ops.gSkip rfl rfl rfl ?_ | refine Cd.condT rfl rfl ?_ | refine Cd.condF rfl rfl ?_ | refine Cd.skip (Cd.next ?_) | ((fail_if_success refine Ops.probe rfl ?_); refine Ops.gSplit rfl rfl (fun hc => ?_) (fun hc => ?_) <;> (try simp only [decide_eq_true_eq, decide_eq_false_iff_not, Bool.not_eq_true', Bool.not_eq_false', Bool.not_eq_eq_eq_not, Bool.not_true, Bool.not_false, Int.not_lt, Int.not_le] at hc)))
        all_goals first
          | exact Cd.ret (ret1 (A' := BKv bd (.slice ja jobs.length jc) (.int .i64 gr) v2 v3 v4 v5 v6 v7 (.int .i64 shn) :: (JG ++ ([] ++ [(b, cl [.int .i64 1] 3)]))) rfl (Res.tmp rfl) (fun _ h => h.split) ⟨jobs, _, jc, _, gr, shn, [], [1], _, rfl, hO, few, own_one, by simp, ⟨hs0, hs8⟩, keep_self⟩)
          | exact Cd.ret (ret1 (A' := BKv bd (.slice ja jobs.length jc) (.int .i64 gr) v2 v3 v4 v5 v6 v7 (.int .i64 shn) :: (JG ++ ([] ++ [(b, cl [.int .i64 4] 3)]))) rfl (Res.tmp rfl) (fun _ h => h.split) ⟨jobs, _, jc, _, gr, shn, [], [4], _, rfl, hO, few, own_one, by simp, ⟨hs0, hs8⟩, keep_self⟩)
    · exact absurd (hh rfl) hk
end Go.Proofs.Ytfghnepmbgbnoaa
