import Derived.Test.YtlfhimdmhhpcfaaQ2
namespace Go.Proofs.Ytlfhimdmhhpcfaa
open Go Go.Sep Go.Proofs
set_option maxRecDepth 10000
set_option maxHeartbeats 2000000
set_option synthInstance.maxSize 2000
set_option linter.unusedSimpArgs false
set_option linter.unusedVariables false

theorem inBx {N : Fi} {B : Base} {T : Tm} {A : List Blk} {Q : Exit → Act → World → Prop} {id id' : Nat} (hne : id' ≠ id) (h : ∀ a w, Fr N T a → Sat B A w → Q (.exit id') a w) : ∀ a w, Fr N T a → Sat B A w → Exit.inBlock id Q (.exit id') a w := fun a w hF hS => by
  simp only [Exit.inBlock, if_neg hne]; exact h a w hF hS
theorem inTx {N : Fi} {B : Base} {T : Tm} {A : List Blk} {Q : Exit → Act → World → Prop} {f : Act → World → Prop} {id : Nat} (h : ∀ a w, Fr N T a → Sat B A w → Q (.exit id) a w) : ∀ a w, Fr N T a → Sat B A w → Exit.then f Q (.exit id) a w := h
theorem inBs {N : Fi} {B : Base} {T : Tm} {A : List Blk} {Q : Exit → Act → World → Prop} {id : Nat} (h : ∀ a w, Fr N T a → Sat B A w → Q .normal a w) : ∀ a w, Fr N T a → Sat B A w → Exit.inBlock id Q (.exit id) a w := fun a w hF hS => by
  simp only [Exit.inBlock, if_true]; exact h a w hF hS

/-! what All tells, as a list -/
def OwnL (sv : Value) (l : List LE) (G : List Blk) : Prop := Own 40 5 sv (l.map LE.row) G
@[reducible] def AB (b7 b3 n m most : Nat) (ticks : Int) (es : List ME) (ck : Nat) (sv : Value) (G : List Blk) : List Blk :=
  (b7, cl [sv] 33) :: (b3, cl [.int .i64 most] 3) :: (TB n m ticks es ck ++ G)
theorem lall_spec (n m : Nat) (ticks : Int) (l : List LE) (es : List ME) (ck : Nat) (most : Nat) (h : TOk ticks l es ck) : Con Try.prog 19 #[ptr n, .int .i64 most] (TB n m ticks es ck)
    fun v A => ∃ sv G, v = .tuple #[sv, .bool true] ∧ OwnL sv (l.take most) G ∧ A = TB n m ticks es ck ++ G := by
  have hfew := h.lok.few
  refine Con.intro (vs := [_, _]) Try.func19 rfl Try.ntmps19 rfl (fun B => ?_)
  refine Cd.seq ?_
  refine Cd.reg ?_
  refine Ops.box rfl rfl rfl rfl (noPd rfl) (fun b3 => ?_)
  repeat' (first | refine Cd.seq ?_ | refine Cd.reg ?_ | refine Ops.mv rfl rfl rfl rfl ?_ | refine Ops.asg rfl rfl rfl rfl ?_)
  refine Ops.call (all_spec n) rfl (noPd rfl) rfl rfl rfl (fun v A' hR => ?_)
  obtain ⟨bA, rfl, rfl⟩ := hR
  repeat' (first | refine Cd.seq ?_ | refine Cd.reg ?_ | refine Ops.nil ?_ | refine Ops.mv rfl rfl rfl rfl ?_ | refine Ops.asg rfl rfl rfl rfl ?_ | refine Ops.bin rfl rfl rfl rfl rfl ?_ | refine Ops.alloc rfl rfl rfl (noPd rfl) (fun b => ?_) | refine Ops.bs0 rfl rfl rfl (noPd rfl) (fun b => ?_) | refine Ops.st1 rfl rfl rfl rfl rfl (noPd rfl) ?_ | refine Cd.condF rfl rfl ?_ | refine Cd.block ?_ | refine Cd.skip (Cd.next ?_))
  rename_i g0
  rename Nat => b7
  refine Cd.range (X := LE) (C0 := AB b7 b3 n m most ticks es ck (.slice (some ⟨g0, 0, none⟩) 0 0) [(g0, cl [] 40)]) (all_iter n bA m ticks l es ck h) rfl rfl (ps := [15]) rfl (fun _ => rfl)
    (fun pre C => ∃ sv G, pre = l.take pre.length ∧ pre.length ≤ most ∧ OwnL sv pre G ∧ C = AB b7 b3 n m most ticks es ck sv G)
    (fun c _ C => c = Code.exit 0 ∧ ∃ sv G, OwnL sv (l.take most) G ∧ C = AB b7 b3 n m most ticks es ck sv G)
    (fun pre x T C => Told l (pre ++ [x]) ∧ ∃ sv G b8, pre = l.take pre.length ∧ pre.length ≤ most ∧ OwnL sv pre G ∧ T = [(3, ptr b3), (7, ptr b7), (8, ptr b8)] ∧ C = (b8, cl x.row 40) :: AB b7 b3 n m most ticks es ck sv G)
    (fun w hw => (hw.split : Sat _ ((bA, cl [ptr n] 23) :: AB b7 b3 n m most ticks es ck (.slice (some ⟨g0, 0, none⟩) 0 0) [(g0, cl [] 40)]) w))
    ⟨_, _, rfl, Nat.zero_le _, Own.empty, rfl⟩
    (fun C ⟨sv, G, _, _, _, hC⟩ => ⟨(b7, cl [sv] 33) :: (b3, cl [.int .i64 most] 3) :: G, by
      subst hC
      exact (Split.perm (A := AB b7 b3 n m most ticks es ck sv G) (A1 := TB n m ticks es ck))⟩)
    ?_ ?_ ?_ ?_
  · rintro B2 pre x C hx hok ⟨sv, G, hp, hle, hO, rfl⟩
    repeat' (first | refine Cd.reg ?_ | refine Ops.alloc rfl rfl rfl (noPd rfl) (fun b => ?_) | refine Ops.stN rfl rfl rfl rfl rfl rfl (noPd rfl) ?_)
    exact Ops.nilN (asg_end ⟨hok, sv, G, _, hp, hle, hO, rfl, rfl⟩ (fun a hF => hF.keeps ⟨rfl, rfl, rfl, trivial⟩) (fun w h => h))
  · rintro lp r B2 pre x T C hro hlp hx hok ⟨htold, sv, G, b8, hp, hle, hO, rfl, rfl⟩
    obtain ⟨i, hi1, hi2, hi3⟩ := told_inv htold
    have hil := (List.getElem?_eq_some_iff.1 hi2).1
    obtain ⟨sa, sc, rfl⟩ := hO.form
    have hpl : (pre.map LE.row).length = pre.length := List.length_map _
    by_cases hm : pre.length = most
    · repeat' (first | refine Cd.seq ?_ | refine Cd.reg ?_ | refine Ops.nil ?_ | refine Ops.ld1 rfl rfl rfl rfl rfl ?_ | refine Ops.lenS rfl rfl rfl rfl ?_ | refine Ops.bin rfl rfl rfl rfl rfl ?_ | refine Cd.block ?_ | refine Cd.condT rfl (by first | rfl | assumption | (simp only [decide_eq_true_eq, decide_eq_false_iff_not, Bool.not_eq_true', Bool.not_eq_false', Bool.not_eq_eq_eq_not, Bool.not_true, Bool.not_false, beq_iff_eq, beq_eq_false_iff_ne, ne_eq, decide_eq_decide, eq_self, true_iff, iff_true, not_true_eq_false, not_false_eq_true]; first | done | omega)) ?_)
      refine Cd.exit (inTx (inBx (id := 1) (id' := 0) (by decide) ?_))
      exact rnd_exit ⟨rfl, _, G, by rw [← hm, ← hp]; exact hO, rfl⟩ (fun w h => h.tail)
    · repeat' (first | refine Cd.seq ?_ | refine Cd.reg ?_ | refine Ops.nil ?_ | refine Ops.ld1 rfl rfl rfl rfl rfl ?_ | refine Ops.ldN rfl rfl rfl rfl ?_ | refine Ops.lenS rfl rfl rfl rfl ?_ | refine Ops.bin rfl rfl rfl rfl rfl ?_ | refine Ops.bs1 rfl rfl rfl rfl rfl rfl rfl (noPd rfl) (fun b => ?_) | refine Cd.block ?_ | refine Cd.skip (Cd.next ?_) | refine Cd.condF rfl (by first | rfl | assumption | (simp only [decide_eq_true_eq, decide_eq_false_iff_not, Bool.not_eq_true', Bool.not_eq_false', Bool.not_eq_eq_eq_not, Bool.not_true, Bool.not_false, beq_iff_eq, beq_eq_false_iff_ne, ne_eq, decide_eq_decide, eq_self, true_iff, iff_true, not_true_eq_false, not_false_eq_true]; first | done | omega)) ?_)
      refine Ops.app1 (rows := pre.map LE.row) hO (by rw [List.length_map]; omega) (by rw [List.length_map]; omega) rfl rfl rfl rfl (by rfl) (by rfl) rfl (noPd rfl) rfl (fun v G' hG' => ?_)
      obtain ⟨a', c', rfl⟩ := hG'.form
      repeat' (first | refine Ops.st1 rfl rfl rfl rfl rfl (noPd rfl) ?_)
      have hp' : pre ++ [x] = l.take (pre ++ [x]).length := by
        rw [List.length_append, hi3]
        show _ = l.take (i + 1)
        rw [← take_next hi2, hi1]
      exact Ops.nilN (inB (rnd_next ⟨_, G', hp', by rw [List.length_append]; show pre.length + 1 ≤ most; omega, by unfold OwnL; rw [List.map_append]; exact hG', rfl⟩ (fun w h => h.split)))
  · rintro D xs C hD rfl ⟨sv, G, _, hle, hO, rfl⟩
    obtain ⟨sa, sc, rfl⟩ := hO.form
    refine Cd.next (Q' := fun _ _ _ => True) ?_
    repeat' (first | refine Cd.seq ?_ | refine Cd.reg ?_ | refine Ops.nil ?_ | refine Ops.asg rfl rfl rfl rfl ?_ | refine Ops.ld1 rfl rfl rfl rfl rfl ?_)
    exact Cd.ret (unmark (mark1 hD) (ret2 (A' := TB n m ticks es ck ++ G) rfl (Res.tmp rfl) (Res.tmp rfl) (fun w h => h.split) ⟨_, G, rfl, by rw [List.take_of_length_le hle]; exact hO, rfl⟩))
  · rintro D c pre C hD ⟨rfl, sv, G, hO, rfl⟩
    obtain ⟨sa, sc, rfl⟩ := hO.form
    refine Cd.exit (inBs (Cd.next (Q' := fun _ _ _ => True) ?_))
    repeat' (first | refine Cd.seq ?_ | refine Cd.reg ?_ | refine Ops.nil ?_ | refine Ops.asg rfl rfl rfl rfl ?_ | refine Ops.ld1 rfl rfl rfl rfl rfl ?_)
    exact Cd.ret (unmark (mark1 hD) (ret2 (A' := TB n m ticks es ck ++ G) rfl (Res.tmp rfl) (Res.tmp rfl) (fun w h => h.split) ⟨_, G, rfl, hO, rfl⟩))
theorem lall99 (n m : Nat) (ticks : Int) (l : List LE) (es : List ME) (ck : Nat) (h : TOk ticks l es ck) : Con Try.prog 19 #[ptr n, .int .i64 99] (TB n m ticks es ck)
    fun v A => ∃ sv G, v = .tuple #[sv, .bool true] ∧ OwnL sv l G ∧ A = TB n m ticks es ck ++ G := by
  have hfew := h.lok.few
  have := lall_spec n m ticks l es ck 99 h
  rwa [List.take_of_length_le (by omega)] at this

/-! the same leases -/
theorem same_eq (v1 v2 : Value) (l : List LE) (G1 G2 : List Blk) (h1 : Rs 40 5 v1 (l.map LE.row) G1) (h2 : Rs 40 5 v2 (l.map LE.row) G2) (hlen : l.length ≤ 1000) :
    Con Try.prog 20 #[v1, v2] (G1 ++ G2) fun v A => v = .bool true ∧ A = G1 ++ G2 := by
  obtain ⟨a1, c1, rfl⟩ := h1.form
  obtain ⟨a2, c2, rfl⟩ := h2.form
  have hll : (l.map LE.row).length = l.length := List.length_map _
  rw [hll] at h1 h2 ⊢
  refine Con.intro (vs := [_, _]) Try.func20 rfl Try.ntmps20 rfl (fun B => ?_)
  repeat' (first | refine Cd.seq ?_ | refine Cd.reg ?_ | refine Ops.nil ?_ | refine Ops.mv rfl rfl rfl rfl ?_ | refine Ops.asg rfl rfl rfl rfl ?_ | refine Ops.lenS rfl rfl rfl rfl ?_ | refine Ops.bin rfl rfl rfl rfl rfl ?_ | refine Cd.block ?_ | refine Cd.skip (Cd.next ?_) | refine Cd.condF rfl (by first | rfl | assumption | (simp only [decide_eq_true_eq, decide_eq_false_iff_not, Bool.not_eq_true', Bool.not_eq_false', Bool.not_eq_eq_eq_not, Bool.not_true, Bool.not_false, beq_iff_eq, beq_eq_false_iff_ne, ne_eq, decide_eq_decide, eq_self, true_iff, iff_true, not_true_eq_false, not_false_eq_true]; first | done | omega)) ?_)
  refine Cd.loopK (fun i : Nat => i ≤ l.length) (fun i => [(0, .slice a1 l.length c1), (1, .slice a2 l.length c2), (5, .int .i64 i)]) (fun _ => G1 ++ G2) (fun i => l.length - i) 0 (Nat.zero_le _) ⟨rfl, rfl, rfl, trivial⟩ (fun w h => h) (fun i hi => ?_)
  by_cases hil : i < l.length
  · have hil' : (i : Int) < l.length := by omega
    obtain ⟨x, hx⟩ : ∃ x, l[i]? = some x := ⟨_, List.getElem?_eq_getElem hil⟩
    have hxr : (l.map LE.row)[(i : Int).toNat]? = some x.row := map_at hx
    have hk := lrows_ok l
    obtain ⟨g1, d1, sp1, e1, rfl⟩ := h1.some_ (by rw [hll]; omega)
    obtain ⟨g2, d2, sp2, e2, rfl⟩ := h2.some_ (by rw [hll]; omega)
    injection e1 with q1 q2 q3
    injection e2 with q4 q5 q6
    subst q1; subst q3; subst q4; subst q6
    clear q2 q5
    repeat' (first | refine Cd.seq ?_ | refine Cd.reg ?_ | refine Ops.nil ?_ | refine Ops.mv rfl rfl rfl rfl ?_ | refine Ops.lenS rfl rfl rfl rfl ?_ | refine Ops.bin rfl rfl rfl rfl rfl ?_ | refine Cd.block ?_ | refine Cd.skip (Cd.next ?_) | refine Cd.condT rfl (by first | rfl | assumption | (simp only [decide_eq_true_eq, decide_eq_false_iff_not, Bool.not_eq_true', Bool.not_eq_false', Bool.not_eq_eq_eq_not, Bool.not_true, Bool.not_false, beq_iff_eq, beq_eq_false_iff_ne, ne_eq, decide_eq_decide, eq_self, true_iff, iff_true, not_true_eq_false, not_false_eq_true]; first | done | omega)) ?_)
    refine Cd.draw [(0, 0, []), (1, 0, []), (2, 0, []), (3, 1, []), (4, 0, []), (5, 0, []), (6, 0, []), (7, 1, []), (8, 0, [])] (by kernel_rfl) (by kernel_rfl) (by simp only [picked, nth]; exact rfl) ?_
    repeat' (first | refine Cd.reg ?_ | refine Ops.nil ?_ | refine Ops.mv rfl rfl rfl rfl ?_ | refine Ops.asg rfl rfl rfl rfl ?_ | refine Ops.addI rfl rfl rfl rfl (by omega) (by omega) rfl ?_ | refine Ops.bin rfl rfl rfl rfl rfl ?_ | refine Cd.condF rfl rfl ?_ | refine Cd.skip (Cd.next (Q' := fun _ _ _ => True) ?_) | refine Ops.ixa0 rfl rfl rfl rfl (by omega) (by omega) rfl ?_ | refine Ops.ldRow rfl rfl rfl (by assumption) (by assumption) rfl ?_)
    exact Ops.nilN (round_end (i + 1) (by show i + 1 ≤ l.length; omega) (by show l.length - (i + 1) < l.length - i; omega) ⟨rfl, rfl, rfl, trivial⟩ (fun w h => h))
  · repeat' (first | refine Cd.seq ?_ | refine Cd.reg ?_ | refine Ops.nil ?_ | refine Ops.mv rfl rfl rfl rfl ?_ | refine Ops.asg rfl rfl rfl rfl ?_ | refine Ops.lenS rfl rfl rfl rfl ?_ | refine Ops.bin rfl rfl rfl rfl rfl ?_ | refine Cd.exit (Cd.next (Q' := fun _ _ _ => True) ?_) | refine Cd.condF rfl (by first | rfl | assumption | (simp only [decide_eq_true_eq, decide_eq_false_iff_not, Bool.not_eq_true', Bool.not_eq_false', Bool.not_eq_eq_eq_not, Bool.not_true, Bool.not_false, beq_iff_eq, beq_eq_false_iff_ne, ne_eq, decide_eq_decide, eq_self, true_iff, iff_true, not_true_eq_false, not_false_eq_true]; first | done | omega)) ?_)
    exact Cd.ret (ret1 rfl (Res.tmp rfl) (fun w h => h) ⟨rfl, rfl⟩)

/-! what the document fixes -/
theorem fixed_spec : Con Try.prog 21 #[] [] fun v A => v = .bool true ∧ A = [] := by
  refine Con.intro (vs := []) Try.func21 rfl Try.ntmps21 rfl (fun B => ?_)
  repeat' (first | refine Cd.seq ?_ | refine Cd.reg ?_ | refine Ops.asg rfl rfl rfl rfl ?_)
  refine Ops.call (new_yes 1 (by decide) (by decide)) rfl (noPd rfl) rfl rfl rfl (fun v A' hR => ?_)
  obtain ⟨n, m, rfl, rfl⟩ := hR
  repeat' (first | refine Cd.seq ?_ | refine Cd.reg ?_ | refine Ops.nil ?_ | refine Ops.mv rfl rfl rfl rfl ?_ | refine Ops.asg rfl rfl rfl rfl ?_ | refine Ops.bin rfl rfl rfl rfl rfl ?_ | refine Ops.pickF rfl rfl rfl rfl rfl ?_ | refine Ops.ext rfl rfl rfl rfl rfl ?_ | refine Ops.bld rfl rfl rfl rfl ?_ | refine Cd.condF rfl rfl ?_ | refine Cd.skip (Cd.next ?_))
  refine Ops.call (grant_spec n m 1 [] [] 0 2 7 3 1 (TOk.new (by decide) (by decide))) rfl (noPd rfl) rfl rfl rfl (fun v A' hR => ?_)
  obtain ⟨rfl, es, ck, rfl, hT⟩ := hR
  have e1 : grantF 1 [] 2 7 3 1 = (0, [⟨2, 7, 3, 1, 1⟩]) := by simp [grantF, lins]
  rw [e1] at hT ⊢
  repeat' (first | refine Cd.seq ?_ | refine Cd.reg ?_ | refine Ops.mv rfl rfl rfl rfl ?_ | refine Ops.asg rfl rfl rfl rfl ?_)
  refine Ops.call (find_spec n m 1 _ es ck 7 hT) rfl (noPd rfl) rfl rfl rfl (fun v A' hR => ?_)
  obtain ⟨rfl, rfl⟩ := hR
  have e2 : lfind [(⟨2, 7, 3, 1, 1⟩ : LE)] 7 = some ⟨2, 7, 3, 1, 1⟩ := by simp [lfind]
  dsimp only
  rw [e2]
  simp only [Option.getD_some, Option.isSome_some]
  repeat' (first | refine Cd.seq ?_ | refine Cd.reg ?_ | refine Ops.mv rfl rfl rfl rfl ?_ | refine Ops.asg rfl rfl rfl rfl ?_ | refine Ops.ext rfl rfl rfl rfl rfl ?_ | refine Ops.alloc rfl rfl rfl (noPd rfl) (fun b => ?_) | refine Ops.stN rfl rfl rfl rfl rfl rfl (noPd rfl) ?_)
  refine Ops.call (tick_spec n m 1 _ es ck hT) rfl (noPd rfl) rfl rfl rfl (fun v A' hR => ?_)
  obtain ⟨es', ck', G, hRs, rfl, hT'⟩ := hR
  have e3 : overF [(⟨2, 7, 3, 1, 1⟩ : LE)] = [⟨2, 7, 3, 1, 0⟩] := by simp [overF]
  dsimp only at hRs
  rw [e3] at hRs
  obtain ⟨g, c, sp, rfl, rfl⟩ := hRs.some_ (by simp)
  have hk := hRs.1
  have e4 : ([(⟨2, 7, 3, 1, 0⟩ : LE)].map LE.row).length = 1 := rfl
  have hr : ([(⟨2, 7, 3, 1, 0⟩ : LE)].map LE.row)[(0 : Int).toNat]? = some [.int .i64 2, .int .i64 7, .int .i64 3, .int .i64 1, .int .i64 0] := rfl
  rw [e4]
  repeat' (first | refine Cd.seq ?_ | refine Cd.reg ?_ | refine Ops.nil ?_ | refine Ops.mv rfl rfl rfl rfl ?_ | refine Ops.asg rfl rfl rfl rfl ?_ | refine Ops.fa0 rfl rfl rfl rfl ?_ | refine Ops.ld1 rfl rfl rfl rfl rfl ?_ | refine Ops.lenS rfl rfl rfl rfl ?_ | refine Ops.bin rfl rfl rfl rfl rfl ?_ | refine Ops.pickT rfl rfl rfl rfl rfl ?_ | refine Ops.bld rfl rfl rfl rfl ?_ | refine Ops.ixa0 rfl rfl rfl rfl (by omega) (by omega) rfl ?_ | refine Ops.ldRow rfl rfl rfl (by assumption) (by assumption) rfl ?_)
  exact Cd.ret (ret1 (A' := []) rfl (Res.tmp rfl) (fun _ h => h.split) ⟨rfl, rfl⟩)

/-- An operation of the script. -/
structure SOp where
  on : Int
  kind : Int
  job : Int
  badge : Int
  node : Int
  life : Int
@[reducible] def SOp.row (o : SOp) : List Value := [.int .i64 o.on, .int .i64 o.kind, .int .i64 o.job, .int .i64 o.badge, .int .i64 o.node, .int .i64 o.life]
/-- The script, where it lies. -/
def Script (B : Base) (a : Option Addr) (len : Nat) (ops : List SOp) : Prop :=
  ops.length = len ∧ ∀ (i : Nat) (o : SOp), ops[i]? = some o → ∃ b off, a = some ⟨b, off, none⟩ ∧ ∀ (A : List Blk) (j : Nat) (u : Value), o.row[j]? = some u → Rd B A b (off + i * 6 + j) u

theorem grantF_ref {ticks : Int} {l : List LE} {job badge node life : Int} (h : (grantF ticks l job badge node life).1 ≠ 0) : (grantF ticks l job badge node life).2 = l := by
  unfold grantF at h ⊢
  split
  · rfl
  · split
    · rfl
    · rename_i h1 h2
      rw [if_neg h1, if_neg h2] at h
      exact absurd rfl h
theorem renewF_ref {ticks : Int} {l : List LE} {b : Int} (h : (renewF ticks l b).1 ≠ 0) : (renewF ticks l b).2 = l := by
  unfold renewF at h ⊢
  split
  · rfl
  · rename_i h1
    rw [if_neg h1] at h
    exact absurd rfl h
theorem dropF_ref {l : List LE} {b : Int} (h : (dropF l b).1 ≠ 0) : (dropF l b).2 = l := by
  unfold dropF at h ⊢
  split
  · rfl
  · rename_i h1
    rw [if_neg h1] at h
    exact absurd rfl h
theorem does_spec (n m : Nat) (ticks : Int) (l : List LE) (es : List ME) (ck : Nat) (o : SOp) (h : TOk ticks l es ck) : Con Try.prog 24 #[ptr n, .agg o.row.toArray] (TB n m ticks es ck)
    fun v A => ∃ b l' es' ck', v = .bool b ∧ A = TB n m ticks es' ck' ∧ TOk ticks l' es' ck' ∧ (b = true → l' = l) := by
  refine Con.intro (vs := [_, _]) Try.func24 rfl Try.ntmps24 rfl (fun B => ?_)
  by_cases h0 : o.kind = 0
  · repeat' (first | refine Cd.seq ?_ | refine Cd.reg ?_ | refine Ops.nil ?_ | refine Ops.mv rfl rfl rfl rfl ?_ | refine Ops.asg rfl rfl rfl rfl ?_ | refine Ops.fa0 rfl rfl rfl rfl ?_ | refine Ops.ld1 rfl rfl rfl rfl rfl ?_ | refine Ops.ldN rfl rfl rfl rfl ?_ | refine Ops.bin rfl rfl rfl rfl rfl ?_ | refine Ops.box rfl rfl rfl rfl (noPd rfl) (fun b => ?_) | refine Cd.block ?_ | refine Cd.condT rfl (by first | rfl | assumption | (simp only [decide_eq_true_eq, decide_eq_false_iff_not, Bool.not_eq_true', Bool.not_eq_false', Bool.not_eq_eq_eq_not, Bool.not_true, Bool.not_false, beq_iff_eq, beq_eq_false_iff_ne, ne_eq, decide_eq_decide, eq_self, true_iff, iff_true, not_true_eq_false, not_false_eq_true]; first | done | omega)) ?_)
    refine Ops.call (grant_spec n m ticks l es ck o.job o.badge o.node o.life h) rfl (noPd rfl) rfl rfl rfl (fun v A' hR => ?_)
    obtain ⟨rfl, es', ck', rfl, hT⟩ := hR
    repeat' (first | refine Ops.nil ?_ | refine Ops.asg rfl rfl rfl rfl ?_ | refine Ops.bin rfl rfl rfl rfl rfl ?_)
    exact Cd.ret (inBr (ret1 (A' := TB n m ticks es' ck') rfl (Res.tmp rfl) (fun _ h => h.split) ⟨_, _, es', ck', rfl, rfl, hT, fun hb => grantF_ref (by simpa using hb)⟩))
  · by_cases h1 : o.kind = 1
    · repeat' (first | refine Cd.seq ?_ | refine Cd.reg ?_ | refine Ops.nil ?_ | refine Ops.mv rfl rfl rfl rfl ?_ | refine Ops.asg rfl rfl rfl rfl ?_ | refine Ops.fa0 rfl rfl rfl rfl ?_ | refine Ops.ld1 rfl rfl rfl rfl rfl ?_ | refine Ops.bin rfl rfl rfl rfl rfl ?_ | refine Ops.box rfl rfl rfl rfl (noPd rfl) (fun b => ?_) | refine Cd.block ?_ | refine Cd.condT rfl (by first | rfl | assumption | (simp only [decide_eq_true_eq, decide_eq_false_iff_not, Bool.not_eq_true', Bool.not_eq_false', Bool.not_eq_eq_eq_not, Bool.not_true, Bool.not_false, beq_iff_eq, beq_eq_false_iff_ne, ne_eq, decide_eq_decide, eq_self, true_iff, iff_true, not_true_eq_false, not_false_eq_true]; first | done | omega)) ?_ | refine Cd.condF rfl (by first | rfl | assumption | (simp only [decide_eq_true_eq, decide_eq_false_iff_not, Bool.not_eq_true', Bool.not_eq_false', Bool.not_eq_eq_eq_not, Bool.not_true, Bool.not_false, beq_iff_eq, beq_eq_false_iff_ne, ne_eq, decide_eq_decide, eq_self, true_iff, iff_true, not_true_eq_false, not_false_eq_true]; first | done | omega)) ?_)
      refine Ops.call (renew_spec n m ticks l es ck o.badge h) rfl (noPd rfl) rfl rfl rfl (fun v A' hR => ?_)
      obtain ⟨rfl, es', ck', rfl, hT⟩ := hR
      repeat' (first | refine Ops.nil ?_ | refine Ops.asg rfl rfl rfl rfl ?_ | refine Ops.bin rfl rfl rfl rfl rfl ?_)
      exact Cd.ret (inBr (ret1 (A' := TB n m ticks es' ck') rfl (Res.tmp rfl) (fun _ h => h.split) ⟨_, _, es', ck', rfl, rfl, hT, fun hb => renewF_ref (by simpa using hb)⟩))
    · by_cases h2 : o.kind = 2
      · repeat' (first | refine Cd.seq ?_ | refine Cd.reg ?_ | refine Ops.nil ?_ | refine Ops.mv rfl rfl rfl rfl ?_ | refine Ops.asg rfl rfl rfl rfl ?_ | refine Ops.fa0 rfl rfl rfl rfl ?_ | refine Ops.ld1 rfl rfl rfl rfl rfl ?_ | refine Ops.bin rfl rfl rfl rfl rfl ?_ | refine Ops.box rfl rfl rfl rfl (noPd rfl) (fun b => ?_) | refine Cd.block ?_ | refine Cd.condT rfl (by first | rfl | assumption | (simp only [decide_eq_true_eq, decide_eq_false_iff_not, Bool.not_eq_true', Bool.not_eq_false', Bool.not_eq_eq_eq_not, Bool.not_true, Bool.not_false, beq_iff_eq, beq_eq_false_iff_ne, ne_eq, decide_eq_decide, eq_self, true_iff, iff_true, not_true_eq_false, not_false_eq_true]; first | done | omega)) ?_ | refine Cd.condF rfl (by first | rfl | assumption | (simp only [decide_eq_true_eq, decide_eq_false_iff_not, Bool.not_eq_true', Bool.not_eq_false', Bool.not_eq_eq_eq_not, Bool.not_true, Bool.not_false, beq_iff_eq, beq_eq_false_iff_ne, ne_eq, decide_eq_decide, eq_self, true_iff, iff_true, not_true_eq_false, not_false_eq_true]; first | done | omega)) ?_)
        refine Ops.call (drop_spec n m ticks l es ck o.badge h) rfl (noPd rfl) rfl rfl rfl (fun v A' hR => ?_)
        obtain ⟨rfl, es', ck', rfl, hT⟩ := hR
        repeat' (first | refine Ops.nil ?_ | refine Ops.asg rfl rfl rfl rfl ?_ | refine Ops.bin rfl rfl rfl rfl rfl ?_)
        exact Cd.ret (inBr (ret1 (A' := TB n m ticks es' ck') rfl (Res.tmp rfl) (fun _ h => h.split) ⟨_, _, es', ck', rfl, rfl, hT, fun hb => dropF_ref (by simpa using hb)⟩))
      · by_cases h3 : o.kind = 3
        · repeat' (first | refine Cd.seq ?_ | refine Cd.reg ?_ | refine Ops.nil ?_ | refine Ops.mv rfl rfl rfl rfl ?_ | refine Ops.asg rfl rfl rfl rfl ?_ | refine Ops.fa0 rfl rfl rfl rfl ?_ | refine Ops.ld1 rfl rfl rfl rfl rfl ?_ | refine Ops.bin rfl rfl rfl rfl rfl ?_ | refine Ops.box rfl rfl rfl rfl (noPd rfl) (fun b => ?_) | refine Cd.block ?_ | refine Cd.condT rfl (by first | rfl | assumption | (simp only [decide_eq_true_eq, decide_eq_false_iff_not, Bool.not_eq_true', Bool.not_eq_false', Bool.not_eq_eq_eq_not, Bool.not_true, Bool.not_false, beq_iff_eq, beq_eq_false_iff_ne, ne_eq, decide_eq_decide, eq_self, true_iff, iff_true, not_true_eq_false, not_false_eq_true]; first | done | omega)) ?_ | refine Cd.condF rfl (by first | rfl | assumption | (simp only [decide_eq_true_eq, decide_eq_false_iff_not, Bool.not_eq_true', Bool.not_eq_false', Bool.not_eq_eq_eq_not, Bool.not_true, Bool.not_false, beq_iff_eq, beq_eq_false_iff_ne, ne_eq, decide_eq_decide, eq_self, true_iff, iff_true, not_true_eq_false, not_false_eq_true]; first | done | omega)) ?_)
          refine Ops.call (tick_spec n m ticks l es ck h) rfl (noPd rfl) rfl rfl rfl (fun v A' hR => ?_)
          obtain ⟨es', ck', G, hRs, rfl, hT⟩ := hR
          repeat' (first | refine Cd.seq ?_ | refine Cd.reg ?_ | refine Ops.nil ?_ | refine Ops.asg rfl rfl rfl rfl ?_)
          exact Cd.ret (inBr (ret1 (A' := TB n m ticks es' ck') rfl (Res.tmp rfl) (fun _ h => h.split) ⟨_, _, es', ck', rfl, rfl, hT, fun hb => by cases hb⟩))
        · repeat' (first | refine Cd.seq ?_ | refine Cd.reg ?_ | refine Ops.nil ?_ | refine Ops.asg rfl rfl rfl rfl ?_ | refine Ops.fa0 rfl rfl rfl rfl ?_ | refine Ops.ld1 rfl rfl rfl rfl rfl ?_ | refine Ops.bin rfl rfl rfl rfl rfl ?_ | refine Ops.box rfl rfl rfl rfl (noPd rfl) (fun b => ?_) | refine Cd.block ?_ | refine Cd.skip (Cd.next (Q' := fun _ _ _ => True) ?_) | refine Cd.condF rfl (by first | rfl | assumption | (simp only [decide_eq_true_eq, decide_eq_false_iff_not, Bool.not_eq_true', Bool.not_eq_false', Bool.not_eq_eq_eq_not, Bool.not_true, Bool.not_false, beq_iff_eq, beq_eq_false_iff_ne, ne_eq, decide_eq_decide, eq_self, true_iff, iff_true, not_true_eq_false, not_false_eq_true]; first | done | omega)) ?_)
          exact Cd.ret (ret1 (A' := TB n m ticks es ck) rfl (Res.tmp rfl) (fun _ h => h.split) ⟨_, l, es, ck, rfl, rfl, h, fun _ => rfl⟩)
end Go.Proofs.Ytlfhimdmhhpcfaa
