import Derived.Test.YtlfhimdmhhpcfaaQ12
namespace Go.Proofs.Ytlfhimdmhhpcfaa
open Go Go.Sep Go.Proofs
set_option maxRecDepth 10000
set_option maxHeartbeats 4000000
set_option synthInstance.maxSize 2000
set_option linter.unusedSimpArgs false
set_option linter.unusedVariables false

theorem rgrant_spec (m : Nat) (ticks : Int) (rv : Value) (l : List LE) (G : List Blk) (job badge node life : Int) (h : RsL rv l G) (hlen : l.length ≤ 8) :
    Con Try.prog 12 #[ptr m, .int .i64 job, .int .i64 badge, .agg [.int .i64 node, .int .i64 life].toArray] (RT m ticks rv ++ G)
      fun v A => v = .int .i64 (grantF ticks l job badge node life).1 ∧ ∃ rv' G', A = RT m ticks rv' ++ (G' ++ G) ∧ Left rv rv' l (grantF ticks l job badge node life).2 G' := by
  unfold grantF
  split
  · rename_i hb
    intro B w hS
    exact ((rgrant_bad m ticks rv job badge node life hb).frame hS).mono fun e w' ⟨v, A', he, ⟨hv, hA⟩, hS'⟩ => ⟨v, _, he, ⟨hv, rv, [], by rw [hA]; rfl, .inl ⟨rfl, rfl⟩⟩, hS'⟩
  · refine (rgrant_ok m ticks rv l G job badge node life h hlen (by omega) (by omega) (by omega) (by omega)).mono fun v A ⟨rv', G', hA, hR⟩ => ?_
    rcases hR with ⟨rfl, hc, rfl⟩ | ⟨rfl, hc, hRs⟩
    · have hc' : ∃ x ∈ l, x.job = job ∨ x.badge = badge := hc
      rw [if_pos hc']
      exact ⟨rfl, _, G', hA, .inl ⟨rfl, rfl⟩⟩
    · have hc' : ¬ ∃ x ∈ l, x.job = job ∨ x.badge = badge := fun ⟨x, hx, e⟩ => hc x hx e
      rw [if_neg hc']
      exact ⟨rfl, rv', G', hA, .inr hRs⟩

theorem set_at {l : List LE} (ha : Asc l) {i : Nat} {y : LE} {t : Int} (hy : l[i]? = some y) : l.set i { y with left := t } = l.map fun z => if z.badge = y.badge then { z with left := t } else z := by
  have hm := List.mem_of_getElem? hy
  apply List.ext_getElem?
  intro q
  rw [List.getElem?_map]
  by_cases hq : i = q
  · subst hq
    rw [List.getElem?_set_self (List.getElem?_eq_some_iff.1 hy).1, hy]
    simp
  · rw [List.getElem?_set_ne hq]
    cases hz : l[q]? with
    | none => rfl
    | some z =>
      have : ¬ z.badge = y.badge := fun e => by
        obtain rfl := ha.eq (List.mem_of_getElem? hz) hm e
        obtain ⟨i1, q1⟩ := List.getElem?_eq_some_iff.1 hy
        obtain ⟨i2, q2⟩ := List.getElem?_eq_some_iff.1 hz
        have := (List.pairwise_iff_getElem.1 ha)
        rcases Nat.lt_or_gt_of_ne hq with h | h
        · have := this i q i1 i2 h; rw [q1, q2] at this; omega
        · have := this q i i2 i1 h; rw [q1, q2] at this; omega
      simp [this]
theorem rrenew_spec (m : Nat) (ticks : Int) (rv : Value) (l : List LE) (G : List Blk) (bd : Int) (h : RsL rv l G) (hlen : l.length ≤ 8) (ha : Asc l) :
    Con Try.prog 33 #[ptr m, .int .i64 bd] (RT m ticks rv ++ G)
      fun v A => v = .int .i64 (renewF ticks l bd).1 ∧ ∃ rv' G', A = RT m ticks rv' ++ (G' ++ G) ∧ Left rv rv' l (renewF ticks l bd).2 G' := by
  obtain ⟨ra, rc, rfl⟩ := h.form
  refine Con.intro (vs := [_, _]) Try.func33 rfl Try.ntmps33 rfl (fun B => ?_)
  repeat' (first | refine Cd.seq ?_ | refine Cd.reg ?_ | refine Ops.mv rfl rfl rfl rfl ?_ | refine Ops.asg rfl rfl rfl rfl ?_ | refine Ops.nilP rfl rfl rfl rfl ?_ | refine Ops.fa0 rfl rfl rfl rfl ?_ | refine Ops.ld1 rfl rfl rfl rfl rfl ?_ | refine Ops.bs0 rfl rfl rfl (noPd rfl) (fun b => ?_))
  refine Ops.appS (rows := []) (news := l.map LE.row) Own.empty (Reads.rs (G := G) h.1) (by simp; omega) (by simp; omega) rfl rfl rfl rfl rfl (noPd rfl) rfl (fun v G' hG' => ?_)
  rw [List.nil_append] at hG'
  obtain ⟨a', c', rfl⟩ := hG'.form
  have hml : (l.map LE.row).length = l.length := List.length_map _
  rw [hml] at hG' ⊢
  repeat' (first | refine Cd.seq ?_ | refine Cd.reg ?_ | refine Ops.nil ?_ | refine Ops.asg rfl rfl rfl rfl ?_ | refine Cd.block ?_)
  refine Cd.loopK (σ := Nat) (fun i => i ≤ l.length ∧ ∀ y ∈ l.take i, y.badge ≠ bd) (fun i => [(0, ptr m), (1, .int .i64 bd), (5, .slice a' l.length c'), (6, .int .i64 i)]) (fun _ => RT m ticks (.slice ra l.length rc) ++ (G' ++ G)) (fun i => l.length - i) 0 ⟨Nat.zero_le _, fun y hy => by simp at hy⟩ ⟨rfl, rfl, rfl, rfl, trivial⟩ (fun w h => h.split) (fun i hI => ?_)
  obtain ⟨hi, hno⟩ := hI
  by_cases hil : i < l.length
  · have hil' : (i : Int) < l.length := by omega
    obtain ⟨y, hy⟩ : ∃ y, l[i]? = some y := ⟨_, List.getElem?_eq_getElem hil⟩
    have hyr : (l.map LE.row)[(i : Int).toNat]? = some y.row := map_at hy
    have hk1 := lrows_ok l
    obtain ⟨g, c, sp, e1, rfl, hsp, hle⟩ := hG'.some_ (by rw [hml]; omega)
    rw [hml] at e1
    injection e1 with q1 q2 q3
    subst q1; subst q3
    clear q2
    by_cases hb : y.badge = bd
    · have hne : lfind l bd ≠ none := by rw [← hb, lfind_of ha (List.mem_of_getElem? hy)]; simp
      repeat' (first | refine Cd.seq ?_ | refine Cd.reg ?_ | refine Ops.nil ?_ | refine Ops.mv rfl rfl rfl rfl ?_ | refine Ops.nilP rfl rfl rfl rfl ?_ | refine Ops.fa0 rfl rfl rfl rfl ?_ | refine Ops.fa rfl rfl rfl rfl ?_ | refine Ops.ld1 rfl rfl rfl rfl rfl ?_ | refine Ops.lenS rfl rfl rfl rfl ?_ | refine Ops.bin rfl rfl rfl rfl rfl ?_ | refine Cd.block ?_ | refine Cd.skip (Cd.next ?_) | refine Ops.ixa0 rfl rfl rfl rfl (by omega) (by omega) rfl ?_ | refine Ops.ldRow1 rfl rfl rfl (by assumption) (by assumption) rfl rfl ?_ | refine Cd.condT rfl (by first | rfl | assumption | (simp only [decide_eq_true_eq, decide_eq_false_iff_not, Bool.not_eq_true', Bool.not_eq_false', Bool.not_eq_eq_eq_not, Bool.not_true, Bool.not_false, beq_iff_eq, beq_eq_false_iff_ne, ne_eq, decide_eq_decide, eq_self, true_iff, iff_true, not_true_eq_false, not_false_eq_true]; first | done | omega)) ?_)
      refine Ops.stRow1 rfl rfl rfl rfl rfl hk1 hyr rfl (noPd rfl) ?_
      repeat' (first | refine Cd.seq ?_ | refine Cd.reg ?_ | refine Ops.nil ?_ | refine Ops.mv rfl rfl rfl rfl ?_ | refine Ops.asg rfl rfl rfl rfl ?_ | refine Ops.nilP rfl rfl rfl rfl ?_ | refine Ops.fa0 rfl rfl rfl rfl ?_ | refine Ops.st1 rfl rfl rfl rfl rfl (noPd rfl) ?_)
      have e9 : (l.map LE.row).set (i : Int).toNat (y.row.set 4 (.int .i64 ticks)) = (renewF ticks l bd).2.map LE.row := by
        unfold renewF
        rw [if_neg hne, Int.toNat_natCast, ← hb, ← set_at ha hy, List.map_set]
        rfl
      have hl9 : (renewF ticks l bd).2.length = l.length := by unfold renewF; rw [if_neg hne, List.length_map]
      have e8 : (renewF ticks l bd).1 = 0 := by unfold renewF; rw [if_neg hne]
      rw [e9]
      exact Cd.ret (ret1 (A' := RT m ticks (.slice (some ⟨g, 0, none⟩) l.length c') ++ ([(g, cl (((renewF ticks l bd).2.map LE.row).flatten ++ sp) 40)] ++ G)) rfl (Res.tmp rfl) (fun _ h => h.split) ⟨by rw [e8], _, _, rfl, .inr ⟨⟨lrows_ok _, .inr ⟨g, c', sp, by rw [List.length_map, hl9], rfl⟩⟩, by show l.length ≤ c'; rw [hml] at hle; exact hle⟩⟩)
    · repeat' (first | refine Cd.seq ?_ | refine Cd.reg ?_ | refine Ops.nil ?_ | refine Ops.mv rfl rfl rfl rfl ?_ | refine Ops.asg rfl rfl rfl rfl ?_ | refine Ops.fa rfl rfl rfl rfl ?_ | refine Ops.lenS rfl rfl rfl rfl ?_ | refine Ops.addI rfl rfl rfl rfl (by omega) (by omega) rfl ?_ | refine Ops.bin rfl rfl rfl rfl rfl ?_ | refine Cd.block ?_ | refine Cd.skip (Cd.next ?_) | refine Cd.skip (Cd.next (Q' := fun _ _ _ => True) ?_) | refine Ops.ixa0 rfl rfl rfl rfl (by omega) (by omega) rfl ?_ | refine Ops.ldRow1 rfl rfl rfl (by assumption) (by assumption) rfl rfl ?_ | refine Cd.condT rfl (by first | rfl | assumption | (simp only [decide_eq_true_eq, decide_eq_false_iff_not, Bool.not_eq_true', Bool.not_eq_false', Bool.not_eq_eq_eq_not, Bool.not_true, Bool.not_false, beq_iff_eq, beq_eq_false_iff_ne, ne_eq, decide_eq_decide, eq_self, true_iff, iff_true, not_true_eq_false, not_false_eq_true]; first | done | omega)) ?_ | refine Cd.condF rfl (by first | rfl | assumption | (simp only [decide_eq_true_eq, decide_eq_false_iff_not, Bool.not_eq_true', Bool.not_eq_false', Bool.not_eq_eq_eq_not, Bool.not_true, Bool.not_false, beq_iff_eq, beq_eq_false_iff_ne, ne_eq, decide_eq_decide, eq_self, true_iff, iff_true, not_true_eq_false, not_false_eq_true]; first | done | omega)) ?_)
      exact Ops.nilN (round_end (i + 1) ⟨by show i + 1 ≤ l.length; omega, all_next hy hno hb⟩ (by show l.length - (i + 1) < l.length - i; omega) ⟨rfl, rfl, rfl, rfl, trivial⟩ (fun w h => h))
  · have hil' : ¬ (i : Int) < l.length := by omega
    rw [List.take_of_length_le (show l.length ≤ i by omega)] at hno
    have hne : lfind l bd = none := lfind_none.2 hno
    unfold renewF
    rw [if_pos hne]
    repeat' (first | refine Cd.seq ?_ | refine Cd.reg ?_ | refine Ops.nil ?_ | refine Ops.mv rfl rfl rfl rfl ?_ | refine Ops.asg rfl rfl rfl rfl ?_ | refine Ops.lenS rfl rfl rfl rfl ?_ | refine Ops.bin rfl rfl rfl rfl rfl ?_ | refine Cd.exit (Cd.next (Q' := fun _ _ _ => True) ?_) | refine Cd.condF rfl (by first | rfl | assumption | (simp only [decide_eq_true_eq, decide_eq_false_iff_not, Bool.not_eq_true', Bool.not_eq_false', Bool.not_eq_eq_eq_not, Bool.not_true, Bool.not_false, beq_iff_eq, beq_eq_false_iff_ne, ne_eq, decide_eq_decide, eq_self, true_iff, iff_true, not_true_eq_false, not_false_eq_true]; first | done | omega)) ?_)
    exact Cd.ret (ret1 (A' := RT m ticks (.slice ra l.length rc) ++ ([] ++ G)) rfl (Res.tmp rfl) (fun _ h => h.split) ⟨rfl, _, [], rfl, .inl ⟨rfl, rfl⟩⟩)

theorem rdrop_spec (m : Nat) (ticks : Int) (rv : Value) (l : List LE) (G : List Blk) (b : Int) (h : RsL rv l G) (hlen : l.length ≤ 8) :
    Con Try.prog 18 #[ptr m, .int .i64 b] (RT m ticks rv ++ G)
      fun v A => v = .int .i64 (dropF l b).1 ∧ ∃ rv' G', A = RT m ticks rv' ++ (G' ++ G) ∧ Left rv rv' l (dropF l b).2 G' := by
  obtain ⟨ra, rc, rfl⟩ := h.form
  obtain ⟨p, hp⟩ : ∃ p : LE → Bool, p = fun x => !decide (x.badge = b) := ⟨_, rfl⟩
  refine Con.intro (vs := [_, _]) Try.func18 rfl Try.ntmps18 rfl (fun B => ?_)
  repeat' (first | refine Cd.seq ?_ | refine Cd.reg ?_ | refine Ops.nil ?_ | refine Ops.asg rfl rfl rfl rfl ?_ | refine Ops.bs0 rfl rfl rfl (noPd rfl) (fun b => ?_) | refine Cd.block ?_)
  rename Nat => g0
  refine Cd.loopK (σ := Nat × Value × List Blk) (fun s => s.1 ≤ l.length ∧ OwnL s.2.1 ((l.take s.1).filter p) s.2.2) (fun s => [(0, ptr m), (1, .int .i64 b), (5, s.2.1), (6, .int .i64 s.1)]) (fun s => RT m ticks (.slice ra l.length rc) ++ (G ++ s.2.2)) (fun s => l.length - s.1) (0, .slice (some ⟨g0, 0, none⟩) 0 0, [(g0, cl [] 40)]) ⟨Nat.zero_le _, Own.empty⟩ ⟨rfl, rfl, rfl, rfl, trivial⟩ (fun w h => h.split) (fun s hI => ?_)
  obtain ⟨i, sv, Go⟩ := s
  obtain ⟨hi, hO⟩ := hI
  dsimp only at hi hO ⊢
  obtain ⟨sa, sc, rfl⟩ := hO.form
  have hfl : ((l.take i).filter p).length ≤ 8 := Nat.le_trans (List.length_filter_le _ _) (by rw [List.length_take]; omega)
  by_cases hil : i < l.length
  · have hil' : (i : Int) < l.length := by omega
    obtain ⟨y, hy⟩ : ∃ y, l[i]? = some y := ⟨_, List.getElem?_eq_getElem hil⟩
    have hyr : (l.map LE.row)[(i : Int).toNat]? = some y.row := map_at hy
    have hk1 := lrows_ok l
    obtain ⟨g, c, sp, e1, rfl⟩ := h.some_ (by omega)
    cases e1
    by_cases hb : y.badge = b
    · have e9 : (l.take (i + 1)).filter p = (l.take i).filter p := by rw [← take_next hy, List.filter_append, List.filter_cons_of_neg (by rw [hp]; simp [hb]), List.filter_nil, List.append_nil]
      repeat' (first | refine Cd.seq ?_ | refine Cd.reg ?_ | refine Ops.nil ?_ | refine Ops.mv rfl rfl rfl rfl ?_ | refine Ops.asg rfl rfl rfl rfl ?_ | refine Ops.nilP rfl rfl rfl rfl ?_ | refine Ops.fa0 rfl rfl rfl rfl ?_ | refine Ops.fa rfl rfl rfl rfl ?_ | refine Ops.ld1 rfl rfl rfl rfl rfl ?_ | refine Ops.lenS rfl rfl rfl rfl ?_ | refine Ops.addI rfl rfl rfl rfl (by omega) (by omega) rfl ?_ | refine Ops.bin rfl rfl rfl rfl rfl ?_ | refine Cd.block ?_ | refine Cd.skip (Cd.next ?_) | refine Cd.skip (Cd.next (Q' := fun _ _ _ => True) ?_) | refine Ops.ixa0 rfl rfl rfl rfl (by omega) (by omega) rfl ?_ | refine Ops.ldRow1 rfl rfl rfl (by assumption) (by assumption) rfl rfl ?_ | refine Cd.condT rfl (by first | rfl | assumption | (simp only [decide_eq_true_eq, decide_eq_false_iff_not, Bool.not_eq_true', Bool.not_eq_false', Bool.not_eq_eq_eq_not, Bool.not_true, Bool.not_false, beq_iff_eq, beq_eq_false_iff_ne, ne_eq, decide_eq_decide, eq_self, true_iff, iff_true, not_true_eq_false, not_false_eq_true]; first | done | omega)) ?_ | refine Cd.condF rfl (by first | rfl | assumption | (simp only [decide_eq_true_eq, decide_eq_false_iff_not, Bool.not_eq_true', Bool.not_eq_false', Bool.not_eq_eq_eq_not, Bool.not_true, Bool.not_false, beq_iff_eq, beq_eq_false_iff_ne, ne_eq, decide_eq_decide, eq_self, true_iff, iff_true, not_true_eq_false, not_false_eq_true]; first | done | omega)) ?_)
      exact Ops.nilN (round_end (i + 1, _, Go) ⟨by show i + 1 ≤ l.length; omega, by show OwnL _ ((l.take (i + 1)).filter p) Go; rw [e9]; exact hO⟩ (by show l.length - (i + 1) < l.length - i; omega) ⟨rfl, rfl, rfl, rfl, trivial⟩ (fun w h => h))
    · have e9 : (l.take (i + 1)).filter p = (l.take i).filter p ++ [y] := by rw [← take_next hy, List.filter_append, List.filter_cons_of_pos (by rw [hp]; simp [hb]), List.filter_nil]
      repeat' (first | refine Cd.seq ?_ | refine Cd.reg ?_ | refine Ops.nil ?_ | refine Ops.mv rfl rfl rfl rfl ?_ | refine Ops.nilP rfl rfl rfl rfl ?_ | refine Ops.fa0 rfl rfl rfl rfl ?_ | refine Ops.fa rfl rfl rfl rfl ?_ | refine Ops.ld1 rfl rfl rfl rfl rfl ?_ | refine Ops.lenS rfl rfl rfl rfl ?_ | refine Ops.bin rfl rfl rfl rfl rfl ?_ | refine Ops.bs1 rfl rfl rfl rfl rfl rfl rfl (noPd rfl) (fun b => ?_) | refine Cd.block ?_ | refine Cd.skip (Cd.next ?_) | refine Ops.ixa0 rfl rfl rfl rfl (by omega) (by omega) rfl ?_ | refine Ops.ldRow rfl rfl rfl (by assumption) (by assumption) rfl ?_ | refine Ops.ldRow1 rfl rfl rfl (by assumption) (by assumption) rfl rfl ?_ | refine Cd.condT rfl (by first | rfl | assumption | (simp only [decide_eq_true_eq, decide_eq_false_iff_not, Bool.not_eq_true', Bool.not_eq_false', Bool.not_eq_eq_eq_not, Bool.not_true, Bool.not_false, beq_iff_eq, beq_eq_false_iff_ne, ne_eq, decide_eq_decide, eq_self, true_iff, iff_true, not_true_eq_false, not_false_eq_true]; first | done | omega)) ?_)
      refine Ops.app1 (rows := ((l.take i).filter p).map LE.row) hO (by rw [List.length_map]; omega) (by rw [List.length_map]; omega) rfl rfl rfl rfl (by rfl) (by rfl) rfl (noPd rfl) rfl (fun v G3 hG3 => ?_)
      obtain ⟨a3, c3, rfl⟩ := hG3.form
      repeat' (first | refine Ops.nilN (inB (Cd.next ?_)) | refine Cd.reg ?_ | refine Ops.mv rfl rfl rfl rfl ?_ | refine Ops.asg rfl rfl rfl rfl ?_ | refine Ops.addI rfl rfl rfl rfl (by omega) (by omega) rfl ?_)
      exact Ops.nilN (round_end (i + 1, _, G3) ⟨by show i + 1 ≤ l.length; omega, by show OwnL _ ((l.take (i + 1)).filter p) G3; rw [e9]; unfold OwnL; rw [List.map_append]; exact hG3⟩ (by show l.length - (i + 1) < l.length - i; omega) ⟨rfl, rfl, rfl, rfl, trivial⟩ (fun w h => h.split))
  · have hil' : ¬ (i : Int) < l.length := by omega
    have e8 : l.take i = l := List.take_of_length_le (by omega)
    rw [e8] at hO hfl ⊢
    have hml : ((l.filter p).map LE.row).length = (l.filter p).length := List.length_map _
    unfold dropF
    cases hf : lfind l b with
    | none =>
      have hall := lfind_none.1 hf
      have e7 : l.filter p = l := List.filter_eq_self.2 fun z hz => by rw [hp]; simp [hall z hz]
      rw [if_pos rfl]
      rw [e7] at hml
      rw [e7, hml]
      repeat' (first | refine Cd.seq ?_ | refine Cd.reg ?_ | refine Ops.nil ?_ | refine Ops.mv rfl rfl rfl rfl ?_ | refine Ops.asg rfl rfl rfl rfl ?_ | refine Ops.nilP rfl rfl rfl rfl ?_ | refine Ops.fa0 rfl rfl rfl rfl ?_ | refine Ops.ld1 rfl rfl rfl rfl rfl ?_ | refine Ops.lenS rfl rfl rfl rfl ?_ | refine Ops.bin rfl rfl rfl rfl rfl ?_ | refine Cd.exit (Cd.next (Q' := fun _ _ _ => True) ?_) | refine Cd.condT rfl (by first | rfl | assumption | (simp only [decide_eq_true_eq, decide_eq_false_iff_not, Bool.not_eq_true', Bool.not_eq_false', Bool.not_eq_eq_eq_not, Bool.not_true, Bool.not_false, beq_iff_eq, beq_eq_false_iff_ne, ne_eq, decide_eq_decide, eq_self, true_iff, iff_true, not_true_eq_false, not_false_eq_true]; first | done | omega)) ?_ | refine Cd.condF rfl (by first | rfl | assumption | (simp only [decide_eq_true_eq, decide_eq_false_iff_not, Bool.not_eq_true', Bool.not_eq_false', Bool.not_eq_eq_eq_not, Bool.not_true, Bool.not_false, beq_iff_eq, beq_eq_false_iff_ne, ne_eq, decide_eq_decide, eq_self, true_iff, iff_true, not_true_eq_false, not_false_eq_true]; first | done | omega)) ?_)
      exact Cd.ret (ret1 (A' := RT m ticks (.slice ra l.length rc) ++ ([] ++ G)) rfl (Res.tmp rfl) (fun _ h => h.split) ⟨rfl, _, [], rfl, .inl ⟨rfl, rfl⟩⟩)
    | some x =>
      obtain ⟨hx, e6⟩ := lfind_mem hf
      have hlt : (l.filter p).length < l.length := List.length_filter_lt_length_iff_exists.2 ⟨x, hx, by rw [hp]; simp [e6]⟩
      rw [if_neg (by simp), hml]
      rw [hml] at hO
      have hne : ¬ ((l.filter p).length : Int) = l.length := by omega
      repeat' (first | refine Cd.seq ?_ | refine Cd.reg ?_ | refine Ops.nil ?_ | refine Ops.mv rfl rfl rfl rfl ?_ | refine Ops.asg rfl rfl rfl rfl ?_ | refine Ops.nilP rfl rfl rfl rfl ?_ | refine Ops.fa0 rfl rfl rfl rfl ?_ | refine Ops.ld1 rfl rfl rfl rfl rfl ?_ | refine Ops.lenS rfl rfl rfl rfl ?_ | refine Ops.bin rfl rfl rfl rfl rfl ?_ | refine Ops.st1 rfl rfl rfl rfl rfl (noPd rfl) ?_ | refine Cd.skip (Cd.next ?_) | refine Cd.exit (Cd.next (Q' := fun _ _ _ => True) ?_) | refine Cd.condF rfl (by first | rfl | assumption | (simp only [decide_eq_true_eq, decide_eq_false_iff_not, Bool.not_eq_true', Bool.not_eq_false', Bool.not_eq_eq_eq_not, Bool.not_true, Bool.not_false, beq_iff_eq, beq_eq_false_iff_ne, ne_eq, decide_eq_decide, eq_self, true_iff, iff_true, not_true_eq_false, not_false_eq_true]; first | done | omega)) ?_)
      exact Cd.ret (ret1 (A' := RT m ticks (.slice sa (l.filter p).length sc) ++ (Go ++ G)) rfl (Res.tmp rfl) (fun _ h => h.split) ⟨rfl, _, Go, rfl, .inr (by subst hp; exact hO.rs)⟩)

structure GT where
  i : Nat
  ov : Value
  OG : List Blk
  sv : Value
  G : List Blk
theorem rtick_spec (m : Nat) (ticks : Int) (rv : Value) (l : List LE) (G : List Blk) (h : RsL rv l G) (hl : LOk ticks l) :
    Con Try.prog 16 #[ptr m] (RT m ticks rv ++ G)
      fun v A => ∃ rv' G' G2, A = RT m ticks rv' ++ (G' ++ (G2 ++ G)) ∧ RsL v (overF l) G2 ∧ RsL rv' (restF l) G' := by
  have hlen := hl.few
  have ht1 := hl.t1
  obtain ⟨ra, rc, rfl⟩ := h.form
  refine Con.intro (vs := [_]) Try.func16 rfl Try.ntmps16 rfl (fun B => ?_)
  repeat' (first | refine Cd.seq ?_ | refine Cd.reg ?_ | refine Ops.nil ?_ | refine Ops.asg rfl rfl rfl rfl ?_ | refine Ops.bs0 rfl rfl rfl (noPd rfl) (fun b => ?_) | refine Cd.block ?_)
  rename_i g0
  rename Nat => g1
  refine Cd.loopK (σ := GT) (fun s => s.i ≤ l.length ∧ OwnL s.sv (restF (l.take s.i)) s.G ∧ OwnL s.ov (overF (l.take s.i)) s.OG) (fun s => [(0, ptr m), (3, s.sv), (4, s.ov), (5, .int .i64 s.i)]) (fun s => RT m ticks (.slice ra l.length rc) ++ (G ++ (s.G ++ s.OG))) (fun s => l.length - s.i)
    ⟨0, .slice (some ⟨g1, 0, none⟩) 0 0, [(g1, cl [] 40)], .slice (some ⟨g0, 0, none⟩) 0 0, [(g0, cl [] 40)]⟩ ⟨Nat.zero_le _, Own.empty, Own.empty⟩ ⟨rfl, rfl, rfl, rfl, trivial⟩ (fun w h => h.split) (fun s hI => ?_)
  obtain ⟨i, ov, OG, sv, Go⟩ := s
  obtain ⟨hi, hO, hV⟩ := hI
  dsimp only at hi hO hV ⊢
  obtain ⟨sa, sc, rfl⟩ := hO.form
  obtain ⟨oa, oc, rfl⟩ := hV.form
  have hol := overF_len (l.take i)
  rw [List.length_take] at hol
  by_cases hil : i < l.length
  · have hil' : (i : Int) < l.length := by omega
    obtain ⟨y, hy⟩ : ∃ y, l[i]? = some y := ⟨_, List.getElem?_eq_getElem hil⟩
    have hleft := hl.left0 y (List.mem_of_getElem? hy)
    have hyr : (l.map LE.row)[(i : Int).toNat]? = some y.row := map_at hy
    have hk1 := lrows_ok l
    obtain ⟨g, c, sp, e1, rfl⟩ := h.some_ (by omega)
    cases e1
    by_cases hz : y.left - 1 = 0
    · have e8 : overF (l.take (i + 1)) = overF (l.take i) ++ [dec y] := by rw [← take_next hy, overF_app, overF_one0 hz]
      have e9 : restF (l.take (i + 1)) = restF (l.take i) := by rw [← take_next hy, restF_app, restF_one0 hz, List.append_nil]
      repeat' (first | refine Cd.seq ?_ | refine Cd.reg ?_ | refine Ops.nil ?_ | refine Ops.mv rfl rfl rfl rfl ?_ | refine Ops.nilP rfl rfl rfl rfl ?_ | refine Ops.fa0 rfl rfl rfl rfl ?_ | refine Ops.ld1 rfl rfl rfl rfl rfl ?_ | refine Ops.ldN rfl rfl rfl rfl ?_ | refine Ops.lenS rfl rfl rfl rfl ?_ | refine Ops.subI rfl rfl rfl rfl (by omega) (by omega) rfl ?_ | refine Ops.bin rfl rfl rfl rfl rfl ?_ | refine Ops.alloc rfl rfl rfl (noPd rfl) (fun b => ?_) | refine Ops.bs1 rfl rfl rfl rfl rfl rfl rfl (noPd rfl) (fun b => ?_) | refine Ops.st1 rfl rfl rfl rfl rfl (noPd rfl) ?_ | refine Ops.stN rfl rfl rfl rfl rfl rfl (noPd rfl) ?_ | refine Cd.block ?_ | refine Cd.skip (Cd.next ?_) | refine Ops.ixa0 rfl rfl rfl rfl (by omega) (by omega) rfl ?_ | refine Ops.ldRow rfl rfl rfl (by assumption) (by assumption) rfl ?_ | refine Cd.condT rfl (by first | rfl | assumption | (simp only [decide_eq_true_eq, decide_eq_false_iff_not, Bool.not_eq_true', Bool.not_eq_false', Bool.not_eq_eq_eq_not, Bool.not_true, Bool.not_false, beq_iff_eq, beq_eq_false_iff_ne, ne_eq, decide_eq_decide, eq_self, true_iff, iff_true, not_true_eq_false, not_false_eq_true]; first | done | omega)) ?_)
      refine Ops.app1 (rows := (overF (l.take i)).map LE.row) hV (by rw [List.length_map]; omega) (by rw [List.length_map]; omega) rfl rfl rfl rfl (by rfl) (by rfl) rfl (noPd rfl) rfl (fun v G3 hG3 => ?_)
      obtain ⟨a3, c3, rfl⟩ := hG3.form
      repeat' (first | refine Ops.nilN (inB (Cd.next ?_)) | refine Cd.reg ?_ | refine Ops.mv rfl rfl rfl rfl ?_ | refine Ops.asg rfl rfl rfl rfl ?_ | refine Ops.addI rfl rfl rfl rfl (by omega) (by omega) rfl ?_)
      exact Ops.nilN (round_end (⟨i + 1, _, G3, _, Go⟩ : GT) ⟨by show i + 1 ≤ l.length; omega, by show OwnL _ (restF (l.take (i + 1))) Go; rw [e9]; exact hO, by show OwnL _ (overF (l.take (i + 1))) G3; rw [e8]; unfold OwnL; rw [List.map_append]; exact hG3⟩ (by show l.length - (i + 1) < l.length - i; omega) ⟨rfl, rfl, rfl, rfl, trivial⟩ (fun w h => h.split))
    · have e8 : overF (l.take (i + 1)) = overF (l.take i) := by rw [← take_next hy, overF_app, overF_one1 hz, List.append_nil]
      have e9 : restF (l.take (i + 1)) = restF (l.take i) ++ [dec y] := by rw [← take_next hy, restF_app, restF_one1 hz]
      repeat' (first | refine Cd.seq ?_ | refine Cd.reg ?_ | refine Ops.nil ?_ | refine Ops.mv rfl rfl rfl rfl ?_ | refine Ops.nilP rfl rfl rfl rfl ?_ | refine Ops.fa0 rfl rfl rfl rfl ?_ | refine Ops.ld1 rfl rfl rfl rfl rfl ?_ | refine Ops.ldN rfl rfl rfl rfl ?_ | refine Ops.lenS rfl rfl rfl rfl ?_ | refine Ops.subI rfl rfl rfl rfl (by omega) (by omega) rfl ?_ | refine Ops.bin rfl rfl rfl rfl rfl ?_ | refine Ops.alloc rfl rfl rfl (noPd rfl) (fun b => ?_) | refine Ops.bs1 rfl rfl rfl rfl rfl rfl rfl (noPd rfl) (fun b => ?_) | refine Ops.st1 rfl rfl rfl rfl rfl (noPd rfl) ?_ | refine Ops.stN rfl rfl rfl rfl rfl rfl (noPd rfl) ?_ | refine Cd.block ?_ | refine Cd.skip (Cd.next ?_) | refine Ops.ixa0 rfl rfl rfl rfl (by omega) (by omega) rfl ?_ | refine Ops.ldRow rfl rfl rfl (by assumption) (by assumption) rfl ?_ | refine Cd.condT rfl (by first | rfl | assumption | (simp only [decide_eq_true_eq, decide_eq_false_iff_not, Bool.not_eq_true', Bool.not_eq_false', Bool.not_eq_eq_eq_not, Bool.not_true, Bool.not_false, beq_iff_eq, beq_eq_false_iff_ne, ne_eq, decide_eq_decide, eq_self, true_iff, iff_true, not_true_eq_false, not_false_eq_true]; first | done | omega)) ?_ | refine Cd.condF rfl (by first | rfl | assumption | (simp only [decide_eq_true_eq, decide_eq_false_iff_not, Bool.not_eq_true', Bool.not_eq_false', Bool.not_eq_eq_eq_not, Bool.not_true, Bool.not_false, beq_iff_eq, beq_eq_false_iff_ne, ne_eq, decide_eq_decide, eq_self, true_iff, iff_true, not_true_eq_false, not_false_eq_true]; first | done | omega)) ?_)
      refine Ops.app1 (rows := (restF (l.take i)).map LE.row) hO (by rw [List.length_map]; omega) (by rw [List.length_map]; omega) rfl rfl rfl rfl (by rfl) (by rfl) rfl (noPd rfl) rfl (fun v G3 hG3 => ?_)
      obtain ⟨a3, c3, rfl⟩ := hG3.form
      repeat' (first | refine Ops.nilN (inB (Cd.next ?_)) | refine Cd.reg ?_ | refine Ops.mv rfl rfl rfl rfl ?_ | refine Ops.asg rfl rfl rfl rfl ?_ | refine Ops.addI rfl rfl rfl rfl (by omega) (by omega) rfl ?_)
      exact Ops.nilN (round_end (⟨i + 1, _, OG, _, G3⟩ : GT) ⟨by show i + 1 ≤ l.length; omega, by show OwnL _ (restF (l.take (i + 1))) G3; rw [e9]; unfold OwnL; rw [List.map_append]; exact hG3, by show OwnL _ (overF (l.take (i + 1))) OG; rw [e8]; exact hV⟩ (by show l.length - (i + 1) < l.length - i; omega) ⟨rfl, rfl, rfl, rfl, trivial⟩ (fun w h => h.split))
  · have hil' : ¬ (i : Int) < l.length := by omega
    have e8 : l.take i = l := List.take_of_length_le (by omega)
    rw [e8] at hO hV ⊢
    repeat' (first | refine Cd.seq ?_ | refine Cd.reg ?_ | refine Ops.nil ?_ | refine Ops.mv rfl rfl rfl rfl ?_ | refine Ops.asg rfl rfl rfl rfl ?_ | refine Ops.nilP rfl rfl rfl rfl ?_ | refine Ops.fa0 rfl rfl rfl rfl ?_ | refine Ops.ld1 rfl rfl rfl rfl rfl ?_ | refine Ops.lenS rfl rfl rfl rfl ?_ | refine Ops.bin rfl rfl rfl rfl rfl ?_ | refine Ops.st1 rfl rfl rfl rfl rfl (noPd rfl) ?_ | refine Cd.exit (Cd.next (Q' := fun _ _ _ => True) ?_) | refine Cd.condF rfl (by first | rfl | assumption | (simp only [decide_eq_true_eq, decide_eq_false_iff_not, Bool.not_eq_true', Bool.not_eq_false', Bool.not_eq_eq_eq_not, Bool.not_true, Bool.not_false, beq_iff_eq, beq_eq_false_iff_ne, ne_eq, decide_eq_decide, eq_self, true_iff, iff_true, not_true_eq_false, not_false_eq_true]; first | done | omega)) ?_)
    exact Cd.ret (ret1 (A' := RT m ticks (.slice sa ((restF l).map LE.row).length sc) ++ (Go ++ (OG ++ G))) rfl (Res.tmp rfl) (fun _ h => h.split) ⟨_, Go, OG, rfl, hV.rs, hO.rs⟩)

theorem rfind_spec (m : Nat) (ticks : Int) (rv : Value) (l : List LE) (G : List Blk) (b : Int) (h : RsL rv l G) (hlen : l.length ≤ 8) (ha : Asc l) :
    Con Try.prog 34 #[ptr m, .int .i64 b] (RT m ticks rv ++ G)
      fun v A => v = .tuple #[((lfind l b).getD LE.zero).val, .bool (lfind l b).isSome] ∧ A = RT m ticks rv ++ G := by
  obtain ⟨ra, rc, rfl⟩ := h.form
  refine Con.intro (vs := [_, _]) Try.func34 rfl Try.ntmps34 rfl (fun B => ?_)
  repeat' (first | refine Cd.seq ?_ | refine Cd.reg ?_ | refine Ops.nil ?_ | refine Ops.asg rfl rfl rfl rfl ?_ | refine Ops.alloc rfl rfl rfl (noPd rfl) (fun b => ?_) | refine Cd.block ?_)
  rename Nat => b4
  refine Cd.loopK (σ := Nat) (fun i => i ≤ l.length ∧ ∀ y ∈ l.take i, y.badge ≠ b) (fun i => [(0, ptr m), (1, .int .i64 b), (4, ptr b4), (6, .int .i64 i)]) (fun _ => (b4, cl LE.zero.row 40) :: (RT m ticks (.slice ra l.length rc) ++ G)) (fun i => l.length - i) 0 ⟨Nat.zero_le _, fun y hy => by simp at hy⟩ ⟨rfl, rfl, rfl, rfl, trivial⟩ (fun w h => h.split) (fun i hI => ?_)
  obtain ⟨hi, hno⟩ := hI
  by_cases hil : i < l.length
  · have hil' : (i : Int) < l.length := by omega
    obtain ⟨y, hy⟩ : ∃ y, l[i]? = some y := ⟨_, List.getElem?_eq_getElem hil⟩
    have hyr : (l.map LE.row)[(i : Int).toNat]? = some y.row := map_at hy
    have hk1 := lrows_ok l
    obtain ⟨g, c, sp, e1, rfl⟩ := h.some_ (by omega)
    cases e1
    by_cases hb : y.badge = b
    · have hf : lfind l b = some y := by rw [← hb]; exact lfind_of ha (List.mem_of_getElem? hy)
      rw [hf]
      simp only [Option.getD_some, Option.isSome_some]
      repeat' (first | refine Cd.seq ?_ | refine Cd.reg ?_ | refine Ops.nil ?_ | refine Ops.mv rfl rfl rfl rfl ?_ | refine Ops.asg rfl rfl rfl rfl ?_ | refine Ops.nilP rfl rfl rfl rfl ?_ | refine Ops.fa0 rfl rfl rfl rfl ?_ | refine Ops.fa rfl rfl rfl rfl ?_ | refine Ops.ld1 rfl rfl rfl rfl rfl ?_ | refine Ops.lenS rfl rfl rfl rfl ?_ | refine Ops.bin rfl rfl rfl rfl rfl ?_ | refine Ops.stN rfl rfl rfl rfl rfl rfl (noPd rfl) ?_ | refine Cd.block ?_ | refine Cd.skip (Cd.next ?_) | refine Ops.ixa0 rfl rfl rfl rfl (by omega) (by omega) rfl ?_ | refine Ops.ldRow rfl rfl rfl (by assumption) (by assumption) rfl ?_ | refine Ops.ldRow1 rfl rfl rfl (by assumption) (by assumption) rfl rfl ?_ | refine Cd.condT rfl (by first | rfl | assumption | (simp only [decide_eq_true_eq, decide_eq_false_iff_not, Bool.not_eq_true', Bool.not_eq_false', Bool.not_eq_eq_eq_not, Bool.not_true, Bool.not_false, beq_iff_eq, beq_eq_false_iff_ne, ne_eq, decide_eq_decide, eq_self, true_iff, iff_true, not_true_eq_false, not_false_eq_true]; first | done | omega)) ?_)
      exact Cd.ret (ret2 (A' := RT m ticks (.slice (some ⟨g, 0, none⟩) l.length rc) ++ [(g, cl ((l.map LE.row).flatten ++ sp) 40)]) rfl (Res.cellN rfl) (Res.tmp rfl) (fun _ h => h.split) ⟨rfl, rfl⟩)
    · repeat' (first | refine Cd.seq ?_ | refine Cd.reg ?_ | refine Ops.nil ?_ | refine Ops.mv rfl rfl rfl rfl ?_ | refine Ops.asg rfl rfl rfl rfl ?_ | refine Ops.nilP rfl rfl rfl rfl ?_ | refine Ops.fa0 rfl rfl rfl rfl ?_ | refine Ops.fa rfl rfl rfl rfl ?_ | refine Ops.ld1 rfl rfl rfl rfl rfl ?_ | refine Ops.lenS rfl rfl rfl rfl ?_ | refine Ops.addI rfl rfl rfl rfl (by omega) (by omega) rfl ?_ | refine Ops.bin rfl rfl rfl rfl rfl ?_ | refine Cd.block ?_ | refine Cd.skip (Cd.next ?_) | refine Cd.skip (Cd.next (Q' := fun _ _ _ => True) ?_) | refine Ops.ixa0 rfl rfl rfl rfl (by omega) (by omega) rfl ?_ | refine Ops.ldRow1 rfl rfl rfl (by assumption) (by assumption) rfl rfl ?_ | refine Cd.condT rfl (by first | rfl | assumption | (simp only [decide_eq_true_eq, decide_eq_false_iff_not, Bool.not_eq_true', Bool.not_eq_false', Bool.not_eq_eq_eq_not, Bool.not_true, Bool.not_false, beq_iff_eq, beq_eq_false_iff_ne, ne_eq, decide_eq_decide, eq_self, true_iff, iff_true, not_true_eq_false, not_false_eq_true]; first | done | omega)) ?_ | refine Cd.condF rfl (by first | rfl | assumption | (simp only [decide_eq_true_eq, decide_eq_false_iff_not, Bool.not_eq_true', Bool.not_eq_false', Bool.not_eq_eq_eq_not, Bool.not_true, Bool.not_false, beq_iff_eq, beq_eq_false_iff_ne, ne_eq, decide_eq_decide, eq_self, true_iff, iff_true, not_true_eq_false, not_false_eq_true]; first | done | omega)) ?_)
      exact Ops.nilN (round_end (i + 1) ⟨by show i + 1 ≤ l.length; omega, all_next hy hno hb⟩ (by show l.length - (i + 1) < l.length - i; omega) ⟨rfl, rfl, rfl, rfl, trivial⟩ (fun w h => h))
  · have hil' : ¬ (i : Int) < l.length := by omega
    rw [List.take_of_length_le (show l.length ≤ i by omega)] at hno
    have hf : lfind l b = none := lfind_none.2 hno
    rw [hf]
    simp only [Option.getD_none, Option.isSome_none]
    repeat' (first | refine Cd.seq ?_ | refine Cd.reg ?_ | refine Ops.nil ?_ | refine Ops.mv rfl rfl rfl rfl ?_ | refine Ops.asg rfl rfl rfl rfl ?_ | refine Ops.nilP rfl rfl rfl rfl ?_ | refine Ops.fa0 rfl rfl rfl rfl ?_ | refine Ops.ld1 rfl rfl rfl rfl rfl ?_ | refine Ops.lenS rfl rfl rfl rfl ?_ | refine Ops.bin rfl rfl rfl rfl rfl ?_ | refine Ops.bld rfl rfl rfl rfl ?_ | refine Ops.stN rfl rfl rfl rfl rfl rfl (noPd rfl) ?_ | refine Cd.exit (Cd.next (Q' := fun _ _ _ => True) ?_) | refine Cd.condF rfl (by first | rfl | assumption | (simp only [decide_eq_true_eq, decide_eq_false_iff_not, Bool.not_eq_true', Bool.not_eq_false', Bool.not_eq_eq_eq_not, Bool.not_true, Bool.not_false, beq_iff_eq, beq_eq_false_iff_ne, ne_eq, decide_eq_decide, eq_self, true_iff, iff_true, not_true_eq_false, not_false_eq_true]; first | done | omega)) ?_)
    exact Cd.ret (ret2 (A' := RT m ticks (.slice ra l.length rc) ++ G) rfl (Res.cellN rfl) (Res.tmp rfl) (fun _ h => h.split) ⟨rfl, rfl⟩)
end Go.Proofs.Ytlfhimdmhhpcfaa
