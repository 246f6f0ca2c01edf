import Derived.Test.YtfghnepmbgbnoaaA15
namespace Go.Proofs.Ytfghnepmbgbnoaa
open Go Go.Sep Go.Proofs
set_option maxRecDepth 10000
set_option maxHeartbeats 8000000
set_option synthInstance.maxSize 2000
set_option linter.unusedSimpArgs false
set_option linter.unusedVariables false

/-! All, First -/
theorem mayf_spec (e : Ev) : Con Try.prog 14 #[.agg e.row.toArray] [] fun v A => v = .bool (mayE e) ∧ A = [] := by
  refine Con.intro (vs := [_]) Try.func14 rfl Try.ntmps14 rfl (fun B => ?_)
  repeat' (first | refine Cd.seq ?_ | refine Cd.reg ?_ | refine Ops.nil ?_ | refine Ops.mv rfl rfl rfl rfl ?_ | refine Ops.asg rfl rfl rfl rfl ?_ | refine Ops.fa0 rfl rfl rfl rfl ?_ | refine Ops.ld1 rfl rfl rfl rfl rfl ?_ | refine Ops.bin rfl rfl rfl rfl rfl ?_ | refine Ops.pickT rfl rfl rfl rfl rfl ?_ | refine Ops.pickF rfl rfl rfl rfl rfl ?_ | refine Ops.box rfl rfl rfl rfl (noPd rfl) (fun b => ?_) | refine Ops.gSkip rfl rfl rfl ?_ | refine Cd.condT rfl rfl ?_ | refine Cd.block ?_ | refine Cd.skip (Cd.next ?_) | refine Cd.skip (Cd.next (Q' := fun _ _ _ => True) ?_) | refine Cd.condT rfl (by first | rfl | assumption | (simp only [decide_eq_true_eq, decide_eq_false_iff_not, Bool.not_eq_true', Bool.not_eq_false', Bool.not_eq_eq_eq_not, Bool.not_true, Bool.not_false, beq_iff_eq, beq_eq_false_iff_ne, ne_eq, decide_eq_decide, eq_self, true_iff, iff_true, not_true_eq_false, not_false_eq_true]; first | done | omega)) ?_ | refine Cd.condF rfl (by first | rfl | assumption | (simp only [decide_eq_true_eq, decide_eq_false_iff_not, Bool.not_eq_true', Bool.not_eq_false', Bool.not_eq_eq_eq_not, Bool.not_true, Bool.not_false, beq_iff_eq, beq_eq_false_iff_ne, ne_eq, decide_eq_decide, eq_self, true_iff, iff_true, not_true_eq_false, not_false_eq_true]; first | done | omega)) ?_ | ((fail_if_success refine Ops.probe rfl ?_); refine Ops.gSplit rfl rfl (fun hc => ?_) (fun hc => ?_) <;> (try simp only [decide_eq_true_eq, decide_eq_false_iff_not, Bool.not_eq_true', Bool.not_eq_false', Bool.not_eq_eq_eq_not, Bool.not_true, Bool.not_false, Int.not_lt, Int.not_le] at hc)) | (refine Cd.cond rfl (fun hc => ?_) (fun hc => ?_) <;> (try simp only [decide_eq_true_eq, decide_eq_false_iff_not, Bool.not_eq_true', Bool.not_eq_false', Bool.not_eq_eq_eq_not, Bool.not_true, Bool.not_false, Int.not_lt, Int.not_le] at hc)))
  all_goals refine Cd.ret (ret1 (A' := []) rfl (Res.tmp rfl) (fun _ h => h.split) ⟨?_, rfl⟩)
  all_goals
    refine congrArg Value.bool ?_
    rw [Bool.eq_iff_iff]
    simp only [mayE, Bool.and_eq_true, Bool.or_eq_true, Bool.not_eq_true', decide_eq_true_eq, decide_eq_false_iff_not, Bool.false_eq_true, false_iff, iff_false, true_iff, iff_true] at *
    omega
theorem all1_spec (e : Ev) : Con Try.prog 13 #[.agg e.row.toArray] [] fun v A => v = .bool (!mayE e) ∧ A = [] := by
  refine Con.intro (vs := [_]) Try.func13 rfl Try.ntmps13 rfl (fun B => ?_)
  repeat' (first | refine Cd.seq ?_ | refine Cd.reg ?_ | refine Ops.asg rfl rfl rfl rfl ?_ | refine Ops.ldN rfl rfl rfl rfl ?_ | refine Ops.box rfl rfl rfl rfl (noPd rfl) (fun b => ?_))
  refine Ops.call (mayf_spec e) rfl (noPd rfl) rfl rfl rfl (fun v A' hR => ?_)
  obtain ⟨rfl, rfl⟩ := hR
  repeat' (first | refine Ops.nil ?_ | refine Ops.asg rfl rfl rfl rfl ?_ | refine Ops.un rfl rfl rfl rfl ?_)
  exact Cd.ret (ret1 (A' := []) rfl (Res.tmp rfl) (fun _ h => h.split) ⟨rfl, rfl⟩)

def totT (l : List Ev) : Nat := (l.map fun e => e.texts.length).sum
def allF (l : List Ev) : List (Int × Int) × Int := if 65536 < l.length then ([], 210) else if (l.any fun e => !mayE e) = true then ([], 211) else ((runF Au.new 0 l).2, 0)
theorem runF_snoc : ∀ (l : List Ev) (a : Au) (n : Nat) (e : Ev), runF a n (l ++ [e]) = ((evF (runF a n l).1 e).1, (runF a n l).2 ++ (evF (runF a n l).1 e).2.map fun q => (q, ((n + l.length : Nat) : Int)))
  | [], a, n, e => by simp [runF]
  | x :: l, a, n, e => by
    show runF a n (x :: (l ++ [e])) = _
    unfold runF
    rw [runF_snoc l _ (n + 1) e]
    simp only [List.length_cons, List.append_assoc]
    rw [show n + 1 + l.length = n + (l.length + 1) from by omega]
theorem norm_len (l : List Int) : (norm l).length ≤ 8 := Nat.le_trans (List.length_filter_le _ _) (by decide)
theorem runF_len : ∀ (l : List Ev) (a : Au) (n : Nat), (runF a n l).2.length ≤ 8 * l.length
  | [], _, _ => Nat.le_refl _
  | x :: l, a, n => by
    have := runF_len l (evF a x).1 (n + 1)
    have h2 : (evF a x).2.length ≤ 8 := norm_len _
    unfold runF
    simp only [List.length_append, List.length_map, List.length_cons]
    omega
theorem totT_take (l : List Ev) (i : Nat) {e : Ev} (h : l[i]? = some e) : totT (l.take i) + e.texts.length = totT (l.take (i + 1)) ∧ totT (l.take (i + 1)) ≤ totT l := by
  obtain ⟨h1, h2⟩ := List.getElem?_eq_some_iff.1 h
  refine ⟨?_, ?_⟩
  · rw [List.take_succ_eq_append_getElem h1, h2]
    simp [totT]
  · have e1 := List.take_append_drop (i + 1) l
    have : totT l = totT (l.take (i + 1)) + totT (l.drop (i + 1)) := by
      conv => lhs; rw [← e1]
      simp only [totT, List.map_append, List.sum_append]
    omega

/-- What an audit needs of its events: each may be read. -/
structure LsOk (B : Base) (a : Option Addr) (l : List Ev) : Prop where
  vin : VIn B a l
  sin : ∀ e ∈ l, SIn B e.ta e.texts
  cap : ∀ e ∈ l, e.texts.length ≤ e.tc
  tot : totT l ≤ 2000000
  few : l.length ≤ 2000000
theorem LsOk.ext {B B2 : Base} {a : Option Addr} {l : List Ev} (e : Ext B B2) (h : LsOk B a l) : LsOk B2 a l := ⟨h.vin.ext e, fun x hx => (h.sin x hx).ext e, h.cap, h.tot, h.few⟩

structure LS where
  i : Nat
  s : SA
  bv : Value
  oa : Option Addr
  oc : Nat
  G : List Blk

theorem clip2_spec (sv : Value) (l : List (Int × Int)) (G : List Blk) (h : OwnF sv l G) : Con Try.prog 17 #[sv] [] fun v A => (RsF v l G ∧ ∃ a, v = .slice a l.length l.length) ∧ A = [] := by
  refine Con.intro (vs := [_]) Try.func17 rfl Try.ntmps17 rfl (fun B => ?_)
  rcases h.2 with ⟨rfl, hb, rfl⟩ | ⟨g, c, spare, rfl, rfl, hsp, hle⟩
  · repeat' (first | refine Cd.seq ?_ | refine Cd.reg ?_ | refine Ops.mv rfl rfl rfl rfl ?_ | refine Ops.asg rfl rfl rfl rfl ?_ | refine Ops.lenS rfl rfl rfl rfl ?_)
    refine Ops.slHM rfl rfl rfl rfl rfl (by omega) (by omega) (by omega) rfl ?_
    repeat' (first | refine Ops.nil ?_ | refine Ops.asg rfl rfl rfl rfl ?_)
    have hl0 : l = [] := by simpa using hb
    exact Cd.ret (ret1 rfl (Res.tmp rfl) (fun _ h => h) ⟨⟨⟨h.1, .inl ⟨rfl, hb, rfl⟩⟩, none, by rw [hl0]; rfl⟩, rfl⟩)
  · repeat' (first | refine Cd.seq ?_ | refine Cd.reg ?_ | refine Ops.mv rfl rfl rfl rfl ?_ | refine Ops.asg rfl rfl rfl rfl ?_ | refine Ops.lenS rfl rfl rfl rfl ?_)
    refine Ops.slHM rfl rfl rfl rfl rfl (by omega) (by omega) (by omega) rfl ?_
    repeat' (first | refine Ops.nil ?_ | refine Ops.asg rfl rfl rfl rfl ?_)
    exact Cd.ret (ret1 rfl (Res.tmp rfl) (fun _ h => h) ⟨⟨⟨h.1, .inr ⟨g, _, spare, rfl, rfl⟩⟩, _, by rw [Int.toNat_natCast, List.length_map]⟩, rfl⟩)
theorem all_spec (B0 : Base) (a : Option Addr) (c : Nat) (l : List Ev) (hL : LsOk B0 a l) :
    ConB Try.prog B0 7 #[.slice a l.length c] [] fun v A => ∃ sv, v = .tuple #[sv, .int .i64 (allF l).2] ∧ RsF sv (allF l).1 A ∧ ∃ va, sv = .slice va (allF l).1.length (allF l).1.length := by
  have hfew := hL.few
  refine ConB.intro (vs := [_]) Try.func7 rfl Try.ntmps7 rfl (fun B hB => ?_)
  unfold allF
  by_cases hbig : 65536 < l.length
  · have hbig' : (65536 : Int) < l.length := by omega
    rw [if_pos hbig]
    repeat' (first | refine Cd.seq ?_ | refine Cd.reg ?_ | refine Ops.nil ?_ | refine Ops.mv rfl rfl rfl rfl ?_ | refine Ops.asg rfl rfl rfl rfl ?_ | refine Ops.lenS rfl rfl rfl rfl ?_ | refine Ops.bin rfl rfl rfl rfl rfl ?_ | refine Cd.condT rfl (by first | rfl | assumption | (simp only [decide_eq_true_eq, decide_eq_false_iff_not, Bool.not_eq_true', Bool.not_eq_false', Bool.not_eq_eq_eq_not, Bool.not_true, Bool.not_false, beq_iff_eq, beq_eq_false_iff_ne, ne_eq, decide_eq_decide, eq_self, true_iff, iff_true, not_true_eq_false, not_false_eq_true]; first | done | omega)) ?_)
    exact Cd.ret (ret2 (A' := []) rfl (Res.tmp rfl) (Res.tmp rfl) (fun _ h => h) ⟨_, rfl, ⟨RowsOk.nil, .inl ⟨rfl, rfl, rfl⟩⟩, none, rfl⟩)
  have hbig' : ¬ (65536 : Int) < l.length := by omega
  rw [if_neg hbig]
  have hcon := contains_spec B0 a c l 13 [] [] [] (fun e => !mayE e) hL.vin hL.few (fun e _ => all1_spec e)
  by_cases hbad : (l.any fun e => !mayE e) = true
  · rw [if_pos hbad]
    rw [hbad] at hcon
    repeat' (first | refine Cd.seq ?_ | refine Cd.reg ?_ | refine Ops.nil ?_ | refine Ops.mv rfl rfl rfl rfl ?_ | refine Ops.asg rfl rfl rfl rfl ?_ | refine Ops.lenS rfl rfl rfl rfl ?_ | refine Ops.bin rfl rfl rfl rfl rfl ?_ | refine Cd.skip (Cd.next ?_) | refine Cd.condF rfl (by first | rfl | assumption | (simp only [decide_eq_true_eq, decide_eq_false_iff_not, Bool.not_eq_true', Bool.not_eq_false', Bool.not_eq_eq_eq_not, Bool.not_true, Bool.not_false, beq_iff_eq, beq_eq_false_iff_ne, ne_eq, decide_eq_decide, eq_self, true_iff, iff_true, not_true_eq_false, not_false_eq_true]; first | done | omega)) ?_)
    refine Ops.callB hcon hB rfl (noPd rfl) rfl rfl rfl (fun v A' hR => ?_)
    obtain ⟨rfl, rfl⟩ := hR
    repeat' (first | refine Cd.seq ?_ | refine Cd.reg ?_ | refine Ops.nil ?_ | refine Ops.asg rfl rfl rfl rfl ?_ | refine Cd.condT rfl rfl ?_)
    exact Cd.ret (ret2 (A' := []) rfl (Res.tmp rfl) (Res.tmp rfl) (fun _ h => h) ⟨_, rfl, ⟨RowsOk.nil, .inl ⟨rfl, rfl, rfl⟩⟩, none, rfl⟩)
  rw [if_neg hbad]
  have hbad' : (l.any fun e => !mayE e) = false := by simpa using hbad
  rw [hbad'] at hcon
  have hmay : ∀ e ∈ l, mayE e = true := fun e he => by
    have := List.any_eq_false.1 hbad' e he
    simpa using this
  have hL1 := hL.ext hB
  repeat' (first | refine Cd.seq ?_ | refine Cd.reg ?_ | refine Ops.nil ?_ | refine Ops.mv rfl rfl rfl rfl ?_ | refine Ops.asg rfl rfl rfl rfl ?_ | refine Ops.lenS rfl rfl rfl rfl ?_ | refine Ops.bin rfl rfl rfl rfl rfl ?_ | refine Cd.skip (Cd.next ?_) | refine Cd.condF rfl (by first | rfl | assumption | (simp only [decide_eq_true_eq, decide_eq_false_iff_not, Bool.not_eq_true', Bool.not_eq_false', Bool.not_eq_eq_eq_not, Bool.not_true, Bool.not_false, beq_iff_eq, beq_eq_false_iff_ne, ne_eq, decide_eq_decide, eq_self, true_iff, iff_true, not_true_eq_false, not_false_eq_true]; first | done | omega)) ?_)
  refine Ops.callB hcon hB rfl (noPd rfl) rfl rfl rfl (fun v A' hR => ?_)
  obtain ⟨rfl, rfl⟩ := hR
  repeat' (first | refine Cd.seq ?_ | refine Cd.reg ?_ | refine Ops.nil ?_ | refine Cd.condF rfl rfl ?_ | refine Cd.skip (Cd.next ?_))
  refine Ops.call new_spec rfl (noPd rfl) rfl rfl rfl (fun v A' hR => ?_)
  obtain ⟨ab, vb, rb, cm, pn, em, rfl, rfl⟩ := hR
  repeat' (first | refine Cd.seq ?_ | refine Cd.reg ?_ | refine Ops.nil ?_ | refine Ops.mv rfl rfl rfl rfl ?_ | refine Ops.asg rfl rfl rfl rfl ?_ | refine Ops.lenS rfl rfl rfl rfl ?_ | refine Cd.block ?_)
  refine Cd.loopK (σ := LS) (fun q => q.i ≤ l.length ∧ q.s.ok q.i (totT (l.take q.i)) ∧ Clean rb q.s ∧ q.s.pure = (runF Au.new 0 (l.take q.i)).1 ∧ q.s.r.cm = cm ∧ q.s.r.pn = pn ∧ OwnF (.slice q.oa (runF Au.new 0 (l.take q.i)).2.length q.oc) (runF Au.new 0 (l.take q.i)).2 q.G)
    (fun q => [(4, ptr ab), (5, .slice q.oa (runF Au.new 0 (l.take q.i)).2.length q.oc), (16, .slice a l.length c), (17, .int .i64 l.length), (18, .int .i64 q.i)])
    (fun q => AuW ab q.s q.bv ++ RB ab vb rb cm pn ++ q.G) (fun q => l.length - q.i)
    ⟨0, ⟨[], none, 0, [], ⟨0, cm, pn, em, Ad.new, false, 0, .slice (some ⟨rb, 0, none⟩) 12 12⟩, [], [], [], [], none, 0, []⟩, .slice none 0 0, none, 0, []⟩
    ⟨Nat.zero_le _, ⟨Own.none, (fun x hx => by cases hx), (fun x hx => by cases hx), Own.none, Nat.zero_le _, Int.le_refl _, (by decide : (0 : Int) ≤ 8)⟩, ⟨rfl, rfl, rfl, rfl, rfl⟩, rfl, rfl, rfl, Own.none⟩
    ⟨rfl, rfl, rfl, rfl, rfl, trivial⟩ (fun w h => by simpa using h) (fun q hI => ?_)
  obtain ⟨i, s, bv, oa, oc, G⟩ := q
  obtain ⟨hi, hok, hcl, hpu, hcm, hpn, hO⟩ := hI
  dsimp only at hi hok hcl hpu hcm hpn hO ⊢
  by_cases hil : i < l.length
  · have hil' : (i : Int) < l.length := by omega
    obtain ⟨e, he⟩ : ∃ e, l[i]? = some e := ⟨_, List.getElem?_eq_getElem hil⟩
    have hmem := List.mem_of_getElem? he
    obtain ⟨b0, off, rfl, hrd⟩ := hL1.vin i e he
    have hrw : ∀ A j u, e.row[j]? = some u → Rd B.plain A b0 (off + (i : Int).toNat * 13 + j) u := fun A j u hu => by rw [Int.toNat_natCast]; exact hrd A j u hu
    obtain ⟨ht1, ht2⟩ := totT_take l i he
    have htot := hL.tot
    have htk : l.take (i + 1) = l.take i ++ [e] := by
      obtain ⟨h1, rfl⟩ := List.getElem?_eq_some_iff.1 he
      rw [List.take_succ_eq_append_getElem h1]
    have htl : (l.take i).length = i := by rw [List.length_take]; omega
    have hev := event_spec B0 ab vb rb i (totT (l.take i)) s bv e hok hcl ⟨hmay e hmem, hL.sin e hmem, hL.cap e hmem, by omega⟩ (by omega)
    rw [hcm, hpn, hpu] at hev
    have hsn := runF_snoc (l.take i) Au.new 0 e
    rw [← htk, htl, Nat.zero_add] at hsn
    have hfl := runF_len (l.take i) Au.new 0
    rw [htl] at hfl
    generalize runF Au.new 0 (l.take i) = q at hpu hO hev hsn hfl ⊢
    obtain ⟨q1, q2⟩ := q
    dsimp only at hpu hO hev hsn hfl ⊢
    have hr8 : (evF q1 e).2.length ≤ 8 := norm_len _
    generalize evF q1 e = ev at hev hsn hr8
    obtain ⟨ev1, ev2⟩ := ev
    dsimp only at hev hsn hr8
    repeat' (first | refine Cd.seq ?_ | refine Cd.reg ?_ | refine Ops.mv rfl rfl rfl rfl ?_ | refine Ops.bin rfl rfl rfl rfl rfl ?_ | refine Cd.block ?_ | refine Cd.skip (Cd.next ?_) | refine Ops.ixa rfl rfl rfl rfl (by omega) (by omega) rfl ?_ | refine Cd.condT rfl (by first | rfl | assumption | (simp only [decide_eq_true_eq, decide_eq_false_iff_not, Bool.not_eq_true', Bool.not_eq_false', Bool.not_eq_eq_eq_not, Bool.not_true, Bool.not_false, beq_iff_eq, beq_eq_false_iff_ne, ne_eq, decide_eq_decide, eq_self, true_iff, iff_true, not_true_eq_false, not_false_eq_true]; first | done | omega)) ?_)
    refine Ops.ldRN (r := e.row) rfl rfl rfl rfl (hrw _) rfl ?_
    repeat' (first | refine Cd.seq ?_ | refine Cd.reg ?_ | refine Ops.mv rfl rfl rfl rfl ?_ | refine Ops.asg rfl rfl rfl rfl ?_ | refine Ops.ldN rfl rfl rfl rfl ?_ | refine Ops.alloc rfl rfl rfl (noPd rfl) (fun b => ?_) | refine Ops.stN rfl rfl rfl rfl rfl rfl (noPd rfl) ?_)
    refine Ops.callB hev hB rfl (noPd rfl) rfl rfl rfl (fun v A' hR => ?_)
    obtain ⟨s', bv', G2, rfl, hO2, hok', hcl', hpu', hsm⟩ := hR
    obtain ⟨ra, rc, rfl⟩ := hO2.form
    repeat' (first | refine Ops.nil ?_ | refine Ops.mv rfl rfl rfl rfl ?_ | refine Ops.lenS rfl rfl rfl rfl ?_ | refine Cd.block ?_)
    refine Cd.loopK (σ := Nat × Option Addr × Nat × List Blk) (fun p => p.1 ≤ ev2.length ∧ OwnF (.slice p.2.1 (q2 ++ (ev2.take p.1).map fun n => (n, (i : Int))).length p.2.2.1) (q2 ++ (ev2.take p.1).map fun n => (n, (i : Int))) p.2.2.2)
      (fun p => [(4, ptr ab), (5, .slice p.2.1 (q2 ++ (ev2.take p.1).map fun n => (n, (i : Int))).length p.2.2.1), (6, .int .i64 i), (16, .slice (some ⟨b0, off, none⟩) l.length c), (17, .int .i64 l.length), (18, .int .i64 i), (25, .slice ra ev2.length rc), (26, .int .i64 ev2.length), (27, .int .i64 p.1)])
      (fun p => (AuW ab s' bv' ++ RB ab vb rb cm pn) ++ (G2 ++ p.2.2.2)) (fun p => ev2.length - p.1) (0, oa, oc, G) ⟨Nat.zero_le _, by simpa using hO⟩ ⟨rfl, by simp; rfl, rfl, rfl, rfl, rfl, rfl, rfl, rfl, trivial⟩ (fun w h => by
        have h2 := (h.split : Sat _ (AuW ab s' bv' ++ (RB ab vb rb cm pn ++ (G2 ++ G))) w)
        simpa [List.append_assoc] using h2) (fun p hJ => ?_)
    obtain ⟨j, oa2, oc2, G3⟩ := p
    obtain ⟨hj, hO3⟩ := hJ
    dsimp only at hj hO3 ⊢
    have hll : ((q2 ++ (ev2.take j).map fun n => (n, (i : Int))).map frow).length = (q2 ++ (ev2.take j).map fun n => (n, (i : Int))).length := List.length_map _
    by_cases hjl : j < ev2.length
    · have hjl' : (j : Int) < ev2.length := by omega
      obtain ⟨n, hn⟩ : ∃ n, ev2[j]? = some n := ⟨_, List.getElem?_eq_getElem hjl⟩
      obtain ⟨g, c2, spare, e1, rfl, hsp, hle⟩ := Own.some_ hO2 (by rw [List.length_map]; omega)
      injection e1 with p1 p2 p3
      subst p1
      have hokr := irows_ok ev2
      have hrow : (ev2.map irow)[(j : Int).toNat]? = some [.int .i64 n] := by rw [Int.toNat_natCast, List.getElem?_map, hn]; rfl
      have htj : (q2 ++ (ev2.take (j + 1)).map fun n => (n, (i : Int))) = (q2 ++ (ev2.take j).map fun n => (n, (i : Int))) ++ [(n, (i : Int))] := by
        obtain ⟨h1, rfl⟩ := List.getElem?_eq_some_iff.1 hn
        rw [List.take_succ_eq_append_getElem h1, List.map_append, ← List.append_assoc]; rfl
      have hlq : (q2 ++ (ev2.take j).map fun n => (n, (i : Int))).length ≤ 10000000 := by simp only [List.length_append, List.length_map, List.length_take]; omega
      repeat' (first | refine Cd.seq ?_ | refine Cd.reg ?_ | refine Ops.mv rfl rfl rfl rfl ?_ | refine Ops.asg rfl rfl rfl rfl ?_ | refine Ops.bin rfl rfl rfl rfl rfl ?_ | refine Ops.bld rfl rfl rfl rfl ?_ | refine Ops.bs1 rfl rfl rfl rfl rfl rfl rfl (noPd rfl) (fun b => ?_) | refine Cd.block ?_ | refine Cd.skip (Cd.next ?_) | refine Ops.ixa0 rfl rfl rfl rfl (by omega) (by omega) rfl ?_ | refine Ops.ldCell rfl rfl rfl (by assumption) (by assumption) rfl ?_ | refine Cd.condT rfl (by first | rfl | assumption | (simp only [decide_eq_true_eq, decide_eq_false_iff_not, Bool.not_eq_true', Bool.not_eq_false', Bool.not_eq_eq_eq_not, Bool.not_true, Bool.not_false, beq_iff_eq, beq_eq_false_iff_ne, ne_eq, decide_eq_decide, eq_self, true_iff, iff_true, not_true_eq_false, not_false_eq_true]; first | done | omega)) ?_)
      refine Ops.app1 (rows := (q2 ++ (ev2.take j).map fun n => (n, (i : Int))).map frow) hO3 (by rw [hll]; omega) (by rw [hll]; omega) rfl rfl rfl rfl (by rfl) (by rfl) rfl (noPd rfl) rfl (fun v G' hG' => ?_)
      have hG2 : OwnF v (q2 ++ (ev2.take (j + 1)).map fun n => (n, (i : Int))) G' := by
        rw [htj]; unfold OwnF; rw [List.map_append]; exact hG'
      clear hG'
      obtain ⟨a', c', rfl⟩ := hG2.form
      repeat' (first | refine Ops.nilN (inB (Cd.next ?_)) | refine Cd.reg ?_ | refine Ops.mv rfl rfl rfl rfl ?_ | refine Ops.asg rfl rfl rfl rfl ?_ | refine Ops.addI rfl rfl rfl rfl (by omega) (by omega) rfl ?_)
      exact Ops.nilN (round_end ((j + 1, a', c', G') : Nat × Option Addr × Nat × List Blk) ⟨by show j + 1 ≤ ev2.length; omega, hG2⟩ (by show ev2.length - (j + 1) < ev2.length - j; omega) ⟨rfl, rfl, rfl, rfl, rfl, rfl, rfl, rfl, rfl, trivial⟩ (fun w h => h.split))
    · obtain rfl : j = ev2.length := by omega
      have hjl' : ¬ ((ev2.length : Nat) : Int) < ev2.length := by omega
      rw [List.take_length] at hO3 ⊢
      repeat' (first | refine Cd.seq ?_ | refine Cd.reg ?_ | refine Ops.mv rfl rfl rfl rfl ?_ | refine Ops.addI rfl rfl rfl rfl (by omega) (by omega) rfl ?_ | refine Ops.bin rfl rfl rfl rfl rfl ?_ | refine Cd.exit (Cd.next (Q' := fun _ _ _ => True) ?_) | refine Cd.condF rfl (by first | rfl | assumption | (simp only [decide_eq_true_eq, decide_eq_false_iff_not, Bool.not_eq_true', Bool.not_eq_false', Bool.not_eq_eq_eq_not, Bool.not_true, Bool.not_false, beq_iff_eq, beq_eq_false_iff_ne, ne_eq, decide_eq_decide, eq_self, true_iff, iff_true, not_true_eq_false, not_false_eq_true]; first | done | omega)) ?_)
      exact Ops.nilN (round_end (⟨i + 1, s', bv', oa2, oc2, G3⟩ : LS) ⟨by show i + 1 ≤ l.length; omega, by show s'.ok (i + 1) (totT (l.take (i + 1))); rw [← ht1]; exact hok', hcl', by show s'.pure = (runF Au.new 0 (l.take (i + 1))).1; rw [hsn]; exact hpu', hsm.1.trans hcm, hsm.2.1.trans hpn, by
        show OwnF (.slice oa2 (runF Au.new 0 (l.take (i + 1))).2.length oc2) (runF Au.new 0 (l.take (i + 1))).2 G3
        rw [hsn]; exact hO3⟩ (by show l.length - (i + 1) < l.length - i; omega) ⟨rfl, by show _ = some (Value.slice oa2 (runF Au.new 0 (l.take (i + 1))).2.length oc2); rw [hsn]; rfl, rfl, rfl, rfl, trivial⟩ (fun w h => (h.split : Sat _ (AuW ab s' bv' ++ RB ab vb rb cm pn ++ G3) w)))
  · obtain rfl : i = l.length := by omega
    have hil' : ¬ ((l.length : Nat) : Int) < l.length := by omega
    rw [List.take_length] at hO ⊢
    repeat' (first | refine Cd.seq ?_ | refine Cd.reg ?_ | refine Ops.mv rfl rfl rfl rfl ?_ | refine Ops.bin rfl rfl rfl rfl rfl ?_ | refine Cd.exit (Cd.next (Q' := fun _ _ _ => True) ?_) | refine Cd.condF rfl (by first | rfl | assumption | (simp only [decide_eq_true_eq, decide_eq_false_iff_not, Bool.not_eq_true', Bool.not_eq_false', Bool.not_eq_eq_eq_not, Bool.not_true, Bool.not_false, beq_iff_eq, beq_eq_false_iff_ne, ne_eq, decide_eq_decide, eq_self, true_iff, iff_true, not_true_eq_false, not_false_eq_true]; first | done | omega)) ?_)
    refine Ops.call (clip2_spec _ _ G hO) rfl (noPd rfl) rfl rfl rfl (fun v A' hR => ?_)
    obtain ⟨⟨hrs, va, rfl⟩, rfl⟩ := hR
    repeat' (first | refine Ops.nil ?_ | refine Ops.asg rfl rfl rfl rfl ?_)
    exact Cd.ret (ret2 (A' := G) rfl (Res.tmp rfl) (Res.tmp rfl) (fun _ h => h.split) ⟨_, rfl, hrs, va, rfl⟩)

theorem first_spec (B0 : Base) (a : Option Addr) (c : Nat) (l : List Ev) (hL : LsOk B0 a l) :
    ConB Try.prog B0 10 #[.slice a l.length c] [] fun v A => v = .tuple #[.agg (frow ((allF l).1.headD (0, 0))).toArray, .bool (!decide ((allF l).1 = [])), .int .i64 (allF l).2] := by
  have hall := all_spec B0 a c l hL
  generalize allF l = q at hall ⊢
  obtain ⟨q1, q2⟩ := q
  refine ConB.intro (vs := [_]) Try.func10 rfl Try.ntmps10 rfl (fun B hB => ?_)
  repeat' (first | refine Cd.seq ?_ | refine Cd.reg ?_ | refine Ops.mv rfl rfl rfl rfl ?_ | refine Ops.asg rfl rfl rfl rfl ?_ | refine Ops.alloc rfl rfl rfl (noPd rfl) (fun b => ?_))
  rename Nat => br
  refine Ops.callB hall hB rfl (noPd rfl) rfl rfl rfl (fun v A' hR => ?_)
  obtain ⟨sv, rfl, hrs, va, rfl⟩ := hR
  cases q1 with
  | nil =>
    repeat' (first | refine Cd.seq ?_ | refine Cd.reg ?_ | refine Ops.nil ?_ | refine Ops.mv rfl rfl rfl rfl ?_ | refine Ops.asg rfl rfl rfl rfl ?_ | refine Ops.lenS rfl rfl rfl rfl ?_ | refine Ops.bin rfl rfl rfl rfl rfl ?_ | refine Ops.ext rfl rfl rfl rfl rfl ?_ | refine Ops.bld rfl rfl rfl rfl ?_ | refine Ops.stN rfl rfl rfl rfl rfl rfl (noPd rfl) ?_ | refine Cd.condT rfl rfl ?_)
    exact Cd.ret (ret3 (A' := []) rfl (Res.cellN rfl) (Res.tmp rfl) (Res.tmp rfl) (fun _ h => h.split) rfl)
  | cons f q1 =>
    have hpos : ¬ (((f :: q1).length : Nat) : Int) = 0 := by simp only [List.length_cons]; omega
    have hpos2 : (0 : Int) < (f :: q1).length := by simp only [List.length_cons]; omega
    obtain ⟨g, c2, spare, e1, rfl⟩ := Rs.some_ hrs (by simp)
    injection e1 with p1 p2 p3
    subst p1
    have hokr := fr_ok (f :: q1)
    have hrow : ((f :: q1).map frow)[(0 : Int).toNat]? = some [.int .i64 f.1, .int .i64 f.2] := rfl
    repeat' (first | refine Cd.seq ?_ | refine Cd.reg ?_ | refine Ops.nil ?_ | refine Ops.mv rfl rfl rfl rfl ?_ | refine Ops.asg rfl rfl rfl rfl ?_ | refine Ops.lenS rfl rfl rfl rfl ?_ | refine Ops.bin rfl rfl rfl rfl rfl ?_ | refine Ops.ext rfl rfl rfl rfl rfl ?_ | refine Ops.stN rfl rfl rfl rfl rfl rfl (noPd rfl) ?_ | refine Cd.condF rfl rfl ?_ | refine Cd.skip (Cd.next ?_) | refine Ops.ixa0 rfl rfl rfl rfl (by omega) (by omega) rfl ?_ | refine Ops.ldRow rfl rfl rfl (by assumption) (by assumption) rfl ?_)
    exact Cd.ret (ret3 (A' := []) rfl (Res.cellN rfl) (Res.tmp rfl) (Res.tmp rfl) (fun _ h => h.split) rfl)
end Go.Proofs.Ytfghnepmbgbnoaa
