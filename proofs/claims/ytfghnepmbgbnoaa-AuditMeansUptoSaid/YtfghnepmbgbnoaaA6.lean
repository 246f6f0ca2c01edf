import Derived.Test.YtfghnepmbgbnoaaA5
namespace Go.Proofs.Ytfghnepmbgbnoaa
open Go Go.Sep Go.Proofs
set_option maxRecDepth 10000
set_option maxHeartbeats 4000000
set_option synthInstance.maxSize 2000
set_option linter.unusedSimpArgs false
set_option linter.unusedVariables false

/-! An auditor, whole. -/
structure SA where
  jobs : List JR
  ja : Option Addr
  jc : Nat
  JG : List Blk
  r : SR
  chunks : Tx
  pieces : Tx
  ends : List EN
  brok : List Int
  ba : Option Addr
  bc : Nat
  BG : List Blk
@[reducible] def AuL (ab : Nat) (ja : Option Addr) (jn jc : Nat) (r : SR) (bv : Value) (JG LG : List Blk) (ch pc : Tx) (es : List PE) (EG BG : List Blk) : List Blk :=
  AB ab ja jn jc r bv :: (JG ++ (LG ++ ((r.cm, pm (tents ch)) :: (r.pn, pm (tents pc)) :: (r.em, pm es) :: (EG ++ BG))))
@[reducible] def AuB (ab : Nat) (s : SA) : List Blk := AuL ab s.ja s.jobs.length s.jc s.r (.slice s.ba s.brok.length s.bc) s.JG (s.jobs.flatMap JR.G) s.chunks s.pieces (eents s.ends) (s.ends.flatMap EN.G) s.BG
def SA.pure (s : SA) : Au := ⟨s.jobs.map JR.j, s.r.great, s.chunks, s.pieces, s.ends.map EN.pure, s.r.ad, s.r.sh, s.r.shn⟩
structure SA.ok (k tot : Nat) (s : SA) : Prop where
  oj : OwnJ (.slice s.ja s.jobs.length s.jc) s.jobs s.JG
  ojs : ∀ x ∈ s.jobs, x.ok ∧ x.j.log.length ≤ tot
  oe : ∀ x ∈ s.ends, x.ok ∧ x.evs.length ≤ k
  ob : OwnI (.slice s.ba s.brok.length s.bc) s.brok s.BG
  few : s.jobs.length ≤ 8
  shn0 : 0 ≤ s.r.shn
  shn1 : s.r.shn ≤ 8
theorem SA.ok.mono {k k' tot tot' : Nat} {s : SA} (h : s.ok k tot) (hk : k ≤ k') (ht : tot ≤ tot') : s.ok k' tot' :=
  { h with ojs := fun x hx => ⟨(h.ojs x hx).1, Nat.le_trans (h.ojs x hx).2 ht⟩, oe := fun x hx => ⟨(h.oe x hx).1, Nat.le_trans (h.oe x hx).2 hk⟩ }
def SR.same (r r' : SR) : Prop := r'.cm = r.cm ∧ r'.pn = r.pn ∧ r'.em = r.em ∧ r'.rv = r.rv
theorem AuL.perm {ab : Nat} {ja : Option Addr} {jn jc : Nat} {r : SR} {bv : Value} {JG LG LG' : List Blk} {ch pc : Tx} {es : List PE} {EG BG : List Blk} (h : LG.Perm LG') : (AuL ab ja jn jc r bv JG LG ch pc es EG BG).Perm (AuL ab ja jn jc r bv JG LG' ch pc es EG BG) :=
  ((h.append_right _).append_left _).cons _
/-- What an action leaves. -/
def ActR (ab : Nat) (s : SA) (k tot : Nat) (q : Au × List Int) : Value → List Blk → Prop := fun _ A =>
  ∃ s', A = AuB ab s' ∧ s'.ok k tot ∧ s'.pure = q.1 ∧ s'.brok = s.brok ++ q.2 ∧ s.r.same s'.r

theorem set_jobs {jobs : List JR} {n : Int} {x : JR} (y : JR) (hx : jobAt jobs n = some x) : (jobs.set (n - 1).toNat y).map JR.j = jobSet (jobs.map JR.j) n y.j := by
  obtain ⟨h1, _⟩ := jobAt_some hx
  rw [jobSet_eq (by rw [List.length_map]; exact h1), List.map_set]
theorem own_set {g jc : Nat} {jobs : List JR} {spare : List Value} {i : Nat} (hJ : OwnJ (.slice (some ⟨g, 0, none⟩) jobs.length jc) jobs [(g, cl ((jobs.map JR.row).flatten ++ spare) 80)]) (hsp : (jobs.map JR.row).flatten.length + spare.length = jc * 5) (hle : jobs.length ≤ jc) (y : JR) :
    OwnJ (.slice (some ⟨g, 0, none⟩) jobs.length jc) (jobs.set i y) [(g, cl (((jobs.map JR.row).set i y.row).flatten ++ spare) 80)] := by
  unfold OwnJ at hJ ⊢
  rw [List.map_set]
  have := Own.set (i := i) (r := y.row) (rows := jobs.map JR.row) (by rw [List.length_map]; exact hJ) hsp (by rw [List.length_map]; exact hle) rfl rfl
  rw [List.length_map] at this
  exact this

/-- A job's row was written. -/
@[reducible] def setS (jobs : List JR) (i : Nat) (y : JR) (g jc : Nat) (spare : List Value) (r : SR) (chunks pieces : Tx) (ends : List EN) (brok : List Int) (ba : Option Addr) (bc : Nat) (BG : List Blk) : SA :=
  ⟨jobs.set i y, some ⟨g, 0, none⟩, jc, [(g, cl (((jobs.map JR.row).set i y.row).flatten ++ spare) 80)], r, chunks, pieces, ends, brok, ba, bc, BG⟩
theorem set_sat {B : Base} {w : World} {ab : Nat} {jobs : List JR} {i : Nat} (y : JR) {g jc : Nat} {spare : List Value} {r : SR} {chunks pieces : Tx} {ends : List EN} {brok : List Int} {ba : Option Addr} {bc : Nat} {BG : List Blk} (yr : List Value) (L : List Blk) (hr : yr = y.row) (hL : L = y.G ++ (jobs.eraseIdx i).flatMap JR.G) (hlt : i < jobs.length)
    (h : Sat B (AuL ab (some ⟨g, 0, none⟩) jobs.length jc r (.slice ba brok.length bc) [(g, cl (((jobs.map JR.row).set i yr).flatten ++ spare) 80)] L chunks pieces (eents ends) (ends.flatMap EN.G) BG) w) :
    Sat B (AuB ab (setS jobs i y g jc spare r chunks pieces ends brok ba bc BG)) w := by
  subst hr; subst hL
  have := h.perm (AuL.perm (flat_set (f := JR.G) (x := y) hlt).symm)
  unfold setS AuB
  dsimp only
  rw [List.length_set]
  exact this
theorem set_ok {k tot : Nat} {jobs : List JR} {i : Nat} {y : JR} {g jc : Nat} {spare : List Value} {r : SR} {chunks pieces : Tx} {ends : List EN} {brok : List Int} {ba : Option Addr} {bc : Nat} {BG : List Blk}
    (oj : OwnJ (.slice (some ⟨g, 0, none⟩) jobs.length jc) jobs [(g, cl ((jobs.map JR.row).flatten ++ spare) 80)]) (hsp : (jobs.map JR.row).flatten.length + spare.length = jc * 5) (hle : jobs.length ≤ jc)
    (ojs : ∀ x ∈ jobs, x.ok ∧ x.j.log.length ≤ tot) (oe : ∀ x ∈ ends, x.ok ∧ x.evs.length ≤ k) (ob : OwnI (.slice ba brok.length bc) brok BG) (few : jobs.length ≤ 8) (s0 : 0 ≤ r.shn) (s1 : r.shn ≤ 8) (hy : y.ok ∧ y.j.log.length ≤ tot) :
    (setS jobs i y g jc spare r chunks pieces ends brok ba bc BG).ok k tot :=
  ⟨by dsimp only; rw [List.length_set]; exact own_set oj hsp hle y, fun x hx => by
    rcases List.mem_or_eq_of_mem_set hx with hx | rfl
    · exact ojs x hx
    · exact hy, oe, ob, by dsimp only; rw [List.length_set]; exact few, s0, s1⟩

theorem submitted_spec (ab k tot : Nat) (s : SA) (e : Ev) (h : s.ok k tot) (hb : s.brok.length ≤ 20) (hj : 1 ≤ e.job ∧ e.job ≤ 8) :
    Con Try.prog 23 #[ptr ab, .agg e.row.toArray] (AuB ab s) (ActR ab s k tot (submittedF s.pure e)) := by
  by_cases hn : e.job = s.jobs.length + 1
  · rw [show submittedF s.pure e = ({ s.pure with jobs := s.pure.jobs ++ [⟨1, 0, 0, 0, []⟩] }, []) from if_pos (by simpa [SA.pure] using hn)]
    obtain ⟨jobs, ja, jc, JG, r, chunks, pieces, ends, brok, ba, bc, BG⟩ := s
    obtain ⟨oj, ojs, oe, ob, few, s0, s1⟩ := h
    dsimp only [ActR, AuB, SA.pure] at *
    have hll : (jobs.map JR.row).length = jobs.length := List.length_map _
    refine Con.intro (vs := [_, _]) Try.func23 rfl Try.ntmps23 rfl (fun B => ?_)
    repeat' (first | refine Cd.seq ?_ | refine Cd.reg ?_ | refine Ops.box rfl rfl rfl rfl (noPd rfl) (fun b => ?_))
    refine Cd.draw [(0, 0, []), (1, 1, []), (2, 0, []), (3, 0, []), (4, 0, []), (5, 1, []), (6, 1, []), (7, 0, []), (8, 0, []), (9, 0, [])] (by kernel_rfl) (by kernel_rfl) (by simp only [picked, nth]; exact rfl) ?_
    repeat' (first | refine Cd.seq ?_ | refine Cd.reg ?_ | refine Ops.nil ?_ | refine Ops.mv rfl rfl rfl rfl ?_ | refine Ops.asg rfl rfl rfl rfl ?_ | refine Ops.nilP rfl rfl rfl rfl ?_ | refine Ops.fa0 rfl rfl rfl rfl ?_ | refine Ops.ld1 rfl rfl rfl rfl rfl ?_ | refine Ops.lenS rfl rfl rfl rfl ?_ | refine Ops.addI rfl rfl rfl rfl (by omega) (by omega) rfl ?_ | refine Ops.bin rfl rfl rfl rfl rfl ?_ | refine Ops.un rfl rfl rfl rfl ?_)
    refine Ops.call (breaks_spec ab ja jobs.length jc r ba bc brok BG 8 _ ob (by omega)) rfl (noPd rfl) rfl rfl rfl (fun v A' hR => ?_)
    obtain ⟨ba2, bc2, BG2, rfl, hB2⟩ := hR
    rw [show (brk 8 (!decide (e.job = (jobs.length : Int) + 1))) = [] from by simp [brk, hn], List.append_nil] at hB2 ⊢
    repeat' (first | refine Cd.seq ?_ | refine Cd.reg ?_ | refine Ops.nil ?_ | refine Ops.mv rfl rfl rfl rfl ?_ | refine Ops.nilP rfl rfl rfl rfl ?_ | refine Ops.fa0 rfl rfl rfl rfl ?_ | refine Ops.ld1 rfl rfl rfl rfl rfl ?_ | refine Ops.bld rfl rfl rfl rfl ?_ | refine Ops.bs1 rfl rfl rfl rfl rfl rfl rfl (noPd rfl) (fun b => ?_) | refine Cd.condT rfl (by first | rfl | assumption | (simp only [decide_eq_true_eq, decide_eq_false_iff_not, Bool.not_eq_true', Bool.not_eq_false', Bool.not_eq_eq_eq_not, Bool.not_true, Bool.not_false, beq_iff_eq, beq_eq_false_iff_ne, ne_eq, decide_eq_decide, eq_self, true_iff, iff_true, not_true_eq_false, not_false_eq_true]; first | done | omega)) ?_)
    refine Ops.app1 (rows := jobs.map JR.row) oj (by rw [hll]; omega) (by rw [hll]; omega) rfl rfl rfl rfl (by rfl) (by rfl) rfl (noPd rfl) rfl (fun v G' hG' => ?_)
    have hG2 : OwnJ v (jobs ++ [⟨⟨1, 0, 0, 0, []⟩, none, 0, []⟩]) G' := by
      unfold OwnJ; rw [List.map_append]; exact hG'
    clear hG'
    obtain ⟨a', c', rfl⟩ := hG2.form
    repeat' (first | refine Ops.nilP rfl rfl rfl rfl ?_ | refine Ops.fa0 rfl rfl rfl rfl ?_ | refine Ops.st1 rfl rfl rfl rfl rfl (noPd rfl) ?_)
    refine Ops.nilN (end0 (A' := AuL ab a' (jobs ++ [(⟨⟨1, 0, 0, 0, []⟩, none, 0, []⟩ : JR)]).length c' r (.slice ba2 brok.length bc2) G' (jobs.flatMap JR.G) chunks pieces (eents ends) (ends.flatMap EN.G) BG2) rfl (fun _ h => h.split)
      ⟨⟨jobs ++ [⟨⟨1, 0, 0, 0, []⟩, none, 0, []⟩], a', c', G', r, chunks, pieces, ends, brok, ba2, bc2, BG2⟩, by simp, ⟨hG2, fun x hx => ?_, oe, hB2, by simp; omega, s0, s1⟩, by simp [SA.pure], by simp, rfl, rfl, rfl, rfl⟩)
    rcases List.mem_append.1 hx with hx | hx
    · exact ojs x hx
    · obtain rfl := List.mem_singleton.1 hx
      exact ⟨Own.none, Nat.zero_le _⟩
  · rw [show submittedF s.pure e = (s.pure, [8]) from if_neg (by simpa [SA.pure] using hn)]
    obtain ⟨jobs, ja, jc, JG, r, chunks, pieces, ends, brok, ba, bc, BG⟩ := s
    obtain ⟨oj, ojs, oe, ob, few, s0, s1⟩ := h
    dsimp only [ActR, AuB, SA.pure] at *
    have hll : (jobs.map JR.row).length = jobs.length := List.length_map _
    refine Con.intro (vs := [_, _]) Try.func23 rfl Try.ntmps23 rfl (fun B => ?_)
    repeat' (first | refine Cd.seq ?_ | refine Cd.reg ?_ | refine Ops.box rfl rfl rfl rfl (noPd rfl) (fun b => ?_))
    refine Cd.draw [(0, 0, []), (1, 1, []), (2, 0, []), (3, 0, []), (4, 0, []), (5, 1, []), (6, 1, []), (7, 0, []), (8, 0, []), (9, 0, [])] (by kernel_rfl) (by kernel_rfl) (by simp only [picked, nth]; exact rfl) ?_
    repeat' (first | refine Cd.seq ?_ | refine Cd.reg ?_ | refine Ops.nil ?_ | refine Ops.mv rfl rfl rfl rfl ?_ | refine Ops.asg rfl rfl rfl rfl ?_ | refine Ops.nilP rfl rfl rfl rfl ?_ | refine Ops.fa0 rfl rfl rfl rfl ?_ | refine Ops.ld1 rfl rfl rfl rfl rfl ?_ | refine Ops.lenS rfl rfl rfl rfl ?_ | refine Ops.addI rfl rfl rfl rfl (by omega) (by omega) rfl ?_ | refine Ops.bin rfl rfl rfl rfl rfl ?_ | refine Ops.un rfl rfl rfl rfl ?_)
    refine Ops.call (breaks_spec ab ja jobs.length jc r ba bc brok BG 8 _ ob (by omega)) rfl (noPd rfl) rfl rfl rfl (fun v A' hR => ?_)
    obtain ⟨ba2, bc2, BG2, rfl, hB2⟩ := hR
    rw [show (brk 8 (!decide (e.job = (jobs.length : Int) + 1))) = [8] from by simp [brk, hn]] at hB2 ⊢
    repeat' (first | refine Cd.seq ?_ | refine Cd.reg ?_ | refine Ops.nil ?_ | refine Ops.mv rfl rfl rfl rfl ?_ | refine Cd.condF rfl (by first | rfl | assumption | (simp only [decide_eq_true_eq, decide_eq_false_iff_not, Bool.not_eq_true', Bool.not_eq_false', Bool.not_eq_eq_eq_not, Bool.not_true, Bool.not_false, beq_iff_eq, beq_eq_false_iff_ne, ne_eq, decide_eq_decide, eq_self, true_iff, iff_true, not_true_eq_false, not_false_eq_true]; first | done | omega)) ?_)
    exact Cd.skip (end0 (A' := AuL ab ja jobs.length jc r (.slice ba2 (brok ++ [8]).length bc2) JG (jobs.flatMap JR.G) chunks pieces (eents ends) (ends.flatMap EN.G) BG2) rfl (fun _ h => h.split)
      ⟨⟨jobs, ja, jc, JG, r, chunks, pieces, ends, brok ++ [8], ba2, bc2, BG2⟩, rfl, ⟨oj, ojs, oe, hB2, few, s0, s1⟩, rfl, rfl, rfl, rfl, rfl, rfl⟩)

theorem granted_spec (ab k tot : Nat) (s : SA) (e : Ev) (h : s.ok k tot) (hb : s.brok.length ≤ 20) :
    Con Try.prog 24 #[ptr ab, .agg e.row.toArray] (AuB ab s) (ActR ab s k tot (grantedF s.pure e)) := by
  have hl3 : (brk 3 (decide (e.badge ≤ s.r.great))).length ≤ 1 := by unfold brk; split <;> simp
  cases hk : jobAt s.jobs e.job with
  | none =>
    rw [show grantedF s.pure e = (s.pure, brk 3 (decide (e.badge ≤ s.r.great)) ++ brk 4 true) from by unfold grantedF; rw [show jobAt s.pure.jobs e.job = none from by show jobAt (s.jobs.map JR.j) e.job = none; rw [jobAt_map, hk]; rfl]; rfl]
    obtain ⟨jobs, ja, jc, JG, r, chunks, pieces, ends, brok, ba, bc, BG⟩ := s
    obtain ⟨oj, ojs, oe, ob, few, s0, s1⟩ := h
    dsimp only [ActR, AuB, SA.pure] at *
    refine Con.intro (vs := [_, _]) Try.func24 rfl Try.ntmps24 rfl (fun B => ?_)
    repeat' (first | refine Cd.seq ?_ | refine Cd.reg ?_ | refine Ops.box rfl rfl rfl rfl (noPd rfl) (fun b => ?_))
    refine Cd.draw [(0, 0, []), (1, 0, []), (2, 1, []), (3, 0, []), (4, 0, []), (5, 0, []), (6, 1, []), (7, 0, []), (8, 2, [])] (by kernel_rfl) (by kernel_rfl) (by simp only [picked, nth]; exact rfl) ?_
    repeat' (first | refine Ops.mv rfl rfl rfl rfl ?_ | refine Ops.nilP rfl rfl rfl rfl ?_ | refine Ops.fa0 rfl rfl rfl rfl ?_ | refine Ops.ld1 rfl rfl rfl rfl rfl ?_ | refine Ops.bin rfl rfl rfl rfl rfl ?_)
    refine Ops.call (breaks_spec ab ja jobs.length jc r ba bc brok BG 3 _ ob (by omega)) rfl (noPd rfl) rfl rfl rfl (fun v A' hR => ?_)
    obtain ⟨ba2, bc2, BG2, rfl, hB2⟩ := hR
    repeat' (first | refine Cd.seq ?_ | refine Cd.reg ?_ | refine Ops.nil ?_ | refine Ops.mv rfl rfl rfl rfl ?_ | refine Ops.fa0 rfl rfl rfl rfl ?_ | refine Ops.ld1 rfl rfl rfl rfl rfl ?_)
    refine Ops.call (known_no ab ja jobs.length jc r (.slice ba2 (brok ++ brk 3 (decide (e.badge ≤ r.great))).length bc2) e.job (jobAt_none hk)) rfl (noPd rfl) rfl rfl rfl (fun v A' hR => ?_)
    obtain ⟨rfl, rfl⟩ := hR
    repeat' (first | refine Cd.seq ?_ | refine Cd.reg ?_ | refine Ops.mv rfl rfl rfl rfl ?_ | refine Ops.asg rfl rfl rfl rfl ?_ | refine Ops.bin rfl rfl rfl rfl rfl ?_ | refine Ops.pickT rfl rfl rfl rfl rfl ?_ | refine Ops.gSkip rfl rfl rfl ?_)
    refine Ops.call (breaks_spec ab ja jobs.length jc r ba2 bc2 (brok ++ brk 3 (decide (e.badge ≤ r.great))) BG2 4 _ hB2 (by rw [List.length_append]; omega)) rfl (noPd rfl) rfl rfl rfl (fun v A' hR => ?_)
    obtain ⟨ba3, bc3, BG3, rfl, hB3⟩ := hR
    rw [List.append_assoc] at hB3 ⊢
    repeat' (first | refine Cd.seq ?_ | refine Cd.reg ?_ | refine Ops.nil ?_ | refine Ops.mv rfl rfl rfl rfl ?_ | refine Ops.bin rfl rfl rfl rfl rfl ?_ | refine Cd.condF rfl rfl ?_)
    exact Cd.skip (end0 (A' := AuL ab ja jobs.length jc r (.slice ba3 (brok ++ (brk 3 (decide (e.badge ≤ r.great)) ++ brk 4 true)).length bc3) JG (jobs.flatMap JR.G) chunks pieces (eents ends) (ends.flatMap EN.G) BG3) rfl (fun _ h => h.split)
      ⟨⟨jobs, ja, jc, JG, r, chunks, pieces, ends, _, ba3, bc3, BG3⟩, rfl, ⟨oj, ojs, oe, hB3, few, s0, s1⟩, rfl, rfl, rfl, rfl, rfl, rfl⟩)
  | some x =>
    rw [show grantedF s.pure e = ({ s.pure with jobs := jobSet s.pure.jobs e.job ⟨2, e.badge, 0, 0, []⟩, great := max s.r.great e.badge }, brk 3 (decide (e.badge ≤ s.r.great)) ++ brk 4 (!decide (x.j.status = 1))) from by unfold grantedF; rw [show jobAt s.pure.jobs e.job = some x.j from by show jobAt (s.jobs.map JR.j) e.job = _; rw [jobAt_map, hk]; rfl]; simp [SA.pure]; rfl]
    obtain ⟨jobs, ja, jc, JG, r, chunks, pieces, ends, brok, ba, bc, BG⟩ := s
    obtain ⟨oj, ojs, oe, ob, few, s0, s1⟩ := h
    dsimp only [ActR, AuB, SA.pure] at *
    obtain ⟨hr, hx⟩ := jobAt_some hk
    have hlt := (List.getElem?_eq_some_iff.1 hx).1
    obtain ⟨g, spare, rfl, _, rfl, hsp, hle⟩ := oj.some_ (by omega)
    have hok := jr_ok jobs
    have hrow : (jobs.map JR.row)[(e.job - 1).toNat]? = some x.row := by rw [List.getElem?_map, hx]; rfl
    have hp := flat_out (f := JR.G) hx
    refine Con.permIn (A := AuL ab (some ⟨g, 0, none⟩) jobs.length jc r (.slice ba brok.length bc) [(g, cl ((jobs.map JR.row).flatten ++ spare) 80)] (x.G ++ (jobs.eraseIdx (e.job - 1).toNat).flatMap JR.G) chunks pieces (eents ends) (ends.flatMap EN.G) BG) ?_ (AuL.perm hp)
    refine Con.intro (vs := [_, _]) Try.func24 rfl Try.ntmps24 rfl (fun B => ?_)
    repeat' (first | refine Cd.seq ?_ | refine Cd.reg ?_ | refine Ops.box rfl rfl rfl rfl (noPd rfl) (fun b => ?_))
    refine Cd.draw [(0, 0, []), (1, 0, []), (2, 1, []), (3, 0, []), (4, 0, []), (5, 0, []), (6, 1, []), (7, 0, []), (8, 2, [])] (by kernel_rfl) (by kernel_rfl) (by simp only [picked, nth]; exact rfl) ?_
    repeat' (first | refine Ops.mv rfl rfl rfl rfl ?_ | refine Ops.nilP rfl rfl rfl rfl ?_ | refine Ops.fa0 rfl rfl rfl rfl ?_ | refine Ops.ld1 rfl rfl rfl rfl rfl ?_ | refine Ops.bin rfl rfl rfl rfl rfl ?_)
    refine Ops.call (breaks_spec ab (some ⟨g, 0, none⟩) jobs.length jc r ba bc brok BG 3 _ ob (by omega)) rfl (noPd rfl) rfl rfl rfl (fun v A' hR => ?_)
    obtain ⟨ba2, bc2, BG2, rfl, hB2⟩ := hR
    repeat' (first | refine Cd.seq ?_ | refine Cd.reg ?_ | refine Ops.nil ?_ | refine Ops.mv rfl rfl rfl rfl ?_ | refine Ops.fa0 rfl rfl rfl rfl ?_ | refine Ops.ld1 rfl rfl rfl rfl rfl ?_)
    refine Ops.call (known_yes ab g jobs.length jc r (.slice ba2 (brok ++ brk 3 (decide (e.badge ≤ r.great))).length bc2) e.job hr (by omega)) rfl (noPd rfl) rfl rfl rfl (fun v A' hR => ?_)
    obtain ⟨rfl, rfl⟩ := hR
    repeat' (first | refine Cd.seq ?_ | refine Cd.reg ?_ | refine Ops.mv rfl rfl rfl rfl ?_ | refine Ops.asg rfl rfl rfl rfl ?_ | refine Ops.nilP rfl rfl rfl rfl ?_ | refine Ops.fa rfl rfl rfl rfl ?_ | refine Ops.bin rfl rfl rfl rfl rfl ?_ | refine Ops.pickF rfl rfl rfl rfl rfl ?_ | refine Ops.ldRow1 rfl rfl rfl (by assumption) (by assumption) rfl rfl ?_)
    refine Ops.call (breaks_spec ab (some ⟨g, 0, none⟩) jobs.length jc r ba2 bc2 (brok ++ brk 3 (decide (e.badge ≤ r.great))) BG2 4 _ hB2 (by rw [List.length_append]; omega)) rfl (noPd rfl) rfl rfl rfl (fun v A' hR => ?_)
    obtain ⟨ba3, bc3, BG3, rfl, hB3⟩ := hR
    rw [List.append_assoc] at hB3 ⊢
    repeat' (first | refine Cd.seq ?_ | refine Cd.reg ?_ | refine Ops.nil ?_ | refine Ops.mv rfl rfl rfl rfl ?_ | refine Ops.nilP rfl rfl rfl rfl ?_ | refine Ops.fa0 rfl rfl rfl rfl ?_ | refine Ops.ld1 rfl rfl rfl rfl rfl ?_ | refine Ops.bin rfl rfl rfl rfl rfl ?_ | refine Ops.bld rfl rfl rfl rfl ?_ | refine Cd.condT rfl rfl ?_)
    refine Ops.stRow rfl rfl rfl rfl rfl rfl hok (by rw [List.length_map]; exact hlt) (noPd rfl) ?_
    repeat' (first | refine Ops.nil ?_)
    refine Cd.draw [(0, 0, []), (1, 0, []), (2, 0, []), (3, 0, []), (4, 1, []), (5, 0, []), (6, 1, []), (7, 0, []), (8, 0, []), (9, 0, []), (10, 2, [])] (by kernel_rfl) (by kernel_rfl) (by simp only [picked, nth]; exact rfl) ?_
    repeat' (first | refine Ops.mv rfl rfl rfl rfl ?_ | refine Ops.nilP rfl rfl rfl rfl ?_ | refine Ops.fa0 rfl rfl rfl rfl ?_ | refine Ops.ld1 rfl rfl rfl rfl rfl ?_ | refine Ops.maxI rfl rfl rfl rfl rfl ?_ | refine Ops.st1 rfl rfl rfl rfl rfl (noPd rfl) ?_)
    exact Ops.nilN (end0 (A' := AuB ab (setS jobs (e.job - 1).toNat ⟨⟨2, e.badge, 0, 0, []⟩, none, 0, []⟩ g jc spare { r with great := max r.great e.badge } chunks pieces ends (brok ++ (brk 3 (decide (e.badge ≤ r.great)) ++ brk 4 (!decide (x.j.status = 1)))) ba3 bc3 BG3)) rfl (fun w h => set_sat (⟨⟨2, e.badge, 0, 0, []⟩, none, 0, []⟩ : JR) [.int .i64 2, .int .i64 e.badge, .int .i64 0, .int .u64 0, .slice none 0 0] ((jobs.eraseIdx (e.job - 1).toNat).flatMap JR.G) rfl rfl hlt h.split)
      ⟨_, rfl, set_ok oj hsp hle ojs oe hB3 few s0 s1 ⟨Own.none, Nat.zero_le _⟩, by unfold SA.pure; dsimp only; rw [set_jobs _ hk], rfl, rfl, rfl, rfl, rfl⟩)
end Go.Proofs.Ytfghnepmbgbnoaa
