import Derived.Test.YtfghnepmbgbnoaaA10
namespace Go.Proofs.Ytfghnepmbgbnoaa
open Go Go.Sep Go.Proofs
set_option maxRecDepth 10000
set_option maxHeartbeats 4000000
set_option synthInstance.maxSize 2000
set_option linter.unusedSimpArgs false
set_option linter.unusedVariables false


theorem erase_last {jobs : List JR} {z : JR} {n : Int} (h : n = jobs.length + 1) : (jobs ++ [z]).eraseIdx (n - 1).toNat = jobs := by
  rw [show (n - 1).toNat = jobs.length from by omega, List.eraseIdx_append_of_length_le (Nat.le_refl _), Nat.sub_self]; simp
theorem set_last {jobs : List JR} {z y : JR} {n : Int} (h : n = jobs.length + 1) : ((jobs ++ [z]).set (n - 1).toNat y) = jobs ++ [y] := by
  rw [show (n - 1).toNat = jobs.length from by omega]; simp
theorem shows_spec (B0 : Base) (ab k tot : Nat) (s : SA) (e : Ev) (h : s.ok k tot) (hb : s.brok.length ≤ 20) (hS : SIn B0 e.ta e.texts) (hcap : e.texts.length ≤ e.tc) (hbig : tot + e.texts.length ≤ 2000000) (hkb : k ≤ 1000000) (hj : 1 ≤ e.job ∧ e.job ≤ 8) :
    ConB Try.prog B0 30 #[ptr ab, .agg e.row.toArray] (AuB ab s) (ActR ab s k (tot + e.texts.length) (showsF s.pure e)) := by
  have hE : ∀ x ∈ s.ends, x.ok ∧ x.evs.length ≤ 2000000 := fun x hx => ⟨(h.oe x hx).1, by have := (h.oe x hx).2; omega⟩
  have hmay := may_spec B0 ab k tot s e h hS (by omega) (by omega) hcap
  have hqs : showsF s.pure e = ((showsF s.pure e).1, brk 8 (!mayA s.pure e) ++ (brk 5 (!emitB s.chunks e.badge 0 e.texts) ++
    (if e.status = 3 ∧ (match jobAt s.pure.jobs e.job with
      | some j => decide (j.status ≠ 3)
      | none => true) = true then realL (s.ends.map EN.pure) e e.texts.length true else []))) := rfl
  generalize mayA s.pure e = mb at hmay hqs
  have hl8 := brk_len 8 (!mb)
  have hl5 := brk_len 5 (!emitB s.chunks e.badge 0 e.texts)
  rw [jobAt_pure] at hqs
  cases hk : jobAt s.jobs e.job with
  | some x =>
    have hkp : 1 ≤ e.job ∧ e.job ≤ s.pure.jobs.length := by have := (jobAt_some hk).1; simpa [SA.pure] using this
    by_cases h3 : e.status = 3
    · by_cases hx3 : x.j.status = 3
      · skip
        have hq1 : (showsF s.pure e).1 = { s.pure with jobs := jobSet s.pure.jobs e.job ⟨e.status, e.badge, e.rcode, e.rbits, e.texts⟩, great := max s.pure.great e.badge, shn := e.job } := if_pos hkp
        rw [hqs, hq1, hk, if_neg (fun h => by have := h.2; simp [hx3] at this)]
        clear hqs hq1 hkp
        obtain ⟨jobs, ja, jc, JG, r, chunks, pieces, ends, brok, ba, bc, BG⟩ := s
        obtain ⟨oj, ojs, oe, ob, few, s0, s1⟩ := h
        dsimp only [ActR, AuB, SA.pure] at *
        obtain ⟨hr, hx⟩ := jobAt_some hk
        have hlt := (List.getElem?_eq_some_iff.1 hx).1
        obtain ⟨g, spare, rfl, _, rfl, hsp, hle⟩ := oj.some_ (by omega)
        have hok := jr_ok jobs
        have hrow : (jobs.map JR.row)[(e.job - 1).toNat]? = some x.row := by rw [List.getElem?_map, hx]; rfl
        have hp := flat_out (f := JR.G) hx
        have hnl : ¬ e.job = (jobs.length : Int) + 1 := by omega
        have hmay := (hmay.permIn (AuL.perm hp.symm)).permOut (R' := fun v A => v = .bool mb ∧ A = (AuL ab (some ⟨g, 0, none⟩) jobs.length jc r (.slice ba brok.length bc) [(g, cl ((jobs.map JR.row).flatten ++ spare) 80)] (x.G ++ (jobs.eraseIdx (e.job - 1).toNat).flatMap JR.G) chunks pieces (eents ends) (ends.flatMap EN.G) BG)) (fun v A' hR => ⟨_, ⟨hR.1, rfl⟩, by rw [hR.2]; exact AuL.perm hp⟩)
        refine ConB.permIn (A := (AuL ab (some ⟨g, 0, none⟩) jobs.length jc r (.slice ba brok.length bc) [(g, cl ((jobs.map JR.row).flatten ++ spare) 80)] (x.G ++ (jobs.eraseIdx (e.job - 1).toNat).flatMap JR.G) chunks pieces (eents ends) (ends.flatMap EN.G) BG)) ?_ (AuL.perm hp)
        refine ConB.intro (vs := [_, _]) Try.func30 rfl Try.ntmps30 rfl (fun B hB => ?_)
        repeat' (first | refine Cd.seq ?_ | refine Cd.reg ?_ | refine Ops.mv rfl rfl rfl rfl ?_ | refine Ops.ldN rfl rfl rfl rfl ?_ | refine Ops.box rfl rfl rfl rfl (noPd rfl) (fun b => ?_))
        refine Ops.callB hmay hB rfl (noPd rfl) rfl rfl rfl (fun v A' hR => ?_)
        obtain ⟨rfl, rfl⟩ := hR
        repeat' (first | refine Ops.un rfl rfl rfl rfl ?_)
        refine Ops.call (breaks_spec ab (some ⟨g, 0, none⟩) jobs.length jc r ba bc brok BG 8 (!mb) ob (by omega)) rfl (noPd rfl) rfl rfl rfl (fun v A' hR => ?_)
        obtain ⟨ba2, bc2, BG2, rfl, hB2⟩ := hR
        repeat' (first | refine Cd.seq ?_ | refine Cd.reg ?_ | refine Ops.mv rfl rfl rfl rfl ?_ | refine Ops.fa0 rfl rfl rfl rfl ?_ | refine Ops.ld1 rfl rfl rfl rfl rfl ?_)
        refine Ops.callB (emitted_spec B0 ab (some ⟨g, 0, none⟩) jobs.length jc r (.slice ba2 (brok ++ brk 8 (!mb)).length bc2) chunks e.badge 0 e.ta e.tc e.texts hS (Int.le_refl _) (by decide) (by omega)) hB rfl (noPd rfl) rfl rfl rfl (fun v A' hR => ?_)
        obtain ⟨rfl, rfl⟩ := hR
        repeat' (first | refine Ops.un rfl rfl rfl rfl ?_)
        refine Ops.call (breaks_spec ab (some ⟨g, 0, none⟩) jobs.length jc r ba2 bc2 (brok ++ brk 8 (!mb)) BG2 5 (!emitB chunks e.badge 0 e.texts) hB2 (by rw [List.length_append]; omega)) rfl (noPd rfl) rfl rfl rfl (fun v A' hR => ?_)
        obtain ⟨ba3, bc3, BG3, rfl, hB3⟩ := hR
        rw [List.append_assoc] at hB3 ⊢
        repeat' (first | refine Cd.seq ?_ | refine Cd.reg ?_ | refine Ops.mv rfl rfl rfl rfl ?_ | refine Ops.fa0 rfl rfl rfl rfl ?_ | refine Ops.ld1 rfl rfl rfl rfl rfl ?_)
        refine Ops.call (known_yes ab g jobs.length jc r (.slice ba3 (brok ++ (brk 8 (!mb) ++ brk 5 (!emitB chunks e.badge 0 e.texts))).length bc3) e.job hr (by omega)) rfl (noPd rfl) rfl rfl rfl (fun v A' hR => ?_)
        obtain ⟨rfl, rfl⟩ := hR
        repeat' (first | refine Cd.seq ?_ | refine Cd.reg ?_ | refine Ops.nil ?_ | refine Ops.mv rfl rfl rfl rfl ?_ | refine Ops.asg rfl rfl rfl rfl ?_ | refine Ops.nilP rfl rfl rfl rfl ?_ | refine Ops.fa0 rfl rfl rfl rfl ?_ | refine Ops.fa rfl rfl rfl rfl ?_ | refine Ops.ld1 rfl rfl rfl rfl rfl ?_ | refine Ops.bin rfl rfl rfl rfl rfl ?_ | refine Ops.pickT rfl rfl rfl rfl rfl ?_ | refine Ops.pickF rfl rfl rfl rfl rfl ?_ | refine Cd.skip (Cd.next ?_) | refine Ops.ldRow1 rfl rfl rfl (by assumption) (by assumption) rfl rfl ?_ | refine Cd.condF rfl (by first | rfl | assumption | (simp only [decide_eq_true_eq, decide_eq_false_iff_not, Bool.not_eq_true', Bool.not_eq_false', Bool.not_eq_eq_eq_not, Bool.not_true, Bool.not_false, beq_iff_eq, beq_eq_false_iff_ne, ne_eq, decide_eq_decide, eq_self, true_iff, iff_true, not_true_eq_false, not_false_eq_true]; first | done | omega)) ?_ | ((fail_if_success refine Ops.probe rfl ?_); refine Ops.gT rfl rfl (by first | rfl | assumption | (simp only [decide_eq_true_eq, decide_eq_false_iff_not, Bool.not_eq_true', Bool.not_eq_false', Bool.not_eq_eq_eq_not, Bool.not_true, Bool.not_false, beq_iff_eq, beq_eq_false_iff_ne, ne_eq, decide_eq_decide, eq_self, true_iff, iff_true, not_true_eq_false, not_false_eq_true]; first | done | omega)) ?_))
        rw [show (brok ++ (brk 8 (!mb) ++ brk 5 (!emitB chunks e.badge 0 e.texts))) = (brok ++ (brk 8 (!mb) ++ (brk 5 (!emitB chunks e.badge 0 e.texts) ++ []))) from by simp] at hB3 ⊢
        refine Cd.draw [(0, 0, []), (1, 1, []), (2, 0, []), (3, 0, []), (4, 0, []), (5, 1, []), (6, 1, []), (7, 0, []), (8, 0, [])] (by kernel_rfl) (by kernel_rfl) (by simp only [picked, nth]; exact rfl) ?_
        repeat' (first | refine Cd.seq ?_ | refine Cd.reg ?_ | refine Ops.nil ?_ | refine Ops.mv rfl rfl rfl rfl ?_ | refine Ops.nilP rfl rfl rfl rfl ?_ | refine Ops.fa0 rfl rfl rfl rfl ?_ | refine Ops.ld1 rfl rfl rfl rfl rfl ?_ | refine Ops.lenS rfl rfl rfl rfl ?_ | refine Ops.addI rfl rfl rfl rfl (by omega) (by omega) rfl ?_ | refine Ops.bin rfl rfl rfl rfl rfl ?_ | refine Cd.condT rfl rfl ?_ | refine Cd.skip (Cd.next ?_) | refine Cd.condF rfl (by first | rfl | assumption | (simp only [decide_eq_true_eq, decide_eq_false_iff_not, Bool.not_eq_true', Bool.not_eq_false', Bool.not_eq_eq_eq_not, Bool.not_true, Bool.not_false, beq_iff_eq, beq_eq_false_iff_ne, ne_eq, decide_eq_decide, eq_self, true_iff, iff_true, not_true_eq_false, not_false_eq_true]; first | done | omega)) ?_)
        refine Cd.draw [(0, 0, []), (1, 0, []), (2, 1, []), (3, 0, []), (4, 1, []), (5, 0, []), (6, 1, []), (7, 0, []), (8, 1, []), (9, 2, [2, 4, 6]), (10, 0, []), (11, 0, []), (12, 2, [])] (by kernel_rfl) (by kernel_rfl) (by simp only [picked, nth]; exact rfl) ?_
        repeat' (first | refine Ops.mv rfl rfl rfl rfl ?_ | refine Ops.fa0 rfl rfl rfl rfl ?_ | refine Ops.ld1 rfl rfl rfl rfl rfl ?_ | refine Ops.ldN rfl rfl rfl rfl ?_)
        refine Ops.callB (clone_spec B0 e.ta e.tc e.texts hS (by omega)) hB rfl (by first | exact noPd rfl | (intro v A' hR i hi; obtain ⟨A2, hR, rfl⟩ := hR; (try obtain ⟨rfl, rfl⟩ := hR); (repeat (rcases List.mem_cons.1 hi with rfl | hi; · (first | exact Still.ld1 rfl rfl rfl rfl rfl | exact Still.ldN rfl rfl rfl rfl | exact Still.len rfl rfl rfl rfl rfl | exact Still.skip rfl rfl rfl | exact Still.ldRow1 rfl rfl rfl (by assumption) (by assumption) rfl rfl | exact Still.ldR rfl rfl rfl (by apply_assumption) rfl))); cases hi)) rfl rfl rfl (fun v A' hR => ?_)
        obtain ⟨a2, c2, rfl⟩ := OwnT.form hR
        rename List Blk => G2
        repeat' (first | refine Ops.nilP rfl rfl rfl rfl ?_ | refine Ops.bld rfl rfl rfl rfl ?_)
        refine Ops.stRow rfl rfl rfl rfl rfl rfl hok (by rw [List.length_map]; exact hlt) (noPd rfl) ?_
        repeat' (first | refine Ops.nil ?_)
        refine Cd.draw [(0, 0, []), (1, 0, []), (2, 0, []), (3, 0, []), (4, 1, []), (5, 0, []), (6, 1, []), (7, 0, []), (8, 0, []), (9, 0, []), (10, 2, [])] (by kernel_rfl) (by kernel_rfl) (by simp only [picked, nth]; exact rfl) ?_
        repeat' (first | refine Cd.reg ?_ | refine Ops.nil ?_ | refine Ops.mv rfl rfl rfl rfl ?_ | refine Ops.nilP rfl rfl rfl rfl ?_ | refine Ops.fa0 rfl rfl rfl rfl ?_ | refine Ops.ld1 rfl rfl rfl rfl rfl ?_ | refine Ops.maxI rfl rfl rfl rfl rfl ?_ | refine Ops.st1 rfl rfl rfl rfl rfl (noPd rfl) ?_)
        exact Ops.nilN (end0 (A' := AuB ab (setS jobs (e.job - 1).toNat ⟨⟨e.status, e.badge, e.rcode, e.rbits, e.texts⟩, a2, c2, G2⟩ g jc spare { r with great := max r.great e.badge, shn := e.job } chunks pieces ends (brok ++ (brk 8 (!mb) ++ (brk 5 (!emitB chunks e.badge 0 e.texts) ++ []))) ba3 bc3 BG3)) rfl (fun w h => set_sat (⟨⟨e.status, e.badge, e.rcode, e.rbits, e.texts⟩, a2, c2, G2⟩ : JR) [.int .i64 e.status, .int .i64 e.badge, .int .i64 e.rcode, .int .u64 e.rbits, .slice a2 e.texts.length c2] (G2 ++ (jobs.eraseIdx (e.job - 1).toNat).flatMap JR.G) rfl rfl hlt h.split)
          ⟨_, rfl, set_ok oj hsp hle (fun z hz => ⟨(ojs z hz).1, by have := (ojs z hz).2; omega⟩) oe hB3 few (by dsimp only; omega) (by dsimp only; omega) ⟨hR, by show e.texts.length ≤ _; omega⟩, by unfold SA.pure; dsimp only; rw [set_jobs _ hk], rfl, rfl, rfl, rfl, rfl⟩)
      · skip
        have hq1 : (showsF s.pure e).1 = { s.pure with jobs := jobSet s.pure.jobs e.job ⟨e.status, e.badge, e.rcode, e.rbits, e.texts⟩, great := max s.pure.great e.badge, shn := e.job } := if_pos hkp
        rw [hqs, hq1, hk, if_pos ⟨h3, by simp [hx3]⟩]
        clear hqs hq1 hkp
        obtain ⟨jobs, ja, jc, JG, r, chunks, pieces, ends, brok, ba, bc, BG⟩ := s
        obtain ⟨oj, ojs, oe, ob, few, s0, s1⟩ := h
        dsimp only [ActR, AuB, SA.pure] at *
        obtain ⟨hr, hx⟩ := jobAt_some hk
        have hlt := (List.getElem?_eq_some_iff.1 hx).1
        obtain ⟨g, spare, rfl, _, rfl, hsp, hle⟩ := oj.some_ (by omega)
        have hok := jr_ok jobs
        have hrow : (jobs.map JR.row)[(e.job - 1).toNat]? = some x.row := by rw [List.getElem?_map, hx]; rfl
        have hp := flat_out (f := JR.G) hx
        have hnl : ¬ e.job = (jobs.length : Int) + 1 := by omega
        have hmay := (hmay.permIn (AuL.perm hp.symm)).permOut (R' := fun v A => v = .bool mb ∧ A = (AuL ab (some ⟨g, 0, none⟩) jobs.length jc r (.slice ba brok.length bc) [(g, cl ((jobs.map JR.row).flatten ++ spare) 80)] (x.G ++ (jobs.eraseIdx (e.job - 1).toNat).flatMap JR.G) chunks pieces (eents ends) (ends.flatMap EN.G) BG)) (fun v A' hR => ⟨_, ⟨hR.1, rfl⟩, by rw [hR.2]; exact AuL.perm hp⟩)
        refine ConB.permIn (A := (AuL ab (some ⟨g, 0, none⟩) jobs.length jc r (.slice ba brok.length bc) [(g, cl ((jobs.map JR.row).flatten ++ spare) 80)] (x.G ++ (jobs.eraseIdx (e.job - 1).toNat).flatMap JR.G) chunks pieces (eents ends) (ends.flatMap EN.G) BG)) ?_ (AuL.perm hp)
        refine ConB.intro (vs := [_, _]) Try.func30 rfl Try.ntmps30 rfl (fun B hB => ?_)
        repeat' (first | refine Cd.seq ?_ | refine Cd.reg ?_ | refine Ops.mv rfl rfl rfl rfl ?_ | refine Ops.ldN rfl rfl rfl rfl ?_ | refine Ops.box rfl rfl rfl rfl (noPd rfl) (fun b => ?_))
        refine Ops.callB hmay hB rfl (noPd rfl) rfl rfl rfl (fun v A' hR => ?_)
        obtain ⟨rfl, rfl⟩ := hR
        repeat' (first | refine Ops.un rfl rfl rfl rfl ?_)
        refine Ops.call (breaks_spec ab (some ⟨g, 0, none⟩) jobs.length jc r ba bc brok BG 8 (!mb) ob (by omega)) rfl (noPd rfl) rfl rfl rfl (fun v A' hR => ?_)
        obtain ⟨ba2, bc2, BG2, rfl, hB2⟩ := hR
        repeat' (first | refine Cd.seq ?_ | refine Cd.reg ?_ | refine Ops.mv rfl rfl rfl rfl ?_ | refine Ops.fa0 rfl rfl rfl rfl ?_ | refine Ops.ld1 rfl rfl rfl rfl rfl ?_)
        refine Ops.callB (emitted_spec B0 ab (some ⟨g, 0, none⟩) jobs.length jc r (.slice ba2 (brok ++ brk 8 (!mb)).length bc2) chunks e.badge 0 e.ta e.tc e.texts hS (Int.le_refl _) (by decide) (by omega)) hB rfl (noPd rfl) rfl rfl rfl (fun v A' hR => ?_)
        obtain ⟨rfl, rfl⟩ := hR
        repeat' (first | refine Ops.un rfl rfl rfl rfl ?_)
        refine Ops.call (breaks_spec ab (some ⟨g, 0, none⟩) jobs.length jc r ba2 bc2 (brok ++ brk 8 (!mb)) BG2 5 (!emitB chunks e.badge 0 e.texts) hB2 (by rw [List.length_append]; omega)) rfl (noPd rfl) rfl rfl rfl (fun v A' hR => ?_)
        obtain ⟨ba3, bc3, BG3, rfl, hB3⟩ := hR
        rw [List.append_assoc] at hB3 ⊢
        repeat' (first | refine Cd.seq ?_ | refine Cd.reg ?_ | refine Ops.mv rfl rfl rfl rfl ?_ | refine Ops.fa0 rfl rfl rfl rfl ?_ | refine Ops.ld1 rfl rfl rfl rfl rfl ?_)
        refine Ops.call (known_yes ab g jobs.length jc r (.slice ba3 (brok ++ (brk 8 (!mb) ++ brk 5 (!emitB chunks e.badge 0 e.texts))).length bc3) e.job hr (by omega)) rfl (noPd rfl) rfl rfl rfl (fun v A' hR => ?_)
        obtain ⟨rfl, rfl⟩ := hR
        repeat' (first | refine Cd.seq ?_ | refine Cd.reg ?_ | refine Ops.nil ?_ | refine Ops.mv rfl rfl rfl rfl ?_ | refine Ops.asg rfl rfl rfl rfl ?_ | refine Ops.nilP rfl rfl rfl rfl ?_ | refine Ops.fa0 rfl rfl rfl rfl ?_ | refine Ops.fa rfl rfl rfl rfl ?_ | refine Ops.ld1 rfl rfl rfl rfl rfl ?_ | refine Ops.ldN rfl rfl rfl rfl ?_ | refine Ops.lenS rfl rfl rfl rfl ?_ | refine Ops.bin rfl rfl rfl rfl rfl ?_ | refine Ops.pickT rfl rfl rfl rfl rfl ?_ | refine Ops.pickF rfl rfl rfl rfl rfl ?_ | refine Ops.ldRow1 rfl rfl rfl (by assumption) (by assumption) rfl rfl ?_ | refine Cd.condT rfl (by first | rfl | assumption | (simp only [decide_eq_true_eq, decide_eq_false_iff_not, Bool.not_eq_true', Bool.not_eq_false', Bool.not_eq_eq_eq_not, Bool.not_true, Bool.not_false, beq_iff_eq, beq_eq_false_iff_ne, ne_eq, decide_eq_decide, eq_self, true_iff, iff_true, not_true_eq_false, not_false_eq_true]; first | done | omega)) ?_ | ((fail_if_success refine Ops.probe rfl ?_); refine Ops.gT rfl rfl (by first | rfl | assumption | (simp only [decide_eq_true_eq, decide_eq_false_iff_not, Bool.not_eq_true', Bool.not_eq_false', Bool.not_eq_eq_eq_not, Bool.not_true, Bool.not_false, beq_iff_eq, beq_eq_false_iff_ne, ne_eq, decide_eq_decide, eq_self, true_iff, iff_true, not_true_eq_false, not_false_eq_true]; first | done | omega)) ?_))
        refine Ops.call (real_spec ab (some ⟨g, 0, none⟩) jobs.length jc r ba3 bc3 (brok ++ (brk 8 (!mb) ++ brk 5 (!emitB chunks e.badge 0 e.texts))) BG3 ends e e.texts.length true hB3 (by simp only [List.length_append]; omega) hE) rfl (noPd rfl) rfl rfl rfl (fun v A' hR => ?_)
        obtain ⟨ba4, bc4, BG4, rfl, hB4⟩ := hR
        rw [List.append_assoc, List.append_assoc] at hB4 ⊢
        repeat' (first | refine Cd.seq ?_)
        refine Cd.draw [(0, 0, []), (1, 1, []), (2, 0, []), (3, 0, []), (4, 0, []), (5, 1, []), (6, 1, []), (7, 0, []), (8, 0, [])] (by kernel_rfl) (by kernel_rfl) (by simp only [picked, nth]; exact rfl) ?_
        repeat' (first | refine Cd.seq ?_ | refine Cd.reg ?_ | refine Ops.nil ?_ | refine Ops.mv rfl rfl rfl rfl ?_ | refine Ops.nilP rfl rfl rfl rfl ?_ | refine Ops.fa0 rfl rfl rfl rfl ?_ | refine Ops.ld1 rfl rfl rfl rfl rfl ?_ | refine Ops.lenS rfl rfl rfl rfl ?_ | refine Ops.addI rfl rfl rfl rfl (by omega) (by omega) rfl ?_ | refine Ops.bin rfl rfl rfl rfl rfl ?_ | refine Cd.condT rfl rfl ?_ | refine Cd.skip (Cd.next ?_) | refine Cd.condF rfl (by first | rfl | assumption | (simp only [decide_eq_true_eq, decide_eq_false_iff_not, Bool.not_eq_true', Bool.not_eq_false', Bool.not_eq_eq_eq_not, Bool.not_true, Bool.not_false, beq_iff_eq, beq_eq_false_iff_ne, ne_eq, decide_eq_decide, eq_self, true_iff, iff_true, not_true_eq_false, not_false_eq_true]; first | done | omega)) ?_)
        refine Cd.draw [(0, 0, []), (1, 0, []), (2, 1, []), (3, 0, []), (4, 1, []), (5, 0, []), (6, 1, []), (7, 0, []), (8, 1, []), (9, 2, [2, 4, 6]), (10, 0, []), (11, 0, []), (12, 2, [])] (by kernel_rfl) (by kernel_rfl) (by simp only [picked, nth]; exact rfl) ?_
        repeat' (first | refine Ops.mv rfl rfl rfl rfl ?_ | refine Ops.fa0 rfl rfl rfl rfl ?_ | refine Ops.ld1 rfl rfl rfl rfl rfl ?_ | refine Ops.ldN rfl rfl rfl rfl ?_)
        refine Ops.callB (clone_spec B0 e.ta e.tc e.texts hS (by omega)) hB rfl (by first | exact noPd rfl | (intro v A' hR i hi; obtain ⟨A2, hR, rfl⟩ := hR; (try obtain ⟨rfl, rfl⟩ := hR); (repeat (rcases List.mem_cons.1 hi with rfl | hi; · (first | exact Still.ld1 rfl rfl rfl rfl rfl | exact Still.ldN rfl rfl rfl rfl | exact Still.len rfl rfl rfl rfl rfl | exact Still.skip rfl rfl rfl | exact Still.ldRow1 rfl rfl rfl (by assumption) (by assumption) rfl rfl | exact Still.ldR rfl rfl rfl (by apply_assumption) rfl))); cases hi)) rfl rfl rfl (fun v A' hR => ?_)
        obtain ⟨a2, c2, rfl⟩ := OwnT.form hR
        rename List Blk => G2
        repeat' (first | refine Ops.nilP rfl rfl rfl rfl ?_ | refine Ops.bld rfl rfl rfl rfl ?_)
        refine Ops.stRow rfl rfl rfl rfl rfl rfl hok (by rw [List.length_map]; exact hlt) (noPd rfl) ?_
        repeat' (first | refine Ops.nil ?_)
        refine Cd.draw [(0, 0, []), (1, 0, []), (2, 0, []), (3, 0, []), (4, 1, []), (5, 0, []), (6, 1, []), (7, 0, []), (8, 0, []), (9, 0, []), (10, 2, [])] (by kernel_rfl) (by kernel_rfl) (by simp only [picked, nth]; exact rfl) ?_
        repeat' (first | refine Cd.reg ?_ | refine Ops.nil ?_ | refine Ops.mv rfl rfl rfl rfl ?_ | refine Ops.nilP rfl rfl rfl rfl ?_ | refine Ops.fa0 rfl rfl rfl rfl ?_ | refine Ops.ld1 rfl rfl rfl rfl rfl ?_ | refine Ops.maxI rfl rfl rfl rfl rfl ?_ | refine Ops.st1 rfl rfl rfl rfl rfl (noPd rfl) ?_)
        exact Ops.nilN (end0 (A' := AuB ab (setS jobs (e.job - 1).toNat ⟨⟨e.status, e.badge, e.rcode, e.rbits, e.texts⟩, a2, c2, G2⟩ g jc spare { r with great := max r.great e.badge, shn := e.job } chunks pieces ends (brok ++ (brk 8 (!mb) ++ (brk 5 (!emitB chunks e.badge 0 e.texts) ++ realL (ends.map EN.pure) e e.texts.length true))) ba4 bc4 BG4)) rfl (fun w h => set_sat (⟨⟨e.status, e.badge, e.rcode, e.rbits, e.texts⟩, a2, c2, G2⟩ : JR) [.int .i64 e.status, .int .i64 e.badge, .int .i64 e.rcode, .int .u64 e.rbits, .slice a2 e.texts.length c2] (G2 ++ (jobs.eraseIdx (e.job - 1).toNat).flatMap JR.G) rfl rfl hlt h.split)
          ⟨_, rfl, set_ok oj hsp hle (fun z hz => ⟨(ojs z hz).1, by have := (ojs z hz).2; omega⟩) oe hB4 few (by dsimp only; omega) (by dsimp only; omega) ⟨hR, by show e.texts.length ≤ _; omega⟩, by unfold SA.pure; dsimp only; rw [set_jobs _ hk], rfl, rfl, rfl, rfl, rfl⟩)
    · skip
      have hq1 : (showsF s.pure e).1 = { s.pure with jobs := jobSet s.pure.jobs e.job ⟨e.status, e.badge, e.rcode, e.rbits, e.texts⟩, great := max s.pure.great e.badge, shn := e.job } := if_pos hkp
      rw [hqs, hq1, hk, if_neg (fun h => h3 h.1)]
      clear hqs hq1 hkp
      obtain ⟨jobs, ja, jc, JG, r, chunks, pieces, ends, brok, ba, bc, BG⟩ := s
      obtain ⟨oj, ojs, oe, ob, few, s0, s1⟩ := h
      dsimp only [ActR, AuB, SA.pure] at *
      obtain ⟨hr, hx⟩ := jobAt_some hk
      have hlt := (List.getElem?_eq_some_iff.1 hx).1
      obtain ⟨g, spare, rfl, _, rfl, hsp, hle⟩ := oj.some_ (by omega)
      have hok := jr_ok jobs
      have hrow : (jobs.map JR.row)[(e.job - 1).toNat]? = some x.row := by rw [List.getElem?_map, hx]; rfl
      have hp := flat_out (f := JR.G) hx
      have hnl : ¬ e.job = (jobs.length : Int) + 1 := by omega
      have hmay := (hmay.permIn (AuL.perm hp.symm)).permOut (R' := fun v A => v = .bool mb ∧ A = (AuL ab (some ⟨g, 0, none⟩) jobs.length jc r (.slice ba brok.length bc) [(g, cl ((jobs.map JR.row).flatten ++ spare) 80)] (x.G ++ (jobs.eraseIdx (e.job - 1).toNat).flatMap JR.G) chunks pieces (eents ends) (ends.flatMap EN.G) BG)) (fun v A' hR => ⟨_, ⟨hR.1, rfl⟩, by rw [hR.2]; exact AuL.perm hp⟩)
      refine ConB.permIn (A := (AuL ab (some ⟨g, 0, none⟩) jobs.length jc r (.slice ba brok.length bc) [(g, cl ((jobs.map JR.row).flatten ++ spare) 80)] (x.G ++ (jobs.eraseIdx (e.job - 1).toNat).flatMap JR.G) chunks pieces (eents ends) (ends.flatMap EN.G) BG)) ?_ (AuL.perm hp)
      refine ConB.intro (vs := [_, _]) Try.func30 rfl Try.ntmps30 rfl (fun B hB => ?_)
      repeat' (first | refine Cd.seq ?_ | refine Cd.reg ?_ | refine Ops.mv rfl rfl rfl rfl ?_ | refine Ops.ldN rfl rfl rfl rfl ?_ | refine Ops.box rfl rfl rfl rfl (noPd rfl) (fun b => ?_))
      refine Ops.callB hmay hB rfl (noPd rfl) rfl rfl rfl (fun v A' hR => ?_)
      obtain ⟨rfl, rfl⟩ := hR
      repeat' (first | refine Ops.un rfl rfl rfl rfl ?_)
      refine Ops.call (breaks_spec ab (some ⟨g, 0, none⟩) jobs.length jc r ba bc brok BG 8 (!mb) ob (by omega)) rfl (noPd rfl) rfl rfl rfl (fun v A' hR => ?_)
      obtain ⟨ba2, bc2, BG2, rfl, hB2⟩ := hR
      repeat' (first | refine Cd.seq ?_ | refine Cd.reg ?_ | refine Ops.mv rfl rfl rfl rfl ?_ | refine Ops.fa0 rfl rfl rfl rfl ?_ | refine Ops.ld1 rfl rfl rfl rfl rfl ?_)
      refine Ops.callB (emitted_spec B0 ab (some ⟨g, 0, none⟩) jobs.length jc r (.slice ba2 (brok ++ brk 8 (!mb)).length bc2) chunks e.badge 0 e.ta e.tc e.texts hS (Int.le_refl _) (by decide) (by omega)) hB rfl (noPd rfl) rfl rfl rfl (fun v A' hR => ?_)
      obtain ⟨rfl, rfl⟩ := hR
      repeat' (first | refine Ops.un rfl rfl rfl rfl ?_)
      refine Ops.call (breaks_spec ab (some ⟨g, 0, none⟩) jobs.length jc r ba2 bc2 (brok ++ brk 8 (!mb)) BG2 5 (!emitB chunks e.badge 0 e.texts) hB2 (by rw [List.length_append]; omega)) rfl (noPd rfl) rfl rfl rfl (fun v A' hR => ?_)
      obtain ⟨ba3, bc3, BG3, rfl, hB3⟩ := hR
      rw [List.append_assoc] at hB3 ⊢
      repeat' (first | refine Cd.seq ?_ | refine Cd.reg ?_ | refine Ops.mv rfl rfl rfl rfl ?_ | refine Ops.fa0 rfl rfl rfl rfl ?_ | refine Ops.ld1 rfl rfl rfl rfl rfl ?_)
      refine Ops.call (known_yes ab g jobs.length jc r (.slice ba3 (brok ++ (brk 8 (!mb) ++ brk 5 (!emitB chunks e.badge 0 e.texts))).length bc3) e.job hr (by omega)) rfl (noPd rfl) rfl rfl rfl (fun v A' hR => ?_)
      obtain ⟨rfl, rfl⟩ := hR
      repeat' (first | refine Cd.seq ?_ | refine Cd.reg ?_ | refine Ops.nil ?_ | refine Ops.mv rfl rfl rfl rfl ?_ | refine Ops.asg rfl rfl rfl rfl ?_ | refine Ops.fa0 rfl rfl rfl rfl ?_ | refine Ops.ld1 rfl rfl rfl rfl rfl ?_ | refine Ops.bin rfl rfl rfl rfl rfl ?_ | refine Ops.pickF rfl rfl rfl rfl rfl ?_ | refine Ops.gSkip rfl rfl rfl ?_ | refine Ops.gSkipU rfl rfl rfl rfl ?_ | refine Cd.condF rfl rfl ?_ | refine Cd.skip (Cd.next ?_) | ((fail_if_success refine Ops.probe rfl ?_); refine Ops.gF rfl rfl (by first | rfl | assumption | (simp only [decide_eq_true_eq, decide_eq_false_iff_not, Bool.not_eq_true', Bool.not_eq_false', Bool.not_eq_eq_eq_not, Bool.not_true, Bool.not_false, beq_iff_eq, beq_eq_false_iff_ne, ne_eq, decide_eq_decide, eq_self, true_iff, iff_true, not_true_eq_false, not_false_eq_true]; first | done | omega)) ?_))
      rw [show (brok ++ (brk 8 (!mb) ++ brk 5 (!emitB chunks e.badge 0 e.texts))) = (brok ++ (brk 8 (!mb) ++ (brk 5 (!emitB chunks e.badge 0 e.texts) ++ []))) from by simp] at hB3 ⊢
      refine Cd.draw [(0, 0, []), (1, 1, []), (2, 0, []), (3, 0, []), (4, 0, []), (5, 1, []), (6, 1, []), (7, 0, []), (8, 0, [])] (by kernel_rfl) (by kernel_rfl) (by simp only [picked, nth]; exact rfl) ?_
      repeat' (first | refine Cd.seq ?_ | refine Cd.reg ?_ | refine Ops.nil ?_ | refine Ops.mv rfl rfl rfl rfl ?_ | refine Ops.nilP rfl rfl rfl rfl ?_ | refine Ops.fa0 rfl rfl rfl rfl ?_ | refine Ops.ld1 rfl rfl rfl rfl rfl ?_ | refine Ops.lenS rfl rfl rfl rfl ?_ | refine Ops.addI rfl rfl rfl rfl (by omega) (by omega) rfl ?_ | refine Ops.bin rfl rfl rfl rfl rfl ?_ | refine Cd.condT rfl rfl ?_ | refine Cd.skip (Cd.next ?_) | refine Cd.condF rfl (by first | rfl | assumption | (simp only [decide_eq_true_eq, decide_eq_false_iff_not, Bool.not_eq_true', Bool.not_eq_false', Bool.not_eq_eq_eq_not, Bool.not_true, Bool.not_false, beq_iff_eq, beq_eq_false_iff_ne, ne_eq, decide_eq_decide, eq_self, true_iff, iff_true, not_true_eq_false, not_false_eq_true]; first | done | omega)) ?_)
      refine Cd.draw [(0, 0, []), (1, 0, []), (2, 1, []), (3, 0, []), (4, 1, []), (5, 0, []), (6, 1, []), (7, 0, []), (8, 1, []), (9, 2, [2, 4, 6]), (10, 0, []), (11, 0, []), (12, 2, [])] (by kernel_rfl) (by kernel_rfl) (by simp only [picked, nth]; exact rfl) ?_
      repeat' (first | refine Ops.mv rfl rfl rfl rfl ?_ | refine Ops.fa0 rfl rfl rfl rfl ?_ | refine Ops.ld1 rfl rfl rfl rfl rfl ?_ | refine Ops.ldN rfl rfl rfl rfl ?_)
      refine Ops.callB (clone_spec B0 e.ta e.tc e.texts hS (by omega)) hB rfl (by first | exact noPd rfl | (intro v A' hR i hi; obtain ⟨A2, hR, rfl⟩ := hR; (try obtain ⟨rfl, rfl⟩ := hR); (repeat (rcases List.mem_cons.1 hi with rfl | hi; · (first | exact Still.ld1 rfl rfl rfl rfl rfl | exact Still.ldN rfl rfl rfl rfl | exact Still.len rfl rfl rfl rfl rfl | exact Still.skip rfl rfl rfl | exact Still.ldRow1 rfl rfl rfl (by assumption) (by assumption) rfl rfl | exact Still.ldR rfl rfl rfl (by apply_assumption) rfl))); cases hi)) rfl rfl rfl (fun v A' hR => ?_)
      obtain ⟨a2, c2, rfl⟩ := OwnT.form hR
      rename List Blk => G2
      repeat' (first | refine Ops.nilP rfl rfl rfl rfl ?_ | refine Ops.bld rfl rfl rfl rfl ?_)
      refine Ops.stRow rfl rfl rfl rfl rfl rfl hok (by rw [List.length_map]; exact hlt) (noPd rfl) ?_
      repeat' (first | refine Ops.nil ?_)
      refine Cd.draw [(0, 0, []), (1, 0, []), (2, 0, []), (3, 0, []), (4, 1, []), (5, 0, []), (6, 1, []), (7, 0, []), (8, 0, []), (9, 0, []), (10, 2, [])] (by kernel_rfl) (by kernel_rfl) (by simp only [picked, nth]; exact rfl) ?_
      repeat' (first | refine Cd.reg ?_ | refine Ops.nil ?_ | refine Ops.mv rfl rfl rfl rfl ?_ | refine Ops.nilP rfl rfl rfl rfl ?_ | refine Ops.fa0 rfl rfl rfl rfl ?_ | refine Ops.ld1 rfl rfl rfl rfl rfl ?_ | refine Ops.maxI rfl rfl rfl rfl rfl ?_ | refine Ops.st1 rfl rfl rfl rfl rfl (noPd rfl) ?_)
      exact Ops.nilN (end0 (A' := AuB ab (setS jobs (e.job - 1).toNat ⟨⟨e.status, e.badge, e.rcode, e.rbits, e.texts⟩, a2, c2, G2⟩ g jc spare { r with great := max r.great e.badge, shn := e.job } chunks pieces ends (brok ++ (brk 8 (!mb) ++ (brk 5 (!emitB chunks e.badge 0 e.texts) ++ []))) ba3 bc3 BG3)) rfl (fun w h => set_sat (⟨⟨e.status, e.badge, e.rcode, e.rbits, e.texts⟩, a2, c2, G2⟩ : JR) [.int .i64 e.status, .int .i64 e.badge, .int .i64 e.rcode, .int .u64 e.rbits, .slice a2 e.texts.length c2] (G2 ++ (jobs.eraseIdx (e.job - 1).toNat).flatMap JR.G) rfl rfl hlt h.split)
        ⟨_, rfl, set_ok oj hsp hle (fun z hz => ⟨(ojs z hz).1, by have := (ojs z hz).2; omega⟩) oe hB3 few (by dsimp only; omega) (by dsimp only; omega) ⟨hR, by show e.texts.length ≤ _; omega⟩, by unfold SA.pure; dsimp only; rw [set_jobs _ hk], rfl, rfl, rfl, rfl, rfl⟩)
  | none =>
    have hkp : ¬ (1 ≤ e.job ∧ e.job ≤ s.pure.jobs.length) := by have := jobAt_none hk; simpa [SA.pure] using this
    by_cases hl : e.job = s.jobs.length + 1
    · have hlp : e.job = s.pure.jobs.length + 1 := by simpa [SA.pure] using hl
      by_cases h3 : e.status = 3
      · skip
        have hq1 : (showsF s.pure e).1 = { s.pure with jobs := s.pure.jobs ++ [⟨e.status, e.badge, e.rcode, e.rbits, e.texts⟩], great := max s.pure.great e.badge, shn := e.job } := (if_neg hkp).trans (if_pos hlp)
        rw [hqs, hq1, hk, if_pos ⟨h3, rfl⟩]
        clear hqs hq1 hkp hlp
        obtain ⟨jobs, ja, jc, JG, r, chunks, pieces, ends, brok, ba, bc, BG⟩ := s
        obtain ⟨oj, ojs, oe, ob, few, s0, s1⟩ := h
        dsimp only [ActR, AuB, SA.pure] at *
        refine ConB.intro (vs := [_, _]) Try.func30 rfl Try.ntmps30 rfl (fun B hB => ?_)
        repeat' (first | refine Cd.seq ?_ | refine Cd.reg ?_ | refine Ops.mv rfl rfl rfl rfl ?_ | refine Ops.ldN rfl rfl rfl rfl ?_ | refine Ops.box rfl rfl rfl rfl (noPd rfl) (fun b => ?_))
        refine Ops.callB hmay hB rfl (noPd rfl) rfl rfl rfl (fun v A' hR => ?_)
        obtain ⟨rfl, rfl⟩ := hR
        repeat' (first | refine Ops.un rfl rfl rfl rfl ?_)
        refine Ops.call (breaks_spec ab ja jobs.length jc r ba bc brok BG 8 (!mb) ob (by omega)) rfl (noPd rfl) rfl rfl rfl (fun v A' hR => ?_)
        obtain ⟨ba2, bc2, BG2, rfl, hB2⟩ := hR
        repeat' (first | refine Cd.seq ?_ | refine Cd.reg ?_ | refine Ops.mv rfl rfl rfl rfl ?_ | refine Ops.fa0 rfl rfl rfl rfl ?_ | refine Ops.ld1 rfl rfl rfl rfl rfl ?_)
        refine Ops.callB (emitted_spec B0 ab ja jobs.length jc r (.slice ba2 (brok ++ brk 8 (!mb)).length bc2) chunks e.badge 0 e.ta e.tc e.texts hS (Int.le_refl _) (by decide) (by omega)) hB rfl (noPd rfl) rfl rfl rfl (fun v A' hR => ?_)
        obtain ⟨rfl, rfl⟩ := hR
        repeat' (first | refine Ops.un rfl rfl rfl rfl ?_)
        refine Ops.call (breaks_spec ab ja jobs.length jc r ba2 bc2 (brok ++ brk 8 (!mb)) BG2 5 (!emitB chunks e.badge 0 e.texts) hB2 (by rw [List.length_append]; omega)) rfl (noPd rfl) rfl rfl rfl (fun v A' hR => ?_)
        obtain ⟨ba3, bc3, BG3, rfl, hB3⟩ := hR
        rw [List.append_assoc] at hB3 ⊢
        repeat' (first | refine Cd.seq ?_ | refine Cd.reg ?_ | refine Ops.mv rfl rfl rfl rfl ?_ | refine Ops.fa0 rfl rfl rfl rfl ?_ | refine Ops.ld1 rfl rfl rfl rfl rfl ?_)
        refine Ops.call (known_no ab ja jobs.length jc r (.slice ba3 (brok ++ (brk 8 (!mb) ++ brk 5 (!emitB chunks e.badge 0 e.texts))).length bc3) e.job (jobAt_none hk)) rfl (noPd rfl) rfl rfl rfl (fun v A' hR => ?_)
        obtain ⟨rfl, rfl⟩ := hR
        repeat' (first | refine Cd.seq ?_ | refine Cd.reg ?_ | refine Ops.nil ?_ | refine Ops.mv rfl rfl rfl rfl ?_ | refine Ops.asg rfl rfl rfl rfl ?_ | refine Ops.fa0 rfl rfl rfl rfl ?_ | refine Ops.ld1 rfl rfl rfl rfl rfl ?_ | refine Ops.ldN rfl rfl rfl rfl ?_ | refine Ops.lenS rfl rfl rfl rfl ?_ | refine Ops.bin rfl rfl rfl rfl rfl ?_ | refine Ops.pickT rfl rfl rfl rfl rfl ?_ | refine Ops.gSkip rfl rfl rfl ?_ | refine Cd.condT rfl rfl ?_ | ((fail_if_success refine Ops.probe rfl ?_); refine Ops.gT rfl rfl (by first | rfl | assumption | (simp only [decide_eq_true_eq, decide_eq_false_iff_not, Bool.not_eq_true', Bool.not_eq_false', Bool.not_eq_eq_eq_not, Bool.not_true, Bool.not_false, beq_iff_eq, beq_eq_false_iff_ne, ne_eq, decide_eq_decide, eq_self, true_iff, iff_true, not_true_eq_false, not_false_eq_true]; first | done | omega)) ?_))
        refine Ops.call (real_spec ab ja jobs.length jc r ba3 bc3 (brok ++ (brk 8 (!mb) ++ brk 5 (!emitB chunks e.badge 0 e.texts))) BG3 ends e e.texts.length true hB3 (by simp only [List.length_append]; omega) hE) rfl (noPd rfl) rfl rfl rfl (fun v A' hR => ?_)
        obtain ⟨ba4, bc4, BG4, rfl, hB4⟩ := hR
        rw [List.append_assoc, List.append_assoc] at hB4 ⊢
        repeat' (first | refine Cd.seq ?_)
        refine Cd.draw [(0, 0, []), (1, 1, []), (2, 0, []), (3, 0, []), (4, 0, []), (5, 1, []), (6, 1, []), (7, 0, []), (8, 0, [])] (by kernel_rfl) (by kernel_rfl) (by simp only [picked, nth]; exact rfl) ?_
        repeat' (first | refine Cd.seq ?_ | refine Cd.reg ?_ | refine Ops.nil ?_ | refine Ops.mv rfl rfl rfl rfl ?_ | refine Ops.nilP rfl rfl rfl rfl ?_ | refine Ops.fa0 rfl rfl rfl rfl ?_ | refine Ops.ld1 rfl rfl rfl rfl rfl ?_ | refine Ops.lenS rfl rfl rfl rfl ?_ | refine Ops.addI rfl rfl rfl rfl (by omega) (by omega) rfl ?_ | refine Ops.bin rfl rfl rfl rfl rfl ?_ | refine Ops.bld rfl rfl rfl rfl ?_ | refine Ops.bs1 rfl rfl rfl rfl rfl rfl rfl (noPd rfl) (fun b => ?_) | refine Cd.condT rfl (by first | rfl | assumption | (simp only [decide_eq_true_eq, decide_eq_false_iff_not, Bool.not_eq_true', Bool.not_eq_false', Bool.not_eq_eq_eq_not, Bool.not_true, Bool.not_false, beq_iff_eq, beq_eq_false_iff_ne, ne_eq, decide_eq_decide, eq_self, true_iff, iff_true, not_true_eq_false, not_false_eq_true]; first | done | omega)) ?_)
        have hll : (jobs.map JR.row).length = jobs.length := List.length_map _
        refine Ops.app1 (rows := jobs.map JR.row) oj (by rw [hll]; omega) (by rw [hll]; omega) rfl rfl rfl rfl (by rfl) (by rfl) rfl (noPd rfl) rfl (fun v G' hG' => ?_)
        have hG2 : OwnJ v (jobs ++ [(⟨⟨0, 0, 0, 0, []⟩, none, 0, []⟩ : JR)]) G' := by
          unfold OwnJ; rw [List.map_append]; exact hG'
        clear hG'
        obtain ⟨a', c', rfl⟩ := hG2.form
        obtain ⟨g, spare, rfl, _, rfl, hsp, hle⟩ := hG2.some_ (by simp)
        have hok := jr_ok (jobs ++ [(⟨⟨0, 0, 0, 0, []⟩, none, 0, []⟩ : JR)])
        have hfl : (jobs ++ [(⟨⟨0, 0, 0, 0, []⟩, none, 0, []⟩ : JR)]).length = jobs.length + 1 := by simp
        have hlt : (e.job - 1).toNat < (jobs ++ [(⟨⟨0, 0, 0, 0, []⟩, none, 0, []⟩ : JR)]).length := by omega
        repeat' (first | refine Cd.reg ?_ | refine Ops.mv rfl rfl rfl rfl ?_ | refine Ops.nilP rfl rfl rfl rfl ?_ | refine Ops.fa0 rfl rfl rfl rfl ?_ | refine Ops.ld1 rfl rfl rfl rfl rfl ?_ | refine Ops.st1 rfl rfl rfl rfl rfl (noPd rfl) ?_)
        refine Ops.call (known_yes ab g (jobs ++ [(⟨⟨0, 0, 0, 0, []⟩, none, 0, []⟩ : JR)]).length c' r (.slice ba4 (brok ++ (brk 8 (!mb) ++ (brk 5 (!emitB chunks e.badge 0 e.texts) ++ realL (ends.map EN.pure) e e.texts.length true))).length bc4) e.job (by omega) (by omega)) rfl (noPd rfl) rfl rfl rfl (fun v A' hR => ?_)
        obtain ⟨rfl, rfl⟩ := hR
        repeat' (first | refine Cd.seq ?_ | refine Cd.reg ?_ | refine Ops.nil ?_ | refine Ops.mv rfl rfl rfl rfl ?_ | refine Ops.asg rfl rfl rfl rfl ?_ | refine Ops.bin rfl rfl rfl rfl rfl ?_ | refine Cd.condT rfl rfl ?_)
        refine Cd.draw [(0, 0, []), (1, 0, []), (2, 1, []), (3, 0, []), (4, 1, []), (5, 0, []), (6, 1, []), (7, 0, []), (8, 1, []), (9, 2, [2, 4, 6]), (10, 0, []), (11, 0, []), (12, 2, [])] (by kernel_rfl) (by kernel_rfl) (by simp only [picked, nth]; exact rfl) ?_
        repeat' (first | refine Ops.mv rfl rfl rfl rfl ?_ | refine Ops.fa0 rfl rfl rfl rfl ?_ | refine Ops.ld1 rfl rfl rfl rfl rfl ?_ | refine Ops.ldN rfl rfl rfl rfl ?_)
        refine Ops.callB (clone_spec B0 e.ta e.tc e.texts hS (by omega)) hB rfl (by first | exact noPd rfl | (intro v A' hR i hi; obtain ⟨A2, hR, rfl⟩ := hR; (try obtain ⟨rfl, rfl⟩ := hR); (repeat (rcases List.mem_cons.1 hi with rfl | hi; · (first | exact Still.ld1 rfl rfl rfl rfl rfl | exact Still.ldN rfl rfl rfl rfl | exact Still.len rfl rfl rfl rfl rfl | exact Still.skip rfl rfl rfl | exact Still.ldRow1 rfl rfl rfl (by assumption) (by assumption) rfl rfl | exact Still.ldR rfl rfl rfl (by apply_assumption) rfl))); cases hi)) rfl rfl rfl (fun v A' hR => ?_)
        obtain ⟨a2, c2, rfl⟩ := OwnT.form hR
        rename List Blk => G2
        repeat' (first | refine Ops.nilP rfl rfl rfl rfl ?_ | refine Ops.bld rfl rfl rfl rfl ?_)
        refine Ops.stRow rfl rfl rfl rfl rfl rfl hok (by rw [List.length_map]; exact hlt) (noPd rfl) ?_
        repeat' (first | refine Ops.nil ?_)
        refine Cd.draw [(0, 0, []), (1, 0, []), (2, 0, []), (3, 0, []), (4, 1, []), (5, 0, []), (6, 1, []), (7, 0, []), (8, 0, []), (9, 0, []), (10, 2, [])] (by kernel_rfl) (by kernel_rfl) (by simp only [picked, nth]; exact rfl) ?_
        repeat' (first | refine Cd.reg ?_ | refine Ops.nil ?_ | refine Ops.mv rfl rfl rfl rfl ?_ | refine Ops.nilP rfl rfl rfl rfl ?_ | refine Ops.fa0 rfl rfl rfl rfl ?_ | refine Ops.ld1 rfl rfl rfl rfl rfl ?_ | refine Ops.maxI rfl rfl rfl rfl rfl ?_ | refine Ops.st1 rfl rfl rfl rfl rfl (noPd rfl) ?_)
        exact Ops.nilN (end0 (A' := AuB ab (setS (jobs ++ [(⟨⟨0, 0, 0, 0, []⟩, none, 0, []⟩ : JR)]) (e.job - 1).toNat ⟨⟨e.status, e.badge, e.rcode, e.rbits, e.texts⟩, a2, c2, G2⟩ g c' spare { r with great := max r.great e.badge, shn := e.job } chunks pieces ends (brok ++ (brk 8 (!mb) ++ (brk 5 (!emitB chunks e.badge 0 e.texts) ++ realL (ends.map EN.pure) e e.texts.length true))) ba4 bc4 BG4)) rfl (fun w h => set_sat (⟨⟨e.status, e.badge, e.rcode, e.rbits, e.texts⟩, a2, c2, G2⟩ : JR) [.int .i64 e.status, .int .i64 e.badge, .int .i64 e.rcode, .int .u64 e.rbits, .slice a2 e.texts.length c2] (G2 ++ jobs.flatMap JR.G) rfl (by rw [erase_last (by omega)]) hlt h.split)
          ⟨_, rfl, set_ok hG2 hsp hle (fun z hz => by
            rcases List.mem_append.1 hz with hz | hz
            · exact ⟨(ojs z hz).1, by have := (ojs z hz).2; omega⟩
            · obtain rfl := List.mem_singleton.1 hz
              exact ⟨Own.none, Nat.zero_le _⟩) oe hB4 (by rw [hfl]; omega) (by dsimp only; omega) (by dsimp only; omega) ⟨hR, by show e.texts.length ≤ _; omega⟩, by unfold SA.pure; dsimp only; rw [set_last (by omega), List.map_append]; rfl, rfl, rfl, rfl, rfl, rfl⟩)
      · skip
        have hq1 : (showsF s.pure e).1 = { s.pure with jobs := s.pure.jobs ++ [⟨e.status, e.badge, e.rcode, e.rbits, e.texts⟩], great := max s.pure.great e.badge, shn := e.job } := (if_neg hkp).trans (if_pos hlp)
        rw [hqs, hq1, hk, if_neg (fun h => h3 h.1)]
        clear hqs hq1 hkp hlp
        obtain ⟨jobs, ja, jc, JG, r, chunks, pieces, ends, brok, ba, bc, BG⟩ := s
        obtain ⟨oj, ojs, oe, ob, few, s0, s1⟩ := h
        dsimp only [ActR, AuB, SA.pure] at *
        refine ConB.intro (vs := [_, _]) Try.func30 rfl Try.ntmps30 rfl (fun B hB => ?_)
        repeat' (first | refine Cd.seq ?_ | refine Cd.reg ?_ | refine Ops.mv rfl rfl rfl rfl ?_ | refine Ops.ldN rfl rfl rfl rfl ?_ | refine Ops.box rfl rfl rfl rfl (noPd rfl) (fun b => ?_))
        refine Ops.callB hmay hB rfl (noPd rfl) rfl rfl rfl (fun v A' hR => ?_)
        obtain ⟨rfl, rfl⟩ := hR
        repeat' (first | refine Ops.un rfl rfl rfl rfl ?_)
        refine Ops.call (breaks_spec ab ja jobs.length jc r ba bc brok BG 8 (!mb) ob (by omega)) rfl (noPd rfl) rfl rfl rfl (fun v A' hR => ?_)
        obtain ⟨ba2, bc2, BG2, rfl, hB2⟩ := hR
        repeat' (first | refine Cd.seq ?_ | refine Cd.reg ?_ | refine Ops.mv rfl rfl rfl rfl ?_ | refine Ops.fa0 rfl rfl rfl rfl ?_ | refine Ops.ld1 rfl rfl rfl rfl rfl ?_)
        refine Ops.callB (emitted_spec B0 ab ja jobs.length jc r (.slice ba2 (brok ++ brk 8 (!mb)).length bc2) chunks e.badge 0 e.ta e.tc e.texts hS (Int.le_refl _) (by decide) (by omega)) hB rfl (noPd rfl) rfl rfl rfl (fun v A' hR => ?_)
        obtain ⟨rfl, rfl⟩ := hR
        repeat' (first | refine Ops.un rfl rfl rfl rfl ?_)
        refine Ops.call (breaks_spec ab ja jobs.length jc r ba2 bc2 (brok ++ brk 8 (!mb)) BG2 5 (!emitB chunks e.badge 0 e.texts) hB2 (by rw [List.length_append]; omega)) rfl (noPd rfl) rfl rfl rfl (fun v A' hR => ?_)
        obtain ⟨ba3, bc3, BG3, rfl, hB3⟩ := hR
        rw [List.append_assoc] at hB3 ⊢
        repeat' (first | refine Cd.seq ?_ | refine Cd.reg ?_ | refine Ops.mv rfl rfl rfl rfl ?_ | refine Ops.fa0 rfl rfl rfl rfl ?_ | refine Ops.ld1 rfl rfl rfl rfl rfl ?_)
        refine Ops.call (known_no ab ja jobs.length jc r (.slice ba3 (brok ++ (brk 8 (!mb) ++ brk 5 (!emitB chunks e.badge 0 e.texts))).length bc3) e.job (jobAt_none hk)) rfl (noPd rfl) rfl rfl rfl (fun v A' hR => ?_)
        obtain ⟨rfl, rfl⟩ := hR
        repeat' (first | refine Cd.seq ?_ | refine Cd.reg ?_ | refine Ops.nil ?_ | refine Ops.mv rfl rfl rfl rfl ?_ | refine Ops.asg rfl rfl rfl rfl ?_ | refine Ops.fa0 rfl rfl rfl rfl ?_ | refine Ops.ld1 rfl rfl rfl rfl rfl ?_ | refine Ops.bin rfl rfl rfl rfl rfl ?_ | refine Ops.pickF rfl rfl rfl rfl rfl ?_ | refine Ops.gSkip rfl rfl rfl ?_ | refine Ops.gSkipU rfl rfl rfl rfl ?_ | refine Cd.condF rfl rfl ?_ | refine Cd.skip (Cd.next ?_) | ((fail_if_success refine Ops.probe rfl ?_); refine Ops.gF rfl rfl (by first | rfl | assumption | (simp only [decide_eq_true_eq, decide_eq_false_iff_not, Bool.not_eq_true', Bool.not_eq_false', Bool.not_eq_eq_eq_not, Bool.not_true, Bool.not_false, beq_iff_eq, beq_eq_false_iff_ne, ne_eq, decide_eq_decide, eq_self, true_iff, iff_true, not_true_eq_false, not_false_eq_true]; first | done | omega)) ?_))
        rw [show (brok ++ (brk 8 (!mb) ++ brk 5 (!emitB chunks e.badge 0 e.texts))) = (brok ++ (brk 8 (!mb) ++ (brk 5 (!emitB chunks e.badge 0 e.texts) ++ []))) from by simp] at hB3 ⊢
        refine Cd.draw [(0, 0, []), (1, 1, []), (2, 0, []), (3, 0, []), (4, 0, []), (5, 1, []), (6, 1, []), (7, 0, []), (8, 0, [])] (by kernel_rfl) (by kernel_rfl) (by simp only [picked, nth]; exact rfl) ?_
        repeat' (first | refine Cd.seq ?_ | refine Cd.reg ?_ | refine Ops.nil ?_ | refine Ops.mv rfl rfl rfl rfl ?_ | refine Ops.nilP rfl rfl rfl rfl ?_ | refine Ops.fa0 rfl rfl rfl rfl ?_ | refine Ops.ld1 rfl rfl rfl rfl rfl ?_ | refine Ops.lenS rfl rfl rfl rfl ?_ | refine Ops.addI rfl rfl rfl rfl (by omega) (by omega) rfl ?_ | refine Ops.bin rfl rfl rfl rfl rfl ?_ | refine Ops.bld rfl rfl rfl rfl ?_ | refine Ops.bs1 rfl rfl rfl rfl rfl rfl rfl (noPd rfl) (fun b => ?_) | refine Cd.condT rfl (by first | rfl | assumption | (simp only [decide_eq_true_eq, decide_eq_false_iff_not, Bool.not_eq_true', Bool.not_eq_false', Bool.not_eq_eq_eq_not, Bool.not_true, Bool.not_false, beq_iff_eq, beq_eq_false_iff_ne, ne_eq, decide_eq_decide, eq_self, true_iff, iff_true, not_true_eq_false, not_false_eq_true]; first | done | omega)) ?_)
        have hll : (jobs.map JR.row).length = jobs.length := List.length_map _
        refine Ops.app1 (rows := jobs.map JR.row) oj (by rw [hll]; omega) (by rw [hll]; omega) rfl rfl rfl rfl (by rfl) (by rfl) rfl (noPd rfl) rfl (fun v G' hG' => ?_)
        have hG2 : OwnJ v (jobs ++ [(⟨⟨0, 0, 0, 0, []⟩, none, 0, []⟩ : JR)]) G' := by
          unfold OwnJ; rw [List.map_append]; exact hG'
        clear hG'
        obtain ⟨a', c', rfl⟩ := hG2.form
        obtain ⟨g, spare, rfl, _, rfl, hsp, hle⟩ := hG2.some_ (by simp)
        have hok := jr_ok (jobs ++ [(⟨⟨0, 0, 0, 0, []⟩, none, 0, []⟩ : JR)])
        have hfl : (jobs ++ [(⟨⟨0, 0, 0, 0, []⟩, none, 0, []⟩ : JR)]).length = jobs.length + 1 := by simp
        have hlt : (e.job - 1).toNat < (jobs ++ [(⟨⟨0, 0, 0, 0, []⟩, none, 0, []⟩ : JR)]).length := by omega
        repeat' (first | refine Cd.reg ?_ | refine Ops.mv rfl rfl rfl rfl ?_ | refine Ops.nilP rfl rfl rfl rfl ?_ | refine Ops.fa0 rfl rfl rfl rfl ?_ | refine Ops.ld1 rfl rfl rfl rfl rfl ?_ | refine Ops.st1 rfl rfl rfl rfl rfl (noPd rfl) ?_)
        refine Ops.call (known_yes ab g (jobs ++ [(⟨⟨0, 0, 0, 0, []⟩, none, 0, []⟩ : JR)]).length c' r (.slice ba3 (brok ++ (brk 8 (!mb) ++ (brk 5 (!emitB chunks e.badge 0 e.texts) ++ []))).length bc3) e.job (by omega) (by omega)) rfl (noPd rfl) rfl rfl rfl (fun v A' hR => ?_)
        obtain ⟨rfl, rfl⟩ := hR
        repeat' (first | refine Cd.seq ?_ | refine Cd.reg ?_ | refine Ops.nil ?_ | refine Ops.mv rfl rfl rfl rfl ?_ | refine Ops.asg rfl rfl rfl rfl ?_ | refine Ops.bin rfl rfl rfl rfl rfl ?_ | refine Cd.condT rfl rfl ?_)
        refine Cd.draw [(0, 0, []), (1, 0, []), (2, 1, []), (3, 0, []), (4, 1, []), (5, 0, []), (6, 1, []), (7, 0, []), (8, 1, []), (9, 2, [2, 4, 6]), (10, 0, []), (11, 0, []), (12, 2, [])] (by kernel_rfl) (by kernel_rfl) (by simp only [picked, nth]; exact rfl) ?_
        repeat' (first | refine Ops.mv rfl rfl rfl rfl ?_ | refine Ops.fa0 rfl rfl rfl rfl ?_ | refine Ops.ld1 rfl rfl rfl rfl rfl ?_ | refine Ops.ldN rfl rfl rfl rfl ?_)
        refine Ops.callB (clone_spec B0 e.ta e.tc e.texts hS (by omega)) hB rfl (by first | exact noPd rfl | (intro v A' hR i hi; obtain ⟨A2, hR, rfl⟩ := hR; (try obtain ⟨rfl, rfl⟩ := hR); (repeat (rcases List.mem_cons.1 hi with rfl | hi; · (first | exact Still.ld1 rfl rfl rfl rfl rfl | exact Still.ldN rfl rfl rfl rfl | exact Still.len rfl rfl rfl rfl rfl | exact Still.skip rfl rfl rfl | exact Still.ldRow1 rfl rfl rfl (by assumption) (by assumption) rfl rfl | exact Still.ldR rfl rfl rfl (by apply_assumption) rfl))); cases hi)) rfl rfl rfl (fun v A' hR => ?_)
        obtain ⟨a2, c2, rfl⟩ := OwnT.form hR
        rename List Blk => G2
        repeat' (first | refine Ops.nilP rfl rfl rfl rfl ?_ | refine Ops.bld rfl rfl rfl rfl ?_)
        refine Ops.stRow rfl rfl rfl rfl rfl rfl hok (by rw [List.length_map]; exact hlt) (noPd rfl) ?_
        repeat' (first | refine Ops.nil ?_)
        refine Cd.draw [(0, 0, []), (1, 0, []), (2, 0, []), (3, 0, []), (4, 1, []), (5, 0, []), (6, 1, []), (7, 0, []), (8, 0, []), (9, 0, []), (10, 2, [])] (by kernel_rfl) (by kernel_rfl) (by simp only [picked, nth]; exact rfl) ?_
        repeat' (first | refine Cd.reg ?_ | refine Ops.nil ?_ | refine Ops.mv rfl rfl rfl rfl ?_ | refine Ops.nilP rfl rfl rfl rfl ?_ | refine Ops.fa0 rfl rfl rfl rfl ?_ | refine Ops.ld1 rfl rfl rfl rfl rfl ?_ | refine Ops.maxI rfl rfl rfl rfl rfl ?_ | refine Ops.st1 rfl rfl rfl rfl rfl (noPd rfl) ?_)
        exact Ops.nilN (end0 (A' := AuB ab (setS (jobs ++ [(⟨⟨0, 0, 0, 0, []⟩, none, 0, []⟩ : JR)]) (e.job - 1).toNat ⟨⟨e.status, e.badge, e.rcode, e.rbits, e.texts⟩, a2, c2, G2⟩ g c' spare { r with great := max r.great e.badge, shn := e.job } chunks pieces ends (brok ++ (brk 8 (!mb) ++ (brk 5 (!emitB chunks e.badge 0 e.texts) ++ []))) ba3 bc3 BG3)) rfl (fun w h => set_sat (⟨⟨e.status, e.badge, e.rcode, e.rbits, e.texts⟩, a2, c2, G2⟩ : JR) [.int .i64 e.status, .int .i64 e.badge, .int .i64 e.rcode, .int .u64 e.rbits, .slice a2 e.texts.length c2] (G2 ++ jobs.flatMap JR.G) rfl (by rw [erase_last (by omega)]) hlt h.split)
          ⟨_, rfl, set_ok hG2 hsp hle (fun z hz => by
            rcases List.mem_append.1 hz with hz | hz
            · exact ⟨(ojs z hz).1, by have := (ojs z hz).2; omega⟩
            · obtain rfl := List.mem_singleton.1 hz
              exact ⟨Own.none, Nat.zero_le _⟩) oe hB3 (by rw [hfl]; omega) (by dsimp only; omega) (by dsimp only; omega) ⟨hR, by show e.texts.length ≤ _; omega⟩, by unfold SA.pure; dsimp only; rw [set_last (by omega), List.map_append]; rfl, rfl, rfl, rfl, rfl, rfl⟩)
    · have hlp : ¬ e.job = s.pure.jobs.length + 1 := by simpa [SA.pure] using hl
      by_cases h3 : e.status = 3
      · skip
        have hq1 : (showsF s.pure e).1 = { s.pure with shn := e.job } := (if_neg hkp).trans (if_neg hlp)
        rw [hqs, hq1, hk, if_pos ⟨h3, rfl⟩]
        clear hqs hq1 hkp hlp
        obtain ⟨jobs, ja, jc, JG, r, chunks, pieces, ends, brok, ba, bc, BG⟩ := s
        obtain ⟨oj, ojs, oe, ob, few, s0, s1⟩ := h
        dsimp only [ActR, AuB, SA.pure] at *
        refine ConB.intro (vs := [_, _]) Try.func30 rfl Try.ntmps30 rfl (fun B hB => ?_)
        repeat' (first | refine Cd.seq ?_ | refine Cd.reg ?_ | refine Ops.mv rfl rfl rfl rfl ?_ | refine Ops.ldN rfl rfl rfl rfl ?_ | refine Ops.box rfl rfl rfl rfl (noPd rfl) (fun b => ?_))
        refine Ops.callB hmay hB rfl (noPd rfl) rfl rfl rfl (fun v A' hR => ?_)
        obtain ⟨rfl, rfl⟩ := hR
        repeat' (first | refine Ops.un rfl rfl rfl rfl ?_)
        refine Ops.call (breaks_spec ab ja jobs.length jc r ba bc brok BG 8 (!mb) ob (by omega)) rfl (noPd rfl) rfl rfl rfl (fun v A' hR => ?_)
        obtain ⟨ba2, bc2, BG2, rfl, hB2⟩ := hR
        repeat' (first | refine Cd.seq ?_ | refine Cd.reg ?_ | refine Ops.mv rfl rfl rfl rfl ?_ | refine Ops.fa0 rfl rfl rfl rfl ?_ | refine Ops.ld1 rfl rfl rfl rfl rfl ?_)
        refine Ops.callB (emitted_spec B0 ab ja jobs.length jc r (.slice ba2 (brok ++ brk 8 (!mb)).length bc2) chunks e.badge 0 e.ta e.tc e.texts hS (Int.le_refl _) (by decide) (by omega)) hB rfl (noPd rfl) rfl rfl rfl (fun v A' hR => ?_)
        obtain ⟨rfl, rfl⟩ := hR
        repeat' (first | refine Ops.un rfl rfl rfl rfl ?_)
        refine Ops.call (breaks_spec ab ja jobs.length jc r ba2 bc2 (brok ++ brk 8 (!mb)) BG2 5 (!emitB chunks e.badge 0 e.texts) hB2 (by rw [List.length_append]; omega)) rfl (noPd rfl) rfl rfl rfl (fun v A' hR => ?_)
        obtain ⟨ba3, bc3, BG3, rfl, hB3⟩ := hR
        rw [List.append_assoc] at hB3 ⊢
        repeat' (first | refine Cd.seq ?_ | refine Cd.reg ?_ | refine Ops.mv rfl rfl rfl rfl ?_ | refine Ops.fa0 rfl rfl rfl rfl ?_ | refine Ops.ld1 rfl rfl rfl rfl rfl ?_)
        refine Ops.call (known_no ab ja jobs.length jc r (.slice ba3 (brok ++ (brk 8 (!mb) ++ brk 5 (!emitB chunks e.badge 0 e.texts))).length bc3) e.job (jobAt_none hk)) rfl (noPd rfl) rfl rfl rfl (fun v A' hR => ?_)
        obtain ⟨rfl, rfl⟩ := hR
        repeat' (first | refine Cd.seq ?_ | refine Cd.reg ?_ | refine Ops.nil ?_ | refine Ops.mv rfl rfl rfl rfl ?_ | refine Ops.asg rfl rfl rfl rfl ?_ | refine Ops.fa0 rfl rfl rfl rfl ?_ | refine Ops.ld1 rfl rfl rfl rfl rfl ?_ | refine Ops.ldN rfl rfl rfl rfl ?_ | refine Ops.lenS rfl rfl rfl rfl ?_ | refine Ops.bin rfl rfl rfl rfl rfl ?_ | refine Ops.pickT rfl rfl rfl rfl rfl ?_ | refine Ops.gSkip rfl rfl rfl ?_ | refine Cd.condT rfl rfl ?_ | ((fail_if_success refine Ops.probe rfl ?_); refine Ops.gT rfl rfl (by first | rfl | assumption | (simp only [decide_eq_true_eq, decide_eq_false_iff_not, Bool.not_eq_true', Bool.not_eq_false', Bool.not_eq_eq_eq_not, Bool.not_true, Bool.not_false, beq_iff_eq, beq_eq_false_iff_ne, ne_eq, decide_eq_decide, eq_self, true_iff, iff_true, not_true_eq_false, not_false_eq_true]; first | done | omega)) ?_))
        refine Ops.call (real_spec ab ja jobs.length jc r ba3 bc3 (brok ++ (brk 8 (!mb) ++ brk 5 (!emitB chunks e.badge 0 e.texts))) BG3 ends e e.texts.length true hB3 (by simp only [List.length_append]; omega) hE) rfl (noPd rfl) rfl rfl rfl (fun v A' hR => ?_)
        obtain ⟨ba4, bc4, BG4, rfl, hB4⟩ := hR
        rw [List.append_assoc, List.append_assoc] at hB4 ⊢
        repeat' (first | refine Cd.seq ?_)
        refine Cd.draw [(0, 0, []), (1, 1, []), (2, 0, []), (3, 0, []), (4, 0, []), (5, 1, []), (6, 1, []), (7, 0, []), (8, 0, [])] (by kernel_rfl) (by kernel_rfl) (by simp only [picked, nth]; exact rfl) ?_
        repeat' (first | refine Cd.seq ?_ | refine Cd.reg ?_ | refine Ops.nil ?_ | refine Ops.mv rfl rfl rfl rfl ?_ | refine Ops.nilP rfl rfl rfl rfl ?_ | refine Ops.fa0 rfl rfl rfl rfl ?_ | refine Ops.ld1 rfl rfl rfl rfl rfl ?_ | refine Ops.lenS rfl rfl rfl rfl ?_ | refine Ops.addI rfl rfl rfl rfl (by omega) (by omega) rfl ?_ | refine Ops.bin rfl rfl rfl rfl rfl ?_ | refine Ops.st1 rfl rfl rfl rfl rfl (noPd rfl) ?_ | refine Cd.condF rfl rfl ?_ | refine Cd.skip (Cd.next ?_) | refine Cd.condF rfl (by first | rfl | assumption | (simp only [decide_eq_true_eq, decide_eq_false_iff_not, Bool.not_eq_true', Bool.not_eq_false', Bool.not_eq_eq_eq_not, Bool.not_true, Bool.not_false, beq_iff_eq, beq_eq_false_iff_ne, ne_eq, decide_eq_decide, eq_self, true_iff, iff_true, not_true_eq_false, not_false_eq_true]; first | done | omega)) ?_)
        exact Ops.nilN (end0 (A' := AuL ab ja jobs.length jc { r with shn := e.job } (.slice ba4 (brok ++ (brk 8 (!mb) ++ (brk 5 (!emitB chunks e.badge 0 e.texts) ++ realL (ends.map EN.pure) e e.texts.length true))).length bc4) JG (jobs.flatMap JR.G) chunks pieces (eents ends) (ends.flatMap EN.G) BG4) rfl (fun _ h => h.split)
          ⟨⟨jobs, ja, jc, JG, { r with shn := e.job }, chunks, pieces, ends, _, ba4, bc4, BG4⟩, rfl, SA.ok.mono (⟨oj, ojs, oe, hB4, few, by dsimp only; omega, by dsimp only; omega⟩ : SA.ok k tot _) (Nat.le_refl _) (Nat.le_add_right _ _), rfl, rfl, rfl, rfl, rfl, rfl⟩)
      · skip
        have hq1 : (showsF s.pure e).1 = { s.pure with shn := e.job } := (if_neg hkp).trans (if_neg hlp)
        rw [hqs, hq1, hk, if_neg (fun h => h3 h.1)]
        clear hqs hq1 hkp hlp
        obtain ⟨jobs, ja, jc, JG, r, chunks, pieces, ends, brok, ba, bc, BG⟩ := s
        obtain ⟨oj, ojs, oe, ob, few, s0, s1⟩ := h
        dsimp only [ActR, AuB, SA.pure] at *
        refine ConB.intro (vs := [_, _]) Try.func30 rfl Try.ntmps30 rfl (fun B hB => ?_)
        repeat' (first | refine Cd.seq ?_ | refine Cd.reg ?_ | refine Ops.mv rfl rfl rfl rfl ?_ | refine Ops.ldN rfl rfl rfl rfl ?_ | refine Ops.box rfl rfl rfl rfl (noPd rfl) (fun b => ?_))
        refine Ops.callB hmay hB rfl (noPd rfl) rfl rfl rfl (fun v A' hR => ?_)
        obtain ⟨rfl, rfl⟩ := hR
        repeat' (first | refine Ops.un rfl rfl rfl rfl ?_)
        refine Ops.call (breaks_spec ab ja jobs.length jc r ba bc brok BG 8 (!mb) ob (by omega)) rfl (noPd rfl) rfl rfl rfl (fun v A' hR => ?_)
        obtain ⟨ba2, bc2, BG2, rfl, hB2⟩ := hR
        repeat' (first | refine Cd.seq ?_ | refine Cd.reg ?_ | refine Ops.mv rfl rfl rfl rfl ?_ | refine Ops.fa0 rfl rfl rfl rfl ?_ | refine Ops.ld1 rfl rfl rfl rfl rfl ?_)
        refine Ops.callB (emitted_spec B0 ab ja jobs.length jc r (.slice ba2 (brok ++ brk 8 (!mb)).length bc2) chunks e.badge 0 e.ta e.tc e.texts hS (Int.le_refl _) (by decide) (by omega)) hB rfl (noPd rfl) rfl rfl rfl (fun v A' hR => ?_)
        obtain ⟨rfl, rfl⟩ := hR
        repeat' (first | refine Ops.un rfl rfl rfl rfl ?_)
        refine Ops.call (breaks_spec ab ja jobs.length jc r ba2 bc2 (brok ++ brk 8 (!mb)) BG2 5 (!emitB chunks e.badge 0 e.texts) hB2 (by rw [List.length_append]; omega)) rfl (noPd rfl) rfl rfl rfl (fun v A' hR => ?_)
        obtain ⟨ba3, bc3, BG3, rfl, hB3⟩ := hR
        rw [List.append_assoc] at hB3 ⊢
        repeat' (first | refine Cd.seq ?_ | refine Cd.reg ?_ | refine Ops.mv rfl rfl rfl rfl ?_ | refine Ops.fa0 rfl rfl rfl rfl ?_ | refine Ops.ld1 rfl rfl rfl rfl rfl ?_)
        refine Ops.call (known_no ab ja jobs.length jc r (.slice ba3 (brok ++ (brk 8 (!mb) ++ brk 5 (!emitB chunks e.badge 0 e.texts))).length bc3) e.job (jobAt_none hk)) rfl (noPd rfl) rfl rfl rfl (fun v A' hR => ?_)
        obtain ⟨rfl, rfl⟩ := hR
        repeat' (first | refine Cd.seq ?_ | refine Cd.reg ?_ | refine Ops.nil ?_ | refine Ops.mv rfl rfl rfl rfl ?_ | refine Ops.asg rfl rfl rfl rfl ?_ | refine Ops.fa0 rfl rfl rfl rfl ?_ | refine Ops.ld1 rfl rfl rfl rfl rfl ?_ | refine Ops.bin rfl rfl rfl rfl rfl ?_ | refine Ops.pickF rfl rfl rfl rfl rfl ?_ | refine Ops.gSkip rfl rfl rfl ?_ | refine Ops.gSkipU rfl rfl rfl rfl ?_ | refine Cd.condF rfl rfl ?_ | refine Cd.skip (Cd.next ?_) | ((fail_if_success refine Ops.probe rfl ?_); refine Ops.gF rfl rfl (by first | rfl | assumption | (simp only [decide_eq_true_eq, decide_eq_false_iff_not, Bool.not_eq_true', Bool.not_eq_false', Bool.not_eq_eq_eq_not, Bool.not_true, Bool.not_false, beq_iff_eq, beq_eq_false_iff_ne, ne_eq, decide_eq_decide, eq_self, true_iff, iff_true, not_true_eq_false, not_false_eq_true]; first | done | omega)) ?_))
        rw [show (brok ++ (brk 8 (!mb) ++ brk 5 (!emitB chunks e.badge 0 e.texts))) = (brok ++ (brk 8 (!mb) ++ (brk 5 (!emitB chunks e.badge 0 e.texts) ++ []))) from by simp] at hB3 ⊢
        refine Cd.draw [(0, 0, []), (1, 1, []), (2, 0, []), (3, 0, []), (4, 0, []), (5, 1, []), (6, 1, []), (7, 0, []), (8, 0, [])] (by kernel_rfl) (by kernel_rfl) (by simp only [picked, nth]; exact rfl) ?_
        repeat' (first | refine Cd.seq ?_ | refine Cd.reg ?_ | refine Ops.nil ?_ | refine Ops.mv rfl rfl rfl rfl ?_ | refine Ops.nilP rfl rfl rfl rfl ?_ | refine Ops.fa0 rfl rfl rfl rfl ?_ | refine Ops.ld1 rfl rfl rfl rfl rfl ?_ | refine Ops.lenS rfl rfl rfl rfl ?_ | refine Ops.addI rfl rfl rfl rfl (by omega) (by omega) rfl ?_ | refine Ops.bin rfl rfl rfl rfl rfl ?_ | refine Ops.st1 rfl rfl rfl rfl rfl (noPd rfl) ?_ | refine Cd.condF rfl rfl ?_ | refine Cd.skip (Cd.next ?_) | refine Cd.condF rfl (by first | rfl | assumption | (simp only [decide_eq_true_eq, decide_eq_false_iff_not, Bool.not_eq_true', Bool.not_eq_false', Bool.not_eq_eq_eq_not, Bool.not_true, Bool.not_false, beq_iff_eq, beq_eq_false_iff_ne, ne_eq, decide_eq_decide, eq_self, true_iff, iff_true, not_true_eq_false, not_false_eq_true]; first | done | omega)) ?_)
        exact Ops.nilN (end0 (A' := AuL ab ja jobs.length jc { r with shn := e.job } (.slice ba3 (brok ++ (brk 8 (!mb) ++ (brk 5 (!emitB chunks e.badge 0 e.texts) ++ []))).length bc3) JG (jobs.flatMap JR.G) chunks pieces (eents ends) (ends.flatMap EN.G) BG3) rfl (fun _ h => h.split)
          ⟨⟨jobs, ja, jc, JG, { r with shn := e.job }, chunks, pieces, ends, _, ba3, bc3, BG3⟩, rfl, SA.ok.mono (⟨oj, ojs, oe, hB3, few, by dsimp only; omega, by dsimp only; omega⟩ : SA.ok k tot _) (Nat.le_refl _) (Nat.le_add_right _ _), rfl, rfl, rfl, rfl, rfl, rfl⟩)
end Go.Proofs.Ytfghnepmbgbnoaa
