import Derived.Test.YtdfimjgbdipnjaaS26
namespace Go.Proofs.Ytdfimjgbdipnjaa
open Go Go.Sep Go.Proofs
set_option maxRecDepth 10000
set_option maxHeartbeats 8000000
set_option synthInstance.maxSize 2000
set_option linter.unusedSimpArgs false
set_option linter.unusedVariables false

theorem row0 (d : Dk) : rowAt [d] 0 = some d := by simp [rowAt, hasB]
theorem RowsI.one {d : Dk} (h0 : 0 ≤ d.last) (h1 : d.last ≤ 1099511627776) : RowsI [d] := fun r hr => by
  obtain rfl := List.mem_singleton.1 hr; exact ⟨h0, h1⟩

theorem table_spec {k : Nat} {own : Int → Int} {aq : List Aq} {s : CS} {d : Dk} {life used asked : Int} {way : List Sd} {deeds : List De} (jb cn tn : Nat) (sv wv dv : Value) (G WG DG : List Blk) (x : Sd)
    (h : JI k own aq s d life used asked way deeds) (hx : WayOk own aq life used deeds x) (ht : x.table = true) (hk : k ≤ 1048576) (hK : OwnK sv [d] G) (hW : OwnW wv way WG) (hE : OwnE dv deeds DG) :
    Con Try.prog 47 #[ptr jb, .agg x.row.toArray] (JB jb cn tn life used asked wv dv :: (TabB tn sv G ++ (WG ++ DG)))
      fun v A => ∃ own' d' used' way' deeds' wv' dv' G' WG' DG', A = JB jb cn tn life used' asked wv' dv' :: (TabB tn sv G' ++ (WG' ++ DG')) ∧ OwnK sv [d'] G' ∧ OwnW wv' way' WG' ∧ OwnE dv' deeds' DG' ∧ JI (k + 1) own' aq s d' life used' asked way' deeds' := by
  have hwl := h.wlen
  have hdl := h.dlen
  have hl1 := h.life1
  have hu0 := h.used0
  have hu1 := h.used1
  have hr0 := h.rl0
  have hr1 := h.rl1
  have hx1 := hx.1
  have hx2 := hx.2.1
  have hxS := hx
  have hxH : x = x := rfl
  obtain ⟨da, dc, rfl⟩ := hE.form
  obtain ⟨wa, wc, rfl⟩ := hW.form
  obtain ⟨ka, kc, rfl⟩ := hK.form
  have hcnt : cntB x.life = true := by simp only [cntB, decide_eq_true_eq]; omega
  have hhel := hello_fun tn _ [d] G 0 x.life hK
  have hopn := open_code tn _ [d] G 0 x.life (used + 1) hK
  have hask := ask_fun tn _ [d] G 0 x.life x.m.session x.m.number hK (RowsI.one hr0 (by omega))
  have hans := answer_code tn _ [d] G 0 (textB (deeds.length + 1)) hK (RowsI.one hr0 (by omega))
  rw [row0] at hhel hopn hask hans
  have hsayW := fun (q life' : Int) (used' : Int) => say_spec jb cn tn life used' asked (.slice wa way.length wc) (.slice da deeds.length dc) way WG (welcomeS q life') hW (by omega)
  have hsayS := say_spec jb cn tn life used asked (.slice wa way.length wc) (.slice da deeds.length dc) way WG (staleS x) hW (by omega)
  have hrep := fun (q : Int) (dv' : Value) => reply_spec jb cn tn life used asked (.slice wa way.length wc) dv' way WG x q hW (by omega)
  have hact := fun (e1 : x.m.number = lastOf deeds x.m.session + 1) (e2 : 0 ≤ lastOf deeds x.m.session) (e3 : lastOf deeds x.m.session ≤ 1099511627776) => acts_spec jb cn tn life used asked (.slice wa way.length wc) (.slice da deeds.length dc) deeds DG x.m x.asking hE (by omega) e1 e2 e3
  have knownI := h.known hx
  have freshI := h.fresh hx
  have staleI := h.stale hx
  have againI := h.again hx
  have newI := h.new hx ht
  clear hx hxS hxH
  obtain ⟨⟨kd, ss, nn, jj, bd, ix, ct, cd, bt, tx, pg⟩, tb, lf, ak, an⟩ := x
  dsimp only [welcomeS, staleS] at *
  refine Con.intro (vs := [_, _]) Try.func47 rfl Try.ntmps47 rfl (fun B => ?_)
  by_cases hk1 : kd = 1
  · by_cases h1 : lf < d.life
    · rw [show helloV (some d) lf = (0, 0) from by unfold helloV; dsimp only; rw [if_pos hcnt, if_pos h1]] at hhel
      repeat' (first | refine Cd.seq ?_ | refine Cd.reg ?_ | refine Ops.nil ?_ | refine Ops.fa0 rfl rfl rfl rfl ?_ | refine Ops.ld1 rfl rfl rfl rfl rfl ?_ | refine Ops.bin rfl rfl rfl rfl rfl ?_ | refine Ops.box rfl rfl rfl rfl (noPd rfl) (fun b => ?_) | refine Cd.condT rfl (by first | rfl | assumption | (simp only [decide_eq_true_eq, decide_eq_false_iff_not, Bool.not_eq_true', Bool.not_eq_false', Bool.not_eq_eq_eq_not, Bool.not_true, Bool.not_false, beq_iff_eq, beq_eq_false_iff_ne, ne_eq, decide_eq_decide, eq_self, true_iff, iff_true, not_true_eq_false, not_false_eq_true]; first | done | omega)) ?_)
      refine Cd.draw [(0, 0, []), (1, 0, []), (2, 0, []), (3, 1, []), (4, 0, []), (5, 1, []), (6, 2, []), (7, 0, []), (8, 0, []), (9, 0, []), (10, 0, []), (11, 0, [])] (by kernel_rfl) (by kernel_rfl) (by simp only [picked, nth]; exact rfl) ?_
      repeat' (first | refine Ops.mv rfl rfl rfl rfl ?_ | refine Ops.nilP rfl rfl rfl rfl ?_ | refine Ops.fa0 rfl rfl rfl rfl ?_ | refine Ops.ld1 rfl rfl rfl rfl rfl ?_)
      refine Ops.call hhel rfl (noPd rfl) rfl rfl rfl (fun v A' hR => ?_)
      obtain ⟨rfl, rfl⟩ := hR
      repeat' (first | refine Cd.seq ?_ | refine Cd.reg ?_ | refine Ops.nil ?_ | refine Ops.mv rfl rfl rfl rfl ?_ | refine Ops.asg rfl rfl rfl rfl ?_ | refine Ops.bin rfl rfl rfl rfl rfl ?_ | refine Ops.ext rfl rfl rfl rfl rfl ?_ | refine Cd.condF rfl rfl ?_ | refine Cd.skip (Cd.next ?_))
      exact Cd.ret (ret0 rfl (fun _ h => h.split) ⟨own, d, used, way, deeds, _, _, G, WG, DG, rfl, hK, hW, hE, h.more⟩)
    · by_cases h2 : d.life = lf
      · rw [show helloV (some d) lf = (1, d.session) from by unfold helloV; dsimp only; rw [if_pos hcnt, if_neg h1, if_pos h2]] at hhel
        repeat' (first | refine Cd.seq ?_ | refine Cd.reg ?_ | refine Ops.nil ?_ | refine Ops.fa0 rfl rfl rfl rfl ?_ | refine Ops.ld1 rfl rfl rfl rfl rfl ?_ | refine Ops.bin rfl rfl rfl rfl rfl ?_ | refine Ops.box rfl rfl rfl rfl (noPd rfl) (fun b => ?_) | refine Cd.condT rfl (by first | rfl | assumption | (simp only [decide_eq_true_eq, decide_eq_false_iff_not, Bool.not_eq_true', Bool.not_eq_false', Bool.not_eq_eq_eq_not, Bool.not_true, Bool.not_false, beq_iff_eq, beq_eq_false_iff_ne, ne_eq, decide_eq_decide, eq_self, true_iff, iff_true, not_true_eq_false, not_false_eq_true]; first | done | omega)) ?_)
        refine Cd.draw [(0, 0, []), (1, 0, []), (2, 0, []), (3, 1, []), (4, 0, []), (5, 1, []), (6, 2, []), (7, 0, []), (8, 0, []), (9, 0, []), (10, 0, []), (11, 0, [])] (by kernel_rfl) (by kernel_rfl) (by simp only [picked, nth]; exact rfl) ?_
        repeat' (first | refine Ops.mv rfl rfl rfl rfl ?_ | refine Ops.nilP rfl rfl rfl rfl ?_ | refine Ops.fa0 rfl rfl rfl rfl ?_ | refine Ops.ld1 rfl rfl rfl rfl rfl ?_)
        refine Ops.call hhel rfl (noPd rfl) rfl rfl rfl (fun v A' hR => ?_)
        obtain ⟨rfl, rfl⟩ := hR
        repeat' (first | refine Cd.seq ?_ | refine Cd.reg ?_ | refine Ops.nil ?_ | refine Ops.mv rfl rfl rfl rfl ?_ | refine Ops.asg rfl rfl rfl rfl ?_ | refine Ops.fa0 rfl rfl rfl rfl ?_ | refine Ops.ld1 rfl rfl rfl rfl rfl ?_ | refine Ops.bin rfl rfl rfl rfl rfl ?_ | refine Ops.ext rfl rfl rfl rfl rfl ?_ | refine Ops.bld rfl rfl rfl rfl ?_ | refine Cd.condT rfl rfl ?_ | refine Cd.condF rfl rfl ?_ | refine Cd.skip (Cd.next ?_))
        refine Ops.call (hsayW d.session lf used) rfl (noPd rfl) rfl rfl rfl (fun v A' hR => ?_)
        obtain ⟨wv2, WG2, rfl, hW2⟩ := hR
        obtain ⟨wa2, wc2, rfl⟩ := hW2.form
        repeat' (first | refine Ops.nil ?_)
        exact Cd.ret (ret0 rfl (fun _ h => h.split) ⟨own, d, used, _, deeds, _, _, G, WG2, DG, rfl, hK, hW2, hE, knownI h2⟩)
      · rw [show helloV (some d) lf = (2, 0) from by unfold helloV; dsimp only; rw [if_pos hcnt, if_neg h1, if_neg h2]] at hhel
        have hcu : cntB (used + 1) = true := by simp only [cntB, decide_eq_true_eq]; omega
        have hall : cntB lf = true ∧ cntB (used + 1) = true ∧ d.life ≤ lf := ⟨hcnt, hcu, by omega⟩
        rw [show openC (some d) lf (used + 1) = 0 from by unfold openC; dsimp only; rw [if_pos hall], show openV (some d) 0 lf (used + 1) = some ⟨0, lf, used + 1, 0, ⟨#[]⟩⟩ from by unfold openV; dsimp only; rw [if_pos hall]] at hopn
        repeat' (first | refine Cd.seq ?_ | refine Cd.reg ?_ | refine Ops.nil ?_ | refine Ops.fa0 rfl rfl rfl rfl ?_ | refine Ops.ld1 rfl rfl rfl rfl rfl ?_ | refine Ops.bin rfl rfl rfl rfl rfl ?_ | refine Ops.box rfl rfl rfl rfl (noPd rfl) (fun b => ?_) | refine Cd.condT rfl (by first | rfl | assumption | (simp only [decide_eq_true_eq, decide_eq_false_iff_not, Bool.not_eq_true', Bool.not_eq_false', Bool.not_eq_eq_eq_not, Bool.not_true, Bool.not_false, beq_iff_eq, beq_eq_false_iff_ne, ne_eq, decide_eq_decide, eq_self, true_iff, iff_true, not_true_eq_false, not_false_eq_true]; first | done | omega)) ?_)
        refine Cd.draw [(0, 0, []), (1, 0, []), (2, 0, []), (3, 1, []), (4, 0, []), (5, 1, []), (6, 2, []), (7, 0, []), (8, 0, []), (9, 0, []), (10, 0, []), (11, 0, [])] (by kernel_rfl) (by kernel_rfl) (by simp only [picked, nth]; exact rfl) ?_
        repeat' (first | refine Ops.mv rfl rfl rfl rfl ?_ | refine Ops.nilP rfl rfl rfl rfl ?_ | refine Ops.fa0 rfl rfl rfl rfl ?_ | refine Ops.ld1 rfl rfl rfl rfl rfl ?_)
        refine Ops.call hhel rfl (noPd rfl) rfl rfl rfl (fun v A' hR => ?_)
        obtain ⟨rfl, rfl⟩ := hR
        repeat' (first | refine Cd.seq ?_ | refine Cd.reg ?_ | refine Ops.nil ?_ | refine Ops.mv rfl rfl rfl rfl ?_ | refine Ops.asg rfl rfl rfl rfl ?_ | refine Ops.nilP rfl rfl rfl rfl ?_ | refine Ops.fa0 rfl rfl rfl rfl ?_ | refine Ops.ld1 rfl rfl rfl rfl rfl ?_ | refine Ops.addI rfl rfl rfl rfl (by omega) (by omega) rfl ?_ | refine Ops.bin rfl rfl rfl rfl rfl ?_ | refine Ops.ext rfl rfl rfl rfl rfl ?_ | refine Ops.st1 rfl rfl rfl rfl rfl (noPd rfl) ?_ | refine Cd.condT rfl rfl ?_)
        refine Cd.draw [(0, 0, []), (1, 0, []), (2, 0, []), (3, 1, []), (4, 0, []), (5, 1, []), (6, 0, []), (7, 2, []), (8, 0, [])] (by kernel_rfl) (by kernel_rfl) (by simp only [picked, nth]; exact rfl) ?_
        repeat' (first | refine Ops.mv rfl rfl rfl rfl ?_ | refine Ops.nilP rfl rfl rfl rfl ?_ | refine Ops.fa0 rfl rfl rfl rfl ?_ | refine Ops.ld1 rfl rfl rfl rfl rfl ?_)
        refine Ops.call hopn rfl (noPd rfl) rfl rfl rfl (fun v A' hR => ?_)
        obtain ⟨rfl, G2, rfl, hK2⟩ := hR
        repeat' (first | refine Cd.seq ?_ | refine Cd.reg ?_ | refine Ops.nil ?_ | refine Ops.mv rfl rfl rfl rfl ?_ | refine Ops.fa0 rfl rfl rfl rfl ?_ | refine Ops.ld1 rfl rfl rfl rfl rfl ?_ | refine Ops.bin rfl rfl rfl rfl rfl ?_ | refine Ops.bld rfl rfl rfl rfl ?_ | refine Cd.condT rfl rfl ?_ | refine Cd.condF rfl rfl ?_ | refine Cd.skip (Cd.next ?_))
        refine Ops.call (hsayW (used + 1) lf (used + 1)) rfl (noPd rfl) rfl rfl rfl (fun v A' hR => ?_)
        obtain ⟨wv2, WG2, rfl, hW2⟩ := hR
        obtain ⟨wa2, wc2, rfl⟩ := hW2.form
        repeat' (first | refine Ops.nil ?_)
        obtain ⟨own', hJ⟩ := freshI
        exact Cd.ret (ret0 rfl (fun _ h => h.split) ⟨own', _, used + 1, _, deeds, _, _, G2, WG2, DG, rfl, hK2, hW2, hE, hJ⟩)
  · by_cases h1 : d.life = 0 ∨ d.life ≠ lf ∨ d.session ≠ ss
    · rw [show askV (some d) lf ss nn = (1, ⟨#[]⟩) from by unfold askV; dsimp only; rw [if_pos h1]] at hask
      repeat' (first | refine Cd.seq ?_ | refine Cd.reg ?_ | refine Ops.nil ?_ | refine Ops.fa0 rfl rfl rfl rfl ?_ | refine Ops.ld1 rfl rfl rfl rfl rfl ?_ | refine Ops.bin rfl rfl rfl rfl rfl ?_ | refine Ops.box rfl rfl rfl rfl (noPd rfl) (fun b => ?_) | refine Cd.skip (Cd.next ?_) | refine Cd.condF rfl (by first | rfl | assumption | (simp only [decide_eq_true_eq, decide_eq_false_iff_not, Bool.not_eq_true', Bool.not_eq_false', Bool.not_eq_eq_eq_not, Bool.not_true, Bool.not_false, beq_iff_eq, beq_eq_false_iff_ne, ne_eq, decide_eq_decide, eq_self, true_iff, iff_true, not_true_eq_false, not_false_eq_true]; first | done | omega)) ?_)
      refine Cd.draw [(0, 0, []), (1, 0, []), (2, 0, []), (3, 1, []), (4, 0, []), (5, 1, []), (6, 0, []), (7, 0, []), (8, 1, []), (9, 0, []), (10, 0, []), (11, 1, []), (12, 2, []), (13, 0, []), (14, 0, []), (15, 0, []), (16, 0, []), (17, 0, [])] (by kernel_rfl) (by kernel_rfl) (by simp only [picked, nth]; exact rfl) ?_
      repeat' (first | refine Ops.mv rfl rfl rfl rfl ?_ | refine Ops.nilP rfl rfl rfl rfl ?_ | refine Ops.fa0 rfl rfl rfl rfl ?_ | refine Ops.ld1 rfl rfl rfl rfl rfl ?_)
      refine Ops.call hask rfl (noPd rfl) rfl rfl rfl (fun v A' hR => ?_)
      obtain ⟨rfl, rfl⟩ := hR
      repeat' (first | refine Cd.seq ?_ | refine Cd.reg ?_ | refine Ops.nil ?_ | refine Ops.mv rfl rfl rfl rfl ?_ | refine Ops.asg rfl rfl rfl rfl ?_ | refine Ops.fa0 rfl rfl rfl rfl ?_ | refine Ops.ld1 rfl rfl rfl rfl rfl ?_ | refine Ops.bin rfl rfl rfl rfl rfl ?_ | refine Ops.ext rfl rfl rfl rfl rfl ?_ | refine Ops.bld rfl rfl rfl rfl ?_ | refine Cd.condT rfl rfl ?_ | refine Cd.block ?_)
      refine Ops.call hsayS rfl (noPd rfl) rfl rfl rfl (fun v A' hR => ?_)
      obtain ⟨wv2, WG2, rfl, hW2⟩ := hR
      obtain ⟨wa2, wc2, rfl⟩ := hW2.form
      skip
      exact Ops.nilN (inB (end0 rfl (fun _ h => h.split) ⟨own, d, used, _, deeds, _, _, G, WG2, DG, rfl, hK, hW2, hE, staleI⟩))
    · obtain ⟨h2, h3, h4⟩ : d.life ≠ 0 ∧ d.life = lf ∧ d.session = ss := by omega
      by_cases h5 : nn < 1
      · rw [show askV (some d) lf ss nn = (0, ⟨#[]⟩) from by unfold askV; dsimp only; rw [if_neg h1, if_pos h5]] at hask
        repeat' (first | refine Cd.seq ?_ | refine Cd.reg ?_ | refine Ops.nil ?_ | refine Ops.fa0 rfl rfl rfl rfl ?_ | refine Ops.ld1 rfl rfl rfl rfl rfl ?_ | refine Ops.bin rfl rfl rfl rfl rfl ?_ | refine Ops.box rfl rfl rfl rfl (noPd rfl) (fun b => ?_) | refine Cd.skip (Cd.next ?_) | refine Cd.condF rfl (by first | rfl | assumption | (simp only [decide_eq_true_eq, decide_eq_false_iff_not, Bool.not_eq_true', Bool.not_eq_false', Bool.not_eq_eq_eq_not, Bool.not_true, Bool.not_false, beq_iff_eq, beq_eq_false_iff_ne, ne_eq, decide_eq_decide, eq_self, true_iff, iff_true, not_true_eq_false, not_false_eq_true]; first | done | omega)) ?_)
        refine Cd.draw [(0, 0, []), (1, 0, []), (2, 0, []), (3, 1, []), (4, 0, []), (5, 1, []), (6, 0, []), (7, 0, []), (8, 1, []), (9, 0, []), (10, 0, []), (11, 1, []), (12, 2, []), (13, 0, []), (14, 0, []), (15, 0, []), (16, 0, []), (17, 0, [])] (by kernel_rfl) (by kernel_rfl) (by simp only [picked, nth]; exact rfl) ?_
        repeat' (first | refine Ops.mv rfl rfl rfl rfl ?_ | refine Ops.nilP rfl rfl rfl rfl ?_ | refine Ops.fa0 rfl rfl rfl rfl ?_ | refine Ops.ld1 rfl rfl rfl rfl rfl ?_)
        refine Ops.call hask rfl (noPd rfl) rfl rfl rfl (fun v A' hR => ?_)
        obtain ⟨rfl, rfl⟩ := hR
        repeat' (first | refine Cd.seq ?_ | refine Cd.reg ?_ | refine Ops.nil ?_ | refine Ops.mv rfl rfl rfl rfl ?_ | refine Ops.asg rfl rfl rfl rfl ?_ | refine Ops.bin rfl rfl rfl rfl rfl ?_ | refine Ops.ext rfl rfl rfl rfl rfl ?_ | refine Cd.condF rfl rfl ?_ | refine Cd.block ?_)
        exact Cd.skip (inB (end0 rfl (fun _ h => h.split) ⟨own, d, used, way, deeds, _, _, G, WG, DG, rfl, hK, hW, hE, h.more⟩))
      by_cases h6 : nn = d.last
      · rw [show askV (some d) lf ss nn = (2, d.reply) from by unfold askV; dsimp only; rw [if_neg h1, if_neg h5, if_pos h6]] at hask
        obtain ⟨i, hi1, hi2, hJ⟩ := againI h2 h4 h6 (by omega)
        rw [hi1] at hask
        repeat' (first | refine Cd.seq ?_ | refine Cd.reg ?_ | refine Ops.nil ?_ | refine Ops.fa0 rfl rfl rfl rfl ?_ | refine Ops.ld1 rfl rfl rfl rfl rfl ?_ | refine Ops.bin rfl rfl rfl rfl rfl ?_ | refine Ops.box rfl rfl rfl rfl (noPd rfl) (fun b => ?_) | refine Cd.skip (Cd.next ?_) | refine Cd.condF rfl (by first | rfl | assumption | (simp only [decide_eq_true_eq, decide_eq_false_iff_not, Bool.not_eq_true', Bool.not_eq_false', Bool.not_eq_eq_eq_not, Bool.not_true, Bool.not_false, beq_iff_eq, beq_eq_false_iff_ne, ne_eq, decide_eq_decide, eq_self, true_iff, iff_true, not_true_eq_false, not_false_eq_true]; first | done | omega)) ?_)
        refine Cd.draw [(0, 0, []), (1, 0, []), (2, 0, []), (3, 1, []), (4, 0, []), (5, 1, []), (6, 0, []), (7, 0, []), (8, 1, []), (9, 0, []), (10, 0, []), (11, 1, []), (12, 2, []), (13, 0, []), (14, 0, []), (15, 0, []), (16, 0, []), (17, 0, [])] (by kernel_rfl) (by kernel_rfl) (by simp only [picked, nth]; exact rfl) ?_
        repeat' (first | refine Ops.mv rfl rfl rfl rfl ?_ | refine Ops.nilP rfl rfl rfl rfl ?_ | refine Ops.fa0 rfl rfl rfl rfl ?_ | refine Ops.ld1 rfl rfl rfl rfl rfl ?_)
        refine Ops.call hask rfl (noPd rfl) rfl rfl rfl (fun v A' hR => ?_)
        obtain ⟨rfl, rfl⟩ := hR
        repeat' (first | refine Cd.seq ?_ | refine Cd.reg ?_ | refine Ops.nil ?_ | refine Ops.mv rfl rfl rfl rfl ?_ | refine Ops.asg rfl rfl rfl rfl ?_ | refine Ops.bin rfl rfl rfl rfl rfl ?_ | refine Ops.ext rfl rfl rfl rfl rfl ?_ | refine Cd.condT rfl rfl ?_ | refine Cd.condF rfl rfl ?_ | refine Cd.block ?_)
        refine Cd.draw [(0, 0, []), (1, 1, []), (2, 0, []), (3, 2, [1]), (4, 2, [])] (by kernel_rfl) (by kernel_rfl) (by simp only [picked, nth]; exact rfl) ?_
        repeat' (first | refine Ops.mv rfl rfl rfl rfl ?_ | refine Ops.ldN rfl rfl rfl rfl ?_)
        refine Ops.call (place_spec i (by omega)) rfl (by first | exact noPd rfl | (intro v A' hR i hi; obtain ⟨A2, hR, rfl⟩ := hR; (try obtain ⟨rfl, rfl⟩ := hR); (repeat (rcases List.mem_cons.1 hi with rfl | hi; · (first | exact Still.ld1 rfl rfl rfl rfl rfl | exact Still.ldN rfl rfl rfl rfl | exact Still.len rfl rfl rfl rfl rfl | exact Still.skip rfl rfl rfl | exact Still.ldRow1 rfl rfl rfl (by assumption) (by assumption) rfl rfl | exact Still.ldR rfl rfl rfl (by apply_assumption) rfl))); cases hi)) rfl rfl rfl (fun v A' hR => ?_)
        obtain ⟨rfl, rfl⟩ := hR
        skip
        refine Ops.call (hrep i (.slice da deeds.length dc)) rfl (noPd rfl) rfl rfl rfl (fun v A' hR => ?_)
        obtain ⟨wv2, WG2, rfl, hW2⟩ := hR
        obtain ⟨wa2, wc2, rfl⟩ := hW2.form
        skip
        exact Ops.nilN (inB (end0 rfl (fun _ h => h.split) ⟨own, d, used, _, deeds, _, _, G, WG2, DG, rfl, hK, hW2, hE, hJ⟩))
      by_cases h7 : nn = d.last + 1
      · rw [show askV (some d) lf ss nn = (3, ⟨#[]⟩) from by unfold askV; dsimp only; rw [if_neg h1, if_neg h5, if_neg h6, if_pos h7]] at hask
        obtain ⟨hn, hJ⟩ := newI hk1 h2 h4 h7
        have hal : d.life ≠ 0 ∧ d.last ≠ 1099511627776 := ⟨h2, by omega⟩
        rw [show answerC (some d) = 0 from by unfold answerC; dsimp only; rw [if_pos hal], show answerV (some d) (textB (deeds.length + 1)) = some { d with last := d.last + 1, reply := textB (deeds.length + 1) } from by unfold answerV; dsimp only; rw [if_pos hal]] at hans
        repeat' (first | refine Cd.seq ?_ | refine Cd.reg ?_ | refine Ops.nil ?_ | refine Ops.fa0 rfl rfl rfl rfl ?_ | refine Ops.ld1 rfl rfl rfl rfl rfl ?_ | refine Ops.bin rfl rfl rfl rfl rfl ?_ | refine Ops.box rfl rfl rfl rfl (noPd rfl) (fun b => ?_) | refine Cd.skip (Cd.next ?_) | refine Cd.condF rfl (by first | rfl | assumption | (simp only [decide_eq_true_eq, decide_eq_false_iff_not, Bool.not_eq_true', Bool.not_eq_false', Bool.not_eq_eq_eq_not, Bool.not_true, Bool.not_false, beq_iff_eq, beq_eq_false_iff_ne, ne_eq, decide_eq_decide, eq_self, true_iff, iff_true, not_true_eq_false, not_false_eq_true]; first | done | omega)) ?_)
        refine Cd.draw [(0, 0, []), (1, 0, []), (2, 0, []), (3, 1, []), (4, 0, []), (5, 1, []), (6, 0, []), (7, 0, []), (8, 1, []), (9, 0, []), (10, 0, []), (11, 1, []), (12, 2, []), (13, 0, []), (14, 0, []), (15, 0, []), (16, 0, []), (17, 0, [])] (by kernel_rfl) (by kernel_rfl) (by simp only [picked, nth]; exact rfl) ?_
        repeat' (first | refine Ops.mv rfl rfl rfl rfl ?_ | refine Ops.nilP rfl rfl rfl rfl ?_ | refine Ops.fa0 rfl rfl rfl rfl ?_ | refine Ops.ld1 rfl rfl rfl rfl rfl ?_)
        refine Ops.call hask rfl (noPd rfl) rfl rfl rfl (fun v A' hR => ?_)
        obtain ⟨rfl, rfl⟩ := hR
        repeat' (first | refine Cd.seq ?_ | refine Cd.reg ?_ | refine Ops.nil ?_ | refine Ops.mv rfl rfl rfl rfl ?_ | refine Ops.asg rfl rfl rfl rfl ?_ | refine Ops.fa0 rfl rfl rfl rfl ?_ | refine Ops.ld1 rfl rfl rfl rfl rfl ?_ | refine Ops.ldN rfl rfl rfl rfl ?_ | refine Ops.bin rfl rfl rfl rfl rfl ?_ | refine Ops.ext rfl rfl rfl rfl rfl ?_ | refine Cd.condT rfl rfl ?_ | refine Cd.condF rfl rfl ?_ | refine Cd.block ?_)
        refine Ops.call (hact hn (by omega) (by omega)) rfl (noPd rfl) rfl rfl rfl (fun v A' hR => ?_)
        obtain ⟨rfl, dv2, DG2, rfl, hE2⟩ := hR
        obtain ⟨da2, dc2, rfl⟩ := hE2.form
        repeat' (first | refine Cd.seq ?_ | refine Ops.asg rfl rfl rfl rfl ?_)
        refine Cd.draw [(0, 0, []), (1, 0, []), (2, 0, []), (3, 1, []), (4, 0, []), (5, 2, [3]), (6, 2, []), (7, 0, [])] (by kernel_rfl) (by kernel_rfl) (by simp only [picked, nth]; exact rfl) ?_
        repeat' (first | refine Ops.mv rfl rfl rfl rfl ?_ | refine Ops.nilP rfl rfl rfl rfl ?_ | refine Ops.fa0 rfl rfl rfl rfl ?_ | refine Ops.ld1 rfl rfl rfl rfl rfl ?_)
        refine Ops.call (text_spec (deeds.length + 1)) rfl (by first | exact noPd rfl | (intro v A' hR i hi; obtain ⟨A2, hR, rfl⟩ := hR; (try obtain ⟨rfl, rfl⟩ := hR); (repeat (rcases List.mem_cons.1 hi with rfl | hi; · (first | exact Still.ld1 rfl rfl rfl rfl rfl | exact Still.ldN rfl rfl rfl rfl | exact Still.len rfl rfl rfl rfl rfl | exact Still.skip rfl rfl rfl | exact Still.ldRow1 rfl rfl rfl (by assumption) (by assumption) rfl rfl | exact Still.ldR rfl rfl rfl (by apply_assumption) rfl))); cases hi)) rfl rfl rfl (fun v A' hR => ?_)
        obtain ⟨rfl, rfl⟩ := hR
        skip
        refine Ops.call hans rfl (noPd rfl) rfl rfl rfl (fun v A' hR => ?_)
        obtain ⟨rfl, G2, rfl, hK2⟩ := hR
        repeat' (first | refine Cd.reg ?_ | refine Ops.nil ?_ | refine Ops.mv rfl rfl rfl rfl ?_ | refine Ops.ldN rfl rfl rfl rfl ?_ | refine Ops.bin rfl rfl rfl rfl rfl ?_ | refine Cd.condF rfl rfl ?_ | refine Cd.skip (Cd.next ?_))
        refine Ops.call (hrep ((deeds.length + 1 : Nat) : Int) (.slice da2 (deeds ++ [(⟨ss, nn, ak⟩ : De)]).length dc2)) rfl (noPd rfl) rfl rfl rfl (fun v A' hR => ?_)
        obtain ⟨wv2, WG2, rfl, hW2⟩ := hR
        obtain ⟨wa2, wc2, rfl⟩ := hW2.form
        skip
        exact Ops.nilN (inB (end0 rfl (fun _ h => h.split) ⟨own, _, used, _, _, _, _, G2, WG2, DG2, rfl, hK2, hW2, hE2, hJ⟩))
      · rw [show askV (some d) lf ss nn = (0, ⟨#[]⟩) from by unfold askV; dsimp only; rw [if_neg h1, if_neg h5, if_neg h6, if_neg h7]] at hask
        repeat' (first | refine Cd.seq ?_ | refine Cd.reg ?_ | refine Ops.nil ?_ | refine Ops.fa0 rfl rfl rfl rfl ?_ | refine Ops.ld1 rfl rfl rfl rfl rfl ?_ | refine Ops.bin rfl rfl rfl rfl rfl ?_ | refine Ops.box rfl rfl rfl rfl (noPd rfl) (fun b => ?_) | refine Cd.skip (Cd.next ?_) | refine Cd.condF rfl (by first | rfl | assumption | (simp only [decide_eq_true_eq, decide_eq_false_iff_not, Bool.not_eq_true', Bool.not_eq_false', Bool.not_eq_eq_eq_not, Bool.not_true, Bool.not_false, beq_iff_eq, beq_eq_false_iff_ne, ne_eq, decide_eq_decide, eq_self, true_iff, iff_true, not_true_eq_false, not_false_eq_true]; first | done | omega)) ?_)
        refine Cd.draw [(0, 0, []), (1, 0, []), (2, 0, []), (3, 1, []), (4, 0, []), (5, 1, []), (6, 0, []), (7, 0, []), (8, 1, []), (9, 0, []), (10, 0, []), (11, 1, []), (12, 2, []), (13, 0, []), (14, 0, []), (15, 0, []), (16, 0, []), (17, 0, [])] (by kernel_rfl) (by kernel_rfl) (by simp only [picked, nth]; exact rfl) ?_
        repeat' (first | refine Ops.mv rfl rfl rfl rfl ?_ | refine Ops.nilP rfl rfl rfl rfl ?_ | refine Ops.fa0 rfl rfl rfl rfl ?_ | refine Ops.ld1 rfl rfl rfl rfl rfl ?_)
        refine Ops.call hask rfl (noPd rfl) rfl rfl rfl (fun v A' hR => ?_)
        obtain ⟨rfl, rfl⟩ := hR
        repeat' (first | refine Cd.seq ?_ | refine Cd.reg ?_ | refine Ops.nil ?_ | refine Ops.mv rfl rfl rfl rfl ?_ | refine Ops.asg rfl rfl rfl rfl ?_ | refine Ops.bin rfl rfl rfl rfl rfl ?_ | refine Ops.ext rfl rfl rfl rfl rfl ?_ | refine Cd.condF rfl rfl ?_ | refine Cd.block ?_)
        exact Cd.skip (inB (end0 rfl (fun _ h => h.split) ⟨own, d, used, way, deeds, _, _, G, WG, DG, rfl, hK, hW, hE, h.more⟩))

theorem caller_spec {k : Nat} {own : Int → Int} {aq : List Aq} {s : CS} {d : Dk} {life used asked : Int} {way : List Sd} {deeds : List De} (jb cn tn : Nat) (wv dv : Value) (DG : List Blk) (x : Sd)
    (h : JI k own aq s d life used asked way deeds) (hx : WayOk own aq life used deeds x) (ht : x.table = false) (hl : x.life = life) (hk : k ≤ 1048576) (hE : OwnE dv deeds DG) :
    Con Try.prog 48 #[ptr jb, .agg x.row.toArray] (JB jb cn tn life used asked wv dv :: (CalB cn s ++ DG))
      fun v A => A = JB jb cn tn life used asked wv dv :: (CalB cn (hearF s x.m).2 ++ DG) := by
  have hcal := h.cal
  have hdl := h.dlen
  obtain ⟨_, h3⟩ := h.hear hx ht hl
  have hhear := hear_F cn s x.m hcal
  generalize hq : hearF s x.m = q at hhear h3 ⊢
  obtain ⟨q1, q2⟩ := q
  dsimp only at hhear h3 ⊢
  obtain ⟨da, dc, rfl⟩ := hE.form
  clear hx
  obtain ⟨⟨kd, ss, nn, jj, bd, ix, ct, cd, bt, tx, pg⟩, tb, lf, ak, an⟩ := x
  dsimp only [Sd.row, Mg.row] at *
  refine Con.intro (vs := [_, _]) Try.func48 rfl Try.ntmps48 rfl (fun B => ?_)
  repeat' (first | refine Cd.seq ?_ | refine Cd.reg ?_ | refine Ops.box rfl rfl rfl rfl (noPd rfl) (fun b => ?_))
  refine Cd.draw [(0, 0, []), (1, 0, []), (2, 0, []), (3, 1, []), (5, 0, []), (6, 0, []), (7, 0, []), (8, 1, []), (9, 0, []), (10, 0, []), (4, 2, [8]), (11, 2, []), (12, 0, []), (13, 0, [])] (by kernel_rfl) (by kernel_rfl) (by simp only [picked, nth]; exact rfl) ?_
  repeat' (first | refine Ops.mv rfl rfl rfl rfl ?_ | refine Ops.nilP rfl rfl rfl rfl ?_ | refine Ops.fa0 rfl rfl rfl rfl ?_ | refine Ops.ld1 rfl rfl rfl rfl rfl ?_)
  refine Ops.call (session_spec cn s) rfl (by first | exact noPd rfl | (intro v A' hR i hi; obtain ⟨A2, hR, rfl⟩ := hR; (try obtain ⟨rfl, rfl⟩ := hR); (repeat (rcases List.mem_cons.1 hi with rfl | hi; · (first | exact Still.ld1 rfl rfl rfl rfl rfl | exact Still.ldN rfl rfl rfl rfl | exact Still.len rfl rfl rfl rfl rfl | exact Still.skip rfl rfl rfl | exact Still.ldRow1 rfl rfl rfl (by assumption) (by assumption) rfl rfl | exact Still.ldR rfl rfl rfl (by apply_assumption) rfl))); cases hi)) rfl rfl rfl (fun v A' hR => ?_)
  obtain ⟨rfl, rfl⟩ := hR
  skip
  refine Ops.call (waits_spec cn s) rfl (noPd rfl) rfl rfl rfl (fun v A' hR => ?_)
  obtain ⟨rfl, rfl⟩ := hR
  repeat' (first | refine Cd.seq ?_ | refine Ops.nil ?_ | refine Ops.asg rfl rfl rfl rfl ?_)
  refine Cd.draw [(0, 0, []), (1, 0, []), (2, 0, []), (3, 1, []), (4, 0, []), (5, 1, []), (6, 2, []), (7, 0, [])] (by kernel_rfl) (by kernel_rfl) (by simp only [picked, nth]; exact rfl) ?_
  repeat' (first | refine Ops.mv rfl rfl rfl rfl ?_ | refine Ops.nilP rfl rfl rfl rfl ?_ | refine Ops.fa0 rfl rfl rfl rfl ?_ | refine Ops.ld1 rfl rfl rfl rfl rfl ?_ | refine Ops.ldN rfl rfl rfl rfl ?_)
  refine Ops.call hhear rfl (noPd rfl) rfl rfl rfl (fun v A' hR => ?_)
  obtain ⟨rfl, rfl⟩ := hR
  by_cases h4 : q1 = 3
  · obtain ⟨h5, h6⟩ := h3 h4
    have hlt := (List.getElem?_eq_some_iff.1 h6).1
    obtain ⟨g, c2, spare, e1, rfl, hsp, hle⟩ := hE.some_ (by omega)
    injection e1 with p1 p2 p3
    subst p1; subst p3
    have hok := de_ok deeds
    have hx : (deeds.map De.row)[(an - 1).toNat]? = some [.int .i64 s.session, .int .i64 s.m.number, .int .i64 asked] := map_at h6
    repeat' (first | refine Cd.seq ?_ | refine Ops.nil ?_ | refine Ops.bin rfl rfl rfl rfl rfl ?_ | refine Cd.skip (Cd.next ?_) | refine Cd.condF rfl (by first | rfl | assumption | (simp only [decide_eq_true_eq, decide_eq_false_iff_not, Bool.not_eq_true', Bool.not_eq_false', Bool.not_eq_eq_eq_not, Bool.not_true, Bool.not_false, beq_iff_eq, beq_eq_false_iff_ne, ne_eq, decide_eq_decide, eq_self, true_iff, iff_true, not_true_eq_false, not_false_eq_true]; first | done | omega)) ?_)
    refine Cd.draw [(0, 0, []), (1, 1, []), (2, 0, []), (3, 0, []), (4, 0, []), (5, 1, []), (6, 0, []), (7, 0, []), (8, 0, []), (9, 1, []), (10, 1, []), (11, 0, []), (12, 0, []), (13, 0, []), (14, 0, []), (15, 0, []), (16, 0, []), (17, 1, []), (18, 0, []), (19, 1, []), (20, 0, []), (21, 0, []), (22, 1, []), (23, 0, []), (24, 0, []), (25, 0, []), (26, 0, []), (27, 0, []), (28, 1, []), (29, 0, []), (30, 0, []), (31, 0, [])] (by kernel_rfl) (by kernel_rfl) (by simp only [picked, nth]; exact rfl) ?_
    repeat' (first | refine Ops.nil ?_ | refine Ops.mv rfl rfl rfl rfl ?_ | refine Ops.nilP rfl rfl rfl rfl ?_ | refine Ops.fa0 rfl rfl rfl rfl ?_ | refine Ops.ld1 rfl rfl rfl rfl rfl ?_ | refine Ops.lenS rfl rfl rfl rfl ?_ | refine Ops.subI rfl rfl rfl rfl (by omega) (by omega) rfl ?_ | refine Ops.bin rfl rfl rfl rfl rfl ?_ | refine Ops.pickF rfl rfl rfl rfl rfl ?_ | refine Ops.bld rfl rfl rfl rfl ?_ | refine Cd.condF rfl rfl ?_ | refine Ops.ixa0 rfl rfl rfl rfl (by omega) (by omega) rfl ?_ | refine Ops.ldRow rfl rfl rfl (by assumption) (by assumption) rfl ?_ | ((fail_if_success refine Ops.probe rfl ?_); refine Ops.gF rfl rfl (by first | rfl | assumption | (simp only [decide_eq_true_eq, decide_eq_false_iff_not, Bool.not_eq_true', Bool.not_eq_false', Bool.not_eq_eq_eq_not, Bool.not_true, Bool.not_false, beq_iff_eq, beq_eq_false_iff_ne, ne_eq, decide_eq_decide, eq_self, true_iff, iff_true, not_true_eq_false, not_false_eq_true]; first | done | omega)) ?_))
    exact Cd.skip (end0 (A' := JB jb cn tn life used asked wv (.slice (some ⟨g, 0, none⟩) deeds.length dc) :: (CalB cn q2 ++ [(g, cl ((deeds.map De.row).flatten ++ spare) 114)])) rfl (fun _ h => h.split) rfl)
  · repeat' (first | refine Ops.nil ?_ | refine Ops.bin rfl rfl rfl rfl rfl ?_ | refine Cd.condT rfl (by first | rfl | assumption | (simp only [decide_eq_true_eq, decide_eq_false_iff_not, Bool.not_eq_true', Bool.not_eq_false', Bool.not_eq_eq_eq_not, Bool.not_true, Bool.not_false, beq_iff_eq, beq_eq_false_iff_ne, ne_eq, decide_eq_decide, eq_self, true_iff, iff_true, not_true_eq_false, not_false_eq_true]; first | done | omega)) ?_)
    exact Cd.ret (ret0 (A' := JB jb cn tn life used asked wv (.slice da deeds.length dc) :: (CalB cn q2 ++ DG)) rfl (fun _ h => h.split) rfl)
end Go.Proofs.Ytdfimjgbdipnjaa
