import Derived.Test.YtfghnepmbgbnoaaB5
namespace Go.Proofs.Ytfghnepmbgbnoaa
open Go Go.Sep Go.Proofs
set_option maxRecDepth 10000
set_option maxHeartbeats 16000000
set_option synthInstance.maxSize 2000
set_option linter.unusedSimpArgs false
set_option linter.unusedVariables false

def LogOk (PL : List Blk) (tot : Nat) (x : RJ) : Prop := x.log.length ≤ tot ∧ ∃ G, OwnT (.slice x.la x.log.length x.lc) x.log G ∧ ∀ p ∈ G, p ∈ PL
theorem LogOk.sin {PL : List Blk} {tot : Nat} {x : RJ} (h : LogOk PL tot x) {B : Base} (hG : Holds B PL) : SIn B x.la x.log := by
  obtain ⟨_, G, h1, h2⟩ := h
  exact h1.sin fun p hp => hG p (h2 p hp)
theorem LogOk.next {PL LG : List Blk} {jobs : List RJ} {t t' : Nat} {x : RJ} (h : ∀ y ∈ jobs, LogOk PL t y) (hk : Keep jobs t' LG x) (ht : t ≤ t') : LogOk (PL ++ LG) t' x := by
  rcases hk with ⟨y, hy, h1, h2, h3⟩ | ⟨h1, h2, h3⟩ | ⟨h1, h2⟩
  · obtain ⟨g1, G, g2, g3⟩ := h y hy
    unfold LogOk
    rw [← h1, ← h2, ← h3]
    exact ⟨by omega, G, g2, fun p hp => List.mem_append_left _ (g3 p hp)⟩
  · unfold LogOk
    rw [h1, h2, h3]
    exact ⟨Nat.zero_le _, [], Own.none, fun p hp => by cases hp⟩
  · exact ⟨h1, LG, h2, fun p hp => List.mem_append_right _ hp⟩
structure RS where
  i : Nat
  s : RBook
  PL : List Blk
  outl : List (Int × Int)
  oa : Option Addr
  oc : Nat
  OG : List Blk
theorem OwnF.form' {sv : Value} {l : List (Int × Int)} {G : List Blk} (h : OwnF sv l G) : ∃ a c, sv = .slice a l.length c := by
  obtain ⟨a, c, h⟩ := Own.form h
  exact ⟨a, c, by rw [h, List.length_map]⟩
theorem OwnI.grow {v : Value} {xs ys : List Int} {G : List Blk} (h : Own 3 1 v (xs.map irow ++ ys.map irow) G) : OwnI v (xs ++ ys) G := by
  unfold OwnI; rw [List.map_append]; exact h

theorem rall_spec (B0 : Base) (a : Option Addr) (c : Nat) (l : List Ev) (hL : LsOk B0 a l) :
    ConB Try.prog B0 11 #[.slice a l.length c] [] fun v A => (∃ sv, v = .tuple #[sv, .int .i64 (allF l).2]) ∧ A = [] := by
  have hfew := hL.few
  have htot := hL.tot
  refine ConB.intro (vs := [_]) Try.func11 rfl Try.ntmps11 rfl (fun B hB => ?_)
  by_cases hbig : 65536 < l.length
  · have hbig' : (65536 : Int) < l.length := by omega
    have he : (allF l).2 = 210 := by unfold allF; rw [if_pos hbig]
    repeat' (first | refine Cd.seq ?_ | refine Cd.reg ?_ | refine Ops.nil ?_ | refine Ops.mv rfl rfl rfl rfl ?_ | refine Ops.asg rfl rfl rfl rfl ?_ | refine Ops.lenS rfl rfl rfl rfl ?_ | refine Ops.bin rfl rfl rfl rfl rfl ?_ | refine Cd.condT rfl (by first | rfl | assumption | (simp only [decide_eq_true_eq, decide_eq_false_iff_not, Bool.not_eq_true', Bool.not_eq_false', Bool.not_eq_eq_eq_not, Bool.not_true, Bool.not_false, beq_iff_eq, beq_eq_false_iff_ne, ne_eq, decide_eq_decide, eq_self, true_iff, iff_true, not_true_eq_false, not_false_eq_true]; first | done | omega)) ?_)
    exact Cd.ret (ret2 (A' := []) rfl (Res.tmp rfl) (Res.tmp rfl) (fun _ h => h.split) ⟨⟨_, by rw [he]⟩, rfl⟩)
  have hbig' : ¬ (65536 : Int) < l.length := by omega
  have hLB := hL.ext hB
  generalize hB1 : B.plain = B1 at hB hLB ⊢
  repeat' (first | refine Cd.seq ?_ | refine Cd.reg ?_ | refine Ops.nil ?_ | refine Ops.mv rfl rfl rfl rfl ?_ | refine Ops.asg rfl rfl rfl rfl ?_ | refine Ops.lenS rfl rfl rfl rfl ?_ | refine Ops.bin rfl rfl rfl rfl rfl ?_ | refine Cd.block ?_ | refine Cd.skip (Cd.next ?_) | refine Cd.condF rfl (by first | rfl | assumption | (simp only [decide_eq_true_eq, decide_eq_false_iff_not, Bool.not_eq_true', Bool.not_eq_false', Bool.not_eq_eq_eq_not, Bool.not_true, Bool.not_false, beq_iff_eq, beq_eq_false_iff_ne, ne_eq, decide_eq_decide, eq_self, true_iff, iff_true, not_true_eq_false, not_false_eq_true]; first | done | omega)) ?_)
  refine Cd.loopK (fun i : Nat => i ≤ l.length ∧ ∀ x ∈ l.take i, mayE x = true) (fun i => [(0, .slice a l.length c), (4, .int .i64 i)]) (fun _ => []) (fun i => l.length - i) 0 ⟨Nat.zero_le _, fun x hx => by cases hx⟩ ⟨rfl, rfl, trivial⟩ (fun w h => h) (fun i hi => ?_)
  obtain ⟨hi, hms⟩ := hi
  by_cases hil : i < l.length
  · have hil' : (i : Int) < l.length := by omega
    obtain ⟨x, hx⟩ : ∃ x, l[i]? = some x := ⟨_, List.getElem?_eq_getElem hil⟩
    obtain ⟨b0, off0, rfl, hrd⟩ := hLB.vin i x hx
    have hrw : ∀ A j u, x.row[j]? = some u → Rd B1 A b0 (off0 + (i : Int).toNat * 13 + j) u := fun A j u hu => by rw [Int.toNat_natCast]; exact hrd A j u hu
    clear hrd
    have htk : l.take (i + 1) = l.take i ++ [x] := by
      obtain ⟨h1, rfl⟩ := List.getElem?_eq_some_iff.1 hx
      rw [List.take_succ_eq_append_getElem h1]
    repeat' (first | refine Cd.seq ?_ | refine Cd.reg ?_ | refine Ops.nil ?_ | refine Ops.mv rfl rfl rfl rfl ?_ | refine Ops.lenS rfl rfl rfl rfl ?_ | refine Ops.bin rfl rfl rfl rfl rfl ?_ | refine Cd.block ?_ | refine Cd.skip (Cd.next ?_) | refine Ops.ixa rfl rfl rfl rfl (by omega) (by omega) rfl ?_ | refine Cd.condT rfl (by first | rfl | assumption | (simp only [decide_eq_true_eq, decide_eq_false_iff_not, Bool.not_eq_true', Bool.not_eq_false', Bool.not_eq_eq_eq_not, Bool.not_true, Bool.not_false, beq_iff_eq, beq_eq_false_iff_ne, ne_eq, decide_eq_decide, eq_self, true_iff, iff_true, not_true_eq_false, not_false_eq_true]; first | done | omega)) ?_)
    refine Ops.ldRN (r := x.row) rfl rfl rfl rfl (hrw _) rfl ?_
    skip
    refine Ops.call (rmay_spec x) rfl (noPd rfl) rfl rfl rfl (fun v A' hR => ?_)
    obtain ⟨rfl, rfl⟩ := hR
    cases hmx : mayE x
    · have he : (allF l).2 = 211 := by
        unfold allF
        rw [if_neg hbig, if_pos]
        exact List.any_eq_true.2 ⟨x, List.mem_of_getElem? hx, by rw [hmx]; rfl⟩
      repeat' (first | refine Cd.seq ?_ | refine Cd.reg ?_ | refine Ops.nil ?_ | refine Ops.mv rfl rfl rfl rfl ?_ | refine Ops.asg rfl rfl rfl rfl ?_ | refine Ops.un rfl rfl rfl rfl ?_ | refine Cd.condT rfl rfl ?_)
      exact Cd.ret (ret2 (A' := []) rfl (Res.tmp rfl) (Res.tmp rfl) (fun _ h => h.split) ⟨⟨_, by rw [he]⟩, rfl⟩)
    · repeat' (first | refine Cd.seq ?_ | refine Cd.reg ?_ | refine Ops.nil ?_ | refine Ops.mv rfl rfl rfl rfl ?_ | refine Ops.asg rfl rfl rfl rfl ?_ | refine Ops.addI rfl rfl rfl rfl (by omega) (by omega) rfl ?_ | refine Ops.un rfl rfl rfl rfl ?_ | refine Cd.condF rfl rfl ?_ | refine Cd.skip (Cd.next (Q' := fun _ _ _ => True) ?_))
      exact Ops.nilN (round_end (i + 1) ⟨by show i + 1 ≤ l.length; omega, fun y hy => by
        rw [htk] at hy
        rcases List.mem_append.1 hy with hy | hy
        · exact hms y hy
        · obtain rfl := List.mem_singleton.1 hy; exact hmx⟩ (by show l.length - (i + 1) < l.length - i; omega) ⟨rfl, rfl, trivial⟩ (fun w h => h.split))
  obtain rfl : i = l.length := by omega
  have hil' : ¬ ((l.length : Nat) : Int) < l.length := by omega
  rw [List.take_length] at hms
  have he : (allF l).2 = 0 := by
    unfold allF
    rw [if_neg hbig, if_neg]
    intro hc
    obtain ⟨x, hx, hb⟩ := List.any_eq_true.1 hc
    rw [hms x hx] at hb; cases hb
  repeat' (first | refine Cd.seq ?_ | refine Cd.reg ?_ | refine Ops.nil ?_ | refine Ops.mv rfl rfl rfl rfl ?_ | refine Ops.lenS rfl rfl rfl rfl ?_ | refine Ops.bin rfl rfl rfl rfl rfl ?_ | refine Cd.exit (Cd.next (Q' := fun _ _ _ => True) ?_) | refine Cd.condF rfl (by first | rfl | assumption | (simp only [decide_eq_true_eq, decide_eq_false_iff_not, Bool.not_eq_true', Bool.not_eq_false', Bool.not_eq_eq_eq_not, Bool.not_true, Bool.not_false, beq_iff_eq, beq_eq_false_iff_ne, ne_eq, decide_eq_decide, eq_self, true_iff, iff_true, not_true_eq_false, not_false_eq_true]; first | done | omega)) ?_)
  refine Ops.call rnew_spec rfl (noPd rfl) rfl rfl rfl (fun v A' hR => ?_)
  obtain ⟨bd, bg, pg, rfl, rfl⟩ := hR
  repeat' (first | refine Cd.seq ?_ | refine Cd.reg ?_ | refine Ops.nil ?_ | refine Ops.asg rfl rfl rfl rfl ?_ | refine Ops.bs0 rfl rfl rfl (noPd rfl) (fun b => ?_) | refine Cd.block ?_)
  rename Nat => ob
  refine Cd.loopK (σ := RS) (fun q => q.i ≤ l.length ∧ q.s.ok q.i ∧ (∀ x ∈ q.s.jobs, LogOk q.PL (totT (l.take q.i)) x) ∧ OwnF (.slice q.oa q.outl.length q.oc) q.outl q.OG ∧ q.outl.length ≤ 8 * q.i)
    (fun q => [(0, .slice a l.length c), (6, ptr bd), (7, .slice q.oa q.outl.length q.oc), (8, .int .i64 q.i)]) (fun q => RBL bd bg pg q.s ++ (q.PL ++ q.OG)) (fun q => l.length - q.i)
    ⟨0, ⟨[], none, 0, [], 0, 0, false, [], none, 0, [], [], none, 0, [], [], none, 0, [], List.replicate 9 0, List.replicate 9 0⟩, [], [], some ⟨ob, 0, none⟩, 0, [(ob, cl [] 30)]⟩
    ⟨Nat.zero_le _, ⟨Own.none, Nat.zero_le _, Own.none, Nat.zero_le _, Own.none, Nat.zero_le _, Own.none, Nat.zero_le _, rfl, rfl, Int.le_refl _, (by decide : (0 : Int) ≤ 8)⟩, (fun x hx => by cases hx), Own.empty, Nat.zero_le _⟩
    ⟨rfl, rfl, rfl, rfl, trivial⟩ (fun w h => (h.split : Sat _ ([BKa bd (.slice none 0 0) (.int .i64 0) (.slice none 0 0) none 0 0 (.slice none 0 0) bg pg (.bool false) (.int .i64 0), IBk bg (List.replicate 9 0), IBk pg (List.replicate 9 0)] ++ [(ob, cl [] 30)]) w)) (fun q hq => ?_)
  obtain ⟨i, s, PL, outl, oa, oc, OG⟩ := q
  obtain ⟨hi, hok, hlog, hOF, hol⟩ := hq
  dsimp only at hi hok hlog hOF hol ⊢
  by_cases hil : i < l.length
  case neg =>
    obtain rfl : i = l.length := by omega
    repeat' (first | refine Cd.seq ?_ | refine Cd.reg ?_ | refine Ops.nil ?_ | refine Ops.mv rfl rfl rfl rfl ?_ | refine Ops.asg rfl rfl rfl rfl ?_ | refine Ops.lenS rfl rfl rfl rfl ?_ | refine Ops.bin rfl rfl rfl rfl rfl ?_ | refine Cd.exit (Cd.next (Q' := fun _ _ _ => True) ?_) | refine Cd.condF rfl (by first | rfl | assumption | (simp only [decide_eq_true_eq, decide_eq_false_iff_not, Bool.not_eq_true', Bool.not_eq_false', Bool.not_eq_eq_eq_not, Bool.not_true, Bool.not_false, beq_iff_eq, beq_eq_false_iff_ne, ne_eq, decide_eq_decide, eq_self, true_iff, iff_true, not_true_eq_false, not_false_eq_true]; first | done | omega)) ?_)
    exact Cd.ret (ret2 (A' := []) rfl (Res.tmp rfl) (Res.tmp rfl) (fun _ h => h.split) ⟨⟨_, by rw [he]⟩, rfl⟩)
  have hil' : (i : Int) < l.length := by omega
  obtain ⟨e, hx⟩ : ∃ x, l[i]? = some x := ⟨_, List.getElem?_eq_getElem hil⟩
  have hmem := List.mem_of_getElem? hx
  obtain ⟨b0, off0, rfl, hrd⟩ := hLB.vin i e hx
  have hrw : ∀ A j u, e.row[j]? = some u → Rd B1 A b0 (off0 + (i : Int).toNat * 13 + j) u := fun A j u hu => by rw [Int.toNat_natCast]; exact hrd A j u hu
  clear hrd
  obtain ⟨ht1, ht2⟩ := totT_take l i hx
  have hme := hms e hmem
  have hse := hLB.sin e hmem
  obtain ⟨jobs, ja, jc, JG, gr, shn, sh, em, ea, ec, EG, wr, wa, wc, WG, en, na, nc, NG, bs, ps⟩ := s
  dsimp only at hlog ⊢
  generalize hc15 : Code.seq (Code.seq (Code.region 15 _ _) _) _ = c15
  repeat' (first | refine Cd.seq ?_ | refine Cd.reg ?_ | refine Ops.nil ?_ | refine Ops.mv rfl rfl rfl rfl ?_ | refine Ops.asg rfl rfl rfl rfl ?_ | refine Ops.lenS rfl rfl rfl rfl ?_ | refine Ops.bin rfl rfl rfl rfl rfl ?_ | refine Ops.bs0 rfl rfl rfl (noPd rfl) (fun b => ?_) | refine Cd.block ?_ | refine Cd.skip (Cd.next ?_) | refine Cd.condT rfl (by first | rfl | assumption | (simp only [decide_eq_true_eq, decide_eq_false_iff_not, Bool.not_eq_true', Bool.not_eq_false', Bool.not_eq_eq_eq_not, Bool.not_true, Bool.not_false, beq_iff_eq, beq_eq_false_iff_ne, ne_eq, decide_eq_decide, eq_self, true_iff, iff_true, not_true_eq_false, not_false_eq_true]; first | done | omega)) ?_)
  rename Nat => xb
  subst hc15
  refine Cd.cut (σ := Bool × Value × List Int × List Blk) (fun s => OwnI s.2.1 s.2.2.1 s.2.2.2 ∧ s.2.2.1.length ≤ 1) (fun s => [(0, .slice (some ⟨b0, off0, none⟩) l.length c), (6, ptr bd), (7, .slice oa outl.length oc), (8, .int .i64 i), (9, s.2.1)])
    (fun s => RBk bd bg pg ja jobs.length jc gr ea em.length ec wa wr.length wc na en.length nc s.1 shn JG EG WG NG bs ps ++ (s.2.2.2 ++ (PL ++ OG))) ?_ (fun s hs => ?_)
  · have hr0 : ∀ A, Rd B1 A b0 (off0 + (i : Int).toNat * 13 + 0) (.int .i64 e.kind) := fun A => hrw A 0 _ rfl
    clear hrw
    cases sh
    · repeat' (first | refine Cd.seq ?_ | refine Cd.reg ?_ | refine Ops.nil ?_ | refine Ops.mv rfl rfl rfl rfl ?_ | refine Ops.nilP rfl rfl rfl rfl ?_ | refine Ops.fa0 rfl rfl rfl rfl ?_ | refine Ops.ld1 rfl rfl rfl rfl rfl ?_ | refine Ops.pickF rfl rfl rfl rfl rfl ?_ | refine Ops.gSkip rfl rfl rfl ?_ | refine Cd.condF rfl rfl ?_)
      exact Cd.skip (meet_end (Q := fun _ _ _ => True) (false, _, [], [(xb, cl [] 3)]) ⟨Own.empty, Nat.zero_le _⟩ ⟨rfl, rfl, rfl, rfl, rfl, trivial⟩ (fun w h => h.split))
    · by_cases h14 : e.kind = 14
      · repeat' (first | refine Cd.seq ?_ | refine Cd.reg ?_ | refine Ops.nil ?_ | refine Ops.mv rfl rfl rfl rfl ?_ | refine Ops.nilP rfl rfl rfl rfl ?_ | refine Ops.fa0 rfl rfl rfl rfl ?_ | refine Ops.fa rfl rfl rfl rfl ?_ | refine Ops.ld1 rfl rfl rfl rfl rfl ?_ | refine Ops.bin rfl rfl rfl rfl rfl ?_ | refine Ops.pickT rfl rfl rfl rfl rfl ?_ | refine Ops.ixa rfl rfl rfl rfl (by omega) (by omega) rfl ?_ | refine Ops.ldR rfl rfl rfl (by apply_assumption) rfl ?_ | refine Cd.condF rfl (by first | rfl | assumption | (simp only [decide_eq_true_eq, decide_eq_false_iff_not, Bool.not_eq_true', Bool.not_eq_false', Bool.not_eq_eq_eq_not, Bool.not_true, Bool.not_false, beq_iff_eq, beq_eq_false_iff_ne, ne_eq, decide_eq_decide, eq_self, true_iff, iff_true, not_true_eq_false, not_false_eq_true]; first | done | omega)) ?_)
        exact Cd.skip (meet_end (Q := fun _ _ _ => True) (true, _, [], [(xb, cl [] 3)]) ⟨Own.empty, Nat.zero_le _⟩ ⟨rfl, rfl, rfl, rfl, rfl, trivial⟩ (fun w h => h.split))
      · repeat' (first | refine Cd.seq ?_ | refine Cd.reg ?_ | refine Ops.nil ?_ | refine Ops.mv rfl rfl rfl rfl ?_ | refine Ops.nilP rfl rfl rfl rfl ?_ | refine Ops.fa0 rfl rfl rfl rfl ?_ | refine Ops.fa rfl rfl rfl rfl ?_ | refine Ops.ld1 rfl rfl rfl rfl rfl ?_ | refine Ops.bin rfl rfl rfl rfl rfl ?_ | refine Ops.pickT rfl rfl rfl rfl rfl ?_ | refine Ops.ixa rfl rfl rfl rfl (by omega) (by omega) rfl ?_ | refine Ops.ldR rfl rfl rfl (by apply_assumption) rfl ?_ | refine Cd.condT rfl (by first | rfl | assumption | (simp only [decide_eq_true_eq, decide_eq_false_iff_not, Bool.not_eq_true', Bool.not_eq_false', Bool.not_eq_eq_eq_not, Bool.not_true, Bool.not_false, beq_iff_eq, beq_eq_false_iff_ne, ne_eq, decide_eq_decide, eq_self, true_iff, iff_true, not_true_eq_false, not_false_eq_true]; first | done | omega)) ?_)
        refine Cd.draw [(0, 0, []), (1, 0, []), (2, 0, []), (3, 0, []), (4, 1, []), (5, 0, []), (6, 0, []), (7, 0, []), (8, 1, []), (9, 1, []), (10, 0, []), (11, 2, []), (12, 2, [])] (by kernel_rfl) (by kernel_rfl) (by simp only [picked, nth]; exact rfl) ?_
        repeat' (first | refine Ops.mv rfl rfl rfl rfl ?_ | refine Ops.nilP rfl rfl rfl rfl ?_ | refine Ops.fa0 rfl rfl rfl rfl ?_ | refine Ops.ld1 rfl rfl rfl rfl rfl ?_ | refine Ops.lenS rfl rfl rfl rfl ?_ | refine Ops.bin rfl rfl rfl rfl rfl ?_)
        refine Ops.call (rule_spec _ [] _ 8 _ Own.empty (by decide)) rfl (noPd rfl) rfl rfl rfl (fun v X1 hR => ?_)
        obtain ⟨ys1, hO1, hy1⟩ := hR
        obtain ⟨a1, c1, rfl⟩ := OwnI.form hO1
        repeat' (first | refine Cd.reg ?_ | refine Ops.nil ?_ | refine Ops.mv rfl rfl rfl rfl ?_ | refine Ops.nilP rfl rfl rfl rfl ?_ | refine Ops.fa0 rfl rfl rfl rfl ?_ | refine Ops.st1 rfl rfl rfl rfl rfl (noPd rfl) ?_ | refine Ops.asgE rfl (noPd rfl) rfl rfl rfl ?_)
        exact Ops.nilN (meet_end (Q := fun _ _ _ => True) (false, _, ys1, X1) ⟨hO1, hy1⟩ ⟨rfl, rfl, rfl, rfl, rfl, trivial⟩ (fun w h => h.split))
  obtain ⟨sh2, bv, bl, BG⟩ := s
  obtain ⟨hOb, hbl⟩ := hs
  dsimp only at hOb hbl ⊢
  obtain ⟨ba, bc, rfl⟩ := OwnI.form hOb
  have hok2 : RBook.ok i ⟨jobs, ja, jc, JG, gr, shn, sh2, em, ea, ec, EG, wr, wa, wc, WG, en, na, nc, NG, bs, ps⟩ := ⟨hok.oj, hok.few, hok.oe, hok.le, hok.ow, hok.lw, hok.on_, hok.ln, hok.hbs, hok.hps, hok.s0, hok.s8⟩
  clear hok
  have hcon := ConB.lend (P := Try.prog) (B1 := B1) (G := PL) fun B2 hx2 hG => rone_spec B2 bd bg pg i (totT (l.take i)) ⟨jobs, ja, jc, JG, gr, shn, sh2, em, ea, ec, EG, wr, wa, wc, WG, en, na, nc, NG, bs, ps⟩ e hok2 (fun x hx => ⟨(hlog x hx).sin hG, (hlog x hx).1⟩) hme (hse.ext hx2) (by omega) (by omega)
  have hcon : ConB Try.prog B1 21 _ (RBk bd bg pg ja jobs.length jc gr ea em.length ec wa wr.length wc na en.length nc sh2 shn JG EG WG NG bs ps ++ PL) _ := hcon
  repeat' (first | refine Cd.seq ?_ | refine Cd.reg ?_ | refine Ops.mv rfl rfl rfl rfl ?_ | refine Ops.ixa rfl rfl rfl rfl (by omega) (by omega) rfl ?_)
  refine Ops.ldRN (r := e.row) rfl rfl rfl rfl (hrw _) rfl ?_
  skip
  refine Ops.callB hcon (Ext.refl _) rfl (noPd rfl) rfl rfl rfl (fun v A' hR => ?_)
  obtain ⟨A2, ⟨s2, LG, ys, XG, rfl, hok3, hOx, hys, hkeep⟩, rfl⟩ := hR
  clear hcon
  obtain ⟨xa, xc, rfl⟩ := OwnI.form hOx
  have hlb : (bl.map irow).length = bl.length := List.length_map _
  have hly : (ys.map irow).length = ys.length := List.length_map _
  skip
  refine Ops.appS (rows := bl.map irow) (news := ys.map irow) hOb (Reads.own hOx) (by rw [hlb, hly]; omega) (by rw [hlb, hly]; omega) rfl rfl rfl rfl rfl (noPd rfl) rfl (fun v G2 hG2 => ?_)
  have hOn := OwnI.grow hG2
  clear hG2
  obtain ⟨na2, nc2, rfl⟩ := OwnI.form hOn
  have hbn : (bl ++ ys).length ≤ 9 := by rw [List.length_append]; omega
  generalize bl ++ ys = bn at hOn hbn ⊢
  have hlog2 : ∀ x ∈ s2.jobs, LogOk (PL ++ LG) (totT (l.take (i + 1))) x := fun x hx => by
    rw [← ht1]
    exact LogOk.next hlog (hkeep x hx) (Nat.le_add_right _ _)
  clear hkeep hlog hok2 hOx hOb
  obtain ⟨jobs, ja, jc, JG, gr, shn, sh, em, ea, ec, EG, wr, wa, wc, WG, en, na, nc, NG, bs, ps⟩ := s2
  dsimp only at hlog2 ⊢
  repeat' (first | refine Cd.seq ?_ | refine Cd.reg ?_ | refine Ops.nil ?_ | refine Ops.asg rfl rfl rfl rfl ?_ | refine Cd.block ?_)
  refine Cd.loopK (σ := Nat × List (Int × Int) × Option Addr × Nat × List Blk) (fun p => (1 ≤ p.1 ∧ p.1 ≤ 9) ∧ OwnF (.slice p.2.2.1 p.2.1.length p.2.2.2.1) p.2.1 p.2.2.2.2 ∧ p.2.1.length ≤ 8 * i + (p.1 - 1))
    (fun p => [(0, .slice (some ⟨b0, off0, none⟩) l.length c), (6, ptr bd), (7, .slice p.2.2.1 p.2.1.length p.2.2.2.1), (8, .int .i64 i), (9, .slice na2 bn.length nc2), (10, .int .i64 p.1)])
    (fun p => RBk bd bg pg ja jobs.length jc gr ea em.length ec wa wr.length wc na en.length nc sh shn JG EG WG NG bs ps ++ ((PL ++ LG) ++ (G2 ++ p.2.2.2.2))) (fun p => 9 - p.1) (1, outl, oa, oc, OG) ⟨⟨Nat.le_refl _, (by decide : 1 ≤ 9)⟩, hOF, hol⟩
    ⟨rfl, rfl, rfl, rfl, rfl, rfl, trivial⟩ (fun w h => h.split) (fun p hp => ?_)
  obtain ⟨n, out2, oa2, oc2, OG2⟩ := p
  obtain ⟨⟨hn1, hn9⟩, hOF2, hol2⟩ := hp
  dsimp only at hn1 hn9 hOF2 hol2 ⊢
  by_cases hn : n = 9
  · subst hn
    repeat' (first | refine Cd.seq ?_ | refine Cd.reg ?_ | refine Ops.nil ?_ | refine Ops.mv rfl rfl rfl rfl ?_ | refine Ops.asg rfl rfl rfl rfl ?_ | refine Ops.addI rfl rfl rfl rfl (by omega) (by omega) rfl ?_ | refine Ops.bin rfl rfl rfl rfl rfl ?_ | refine Cd.condF rfl rfl ?_ | refine Cd.exit (Cd.next (Q' := fun _ _ _ => True) ?_))
    exact Ops.nilN (round_end (⟨i + 1, ⟨jobs, ja, jc, JG, gr, shn, sh, em, ea, ec, EG, wr, wa, wc, WG, en, na, nc, NG, bs, ps⟩, PL ++ LG, out2, oa2, oc2, OG2⟩ : RS) ⟨by show i + 1 ≤ l.length; omega, hok3, hlog2, hOF2, by show out2.length ≤ 8 * (i + 1); omega⟩ (by show l.length - (i + 1) < l.length - i; omega) ⟨rfl, rfl, rfl, rfl, trivial⟩ (fun w h => h.split))
  have hn8 : (n : Int) ≤ 8 := by omega
  have hlf : (out2.map frow).length = out2.length := List.length_map _
  repeat' (first | refine Cd.seq ?_ | refine Cd.reg ?_ | refine Ops.nil ?_ | refine Ops.mv rfl rfl rfl rfl ?_ | refine Ops.asg rfl rfl rfl rfl ?_ | refine Ops.bin rfl rfl rfl rfl rfl ?_ | refine Cd.block ?_ | refine Cd.skip (Cd.next ?_) | refine Cd.condT rfl (by first | rfl | assumption | (simp only [decide_eq_true_eq, decide_eq_false_iff_not, Bool.not_eq_true', Bool.not_eq_false', Bool.not_eq_eq_eq_not, Bool.not_true, Bool.not_false, beq_iff_eq, beq_eq_false_iff_ne, ne_eq, decide_eq_decide, eq_self, true_iff, iff_true, not_true_eq_false, not_false_eq_true]; first | done | omega)) ?_)
  refine Cd.loopK (fun k : Nat => k ≤ bn.length)
    (fun k => [(0, .slice (some ⟨b0, off0, none⟩) l.length c), (6, ptr bd), (7, .slice oa2 out2.length oc2), (8, .int .i64 i), (9, .slice na2 bn.length nc2), (10, .int .i64 n), (11, .int .i64 k)])
    (fun _ => RBk bd bg pg ja jobs.length jc gr ea em.length ec wa wr.length wc na en.length nc sh shn JG EG WG NG bs ps ++ ((PL ++ LG) ++ (G2 ++ OG2))) (fun k => bn.length - k) 0 (Nat.zero_le _)
    ⟨rfl, rfl, rfl, rfl, rfl, rfl, rfl, trivial⟩ (fun w h => h.split) (fun k hk => ?_)
  by_cases hkl : k < bn.length
  · have hkl' : (k : Int) < bn.length := by omega
    obtain ⟨y, hy⟩ : ∃ y, bn[k]? = some y := ⟨_, List.getElem?_eq_getElem hkl⟩
    obtain ⟨g, c3, spare, hna, rfl, hsp, hle⟩ := Own.some_ hOn (by rw [List.length_map]; omega)
    rw [List.length_map] at hna
    injection hna with q1 q2 q3
    subst q1; subst q3
    have hokn := irows_ok bn
    have hrow : (bn.map irow)[(k : Int).toNat]? = some [.int .i64 y] := by rw [Int.toNat_natCast, List.getElem?_map, hy]; rfl
    by_cases hyn : y = (n : Int)
    · repeat' (first | refine Cd.seq ?_ | refine Cd.reg ?_ | refine Ops.nil ?_ | refine Ops.mv rfl rfl rfl rfl ?_ | refine Ops.lenS rfl rfl rfl rfl ?_ | refine Ops.bin rfl rfl rfl rfl rfl ?_ | refine Ops.bld rfl rfl rfl rfl ?_ | refine Ops.bs1 rfl rfl rfl rfl rfl rfl rfl (noPd rfl) (fun b => ?_) | refine Cd.block ?_ | refine Cd.skip (Cd.next ?_) | refine Ops.ixa0 rfl rfl rfl rfl (by omega) (by omega) rfl ?_ | refine Ops.ldCell rfl rfl rfl (by assumption) (by assumption) rfl ?_ | refine Cd.condT rfl (by first | rfl | assumption | (simp only [decide_eq_true_eq, decide_eq_false_iff_not, Bool.not_eq_true', Bool.not_eq_false', Bool.not_eq_eq_eq_not, Bool.not_true, Bool.not_false, beq_iff_eq, beq_eq_false_iff_ne, ne_eq, decide_eq_decide, eq_self, true_iff, iff_true, not_true_eq_false, not_false_eq_true]; first | done | omega)) ?_)
      refine Ops.app1 (rows := out2.map frow) hOF2 (by rw [hlf]; omega) (by rw [hlf]; omega) rfl rfl rfl rfl (by rfl) (by rfl) rfl (noPd rfl) rfl (fun v G' hG' => ?_)
      have hG3 : OwnF v (out2 ++ [((n : Int), (i : Int))]) G' := by
        unfold OwnF; rw [List.map_append]; exact hG'
      clear hG'
      obtain ⟨a', c', rfl⟩ := hG3.form'
      repeat' (first | refine Cd.reg ?_ | refine Ops.nil ?_ | refine Ops.mv rfl rfl rfl rfl ?_ | refine Ops.asg rfl rfl rfl rfl ?_ | refine Ops.addI rfl rfl rfl rfl (by omega) (by omega) rfl ?_ | refine Cd.exit (Cd.next (Q' := fun _ _ _ => True) ?_))
      exact Ops.nilN (round_end (n + 1, out2 ++ [((n : Int), (i : Int))], a', c', G') ⟨⟨by show 1 ≤ n + 1; omega, by show n + 1 ≤ 9; omega⟩, hG3, by show (out2 ++ [_]).length ≤ 8 * i + (n + 1 - 1); rw [List.length_append, List.length_singleton]; omega⟩ (by show 9 - (n + 1) < 9 - n; omega) ⟨rfl, rfl, rfl, rfl, rfl, rfl, trivial⟩ (fun w h => h.split))
    · repeat' (first | refine Cd.seq ?_ | refine Cd.reg ?_ | refine Ops.nil ?_ | refine Ops.mv rfl rfl rfl rfl ?_ | refine Ops.asg rfl rfl rfl rfl ?_ | refine Ops.lenS rfl rfl rfl rfl ?_ | refine Ops.addI rfl rfl rfl rfl (by omega) (by omega) rfl ?_ | refine Ops.bin rfl rfl rfl rfl rfl ?_ | refine Cd.block ?_ | refine Cd.skip (Cd.next ?_) | refine Cd.skip (Cd.next (Q' := fun _ _ _ => True) ?_) | refine Ops.ixa0 rfl rfl rfl rfl (by omega) (by omega) rfl ?_ | refine Ops.ldCell rfl rfl rfl (by assumption) (by assumption) rfl ?_ | refine Cd.condT rfl (by first | rfl | assumption | (simp only [decide_eq_true_eq, decide_eq_false_iff_not, Bool.not_eq_true', Bool.not_eq_false', Bool.not_eq_eq_eq_not, Bool.not_true, Bool.not_false, beq_iff_eq, beq_eq_false_iff_ne, ne_eq, decide_eq_decide, eq_self, true_iff, iff_true, not_true_eq_false, not_false_eq_true]; first | done | omega)) ?_ | refine Cd.condF rfl (by first | rfl | assumption | (simp only [decide_eq_true_eq, decide_eq_false_iff_not, Bool.not_eq_true', Bool.not_eq_false', Bool.not_eq_eq_eq_not, Bool.not_true, Bool.not_false, beq_iff_eq, beq_eq_false_iff_ne, ne_eq, decide_eq_decide, eq_self, true_iff, iff_true, not_true_eq_false, not_false_eq_true]; first | done | omega)) ?_)
      exact Ops.nilN (round_end (k + 1) (by show k + 1 ≤ bn.length; omega) (by show bn.length - (k + 1) < bn.length - k; omega) ⟨rfl, rfl, rfl, rfl, rfl, rfl, rfl, trivial⟩ (fun w h => h.split))
  · obtain rfl : k = bn.length := by omega
    have hkl' : ¬ ((bn.length : Nat) : Int) < bn.length := by omega
    repeat' (first | refine Cd.seq ?_ | refine Cd.reg ?_ | refine Ops.nil ?_ | refine Ops.mv rfl rfl rfl rfl ?_ | refine Ops.asg rfl rfl rfl rfl ?_ | refine Ops.lenS rfl rfl rfl rfl ?_ | refine Ops.addI rfl rfl rfl rfl (by omega) (by omega) rfl ?_ | refine Ops.bin rfl rfl rfl rfl rfl ?_ | refine Cd.exit (Cd.next (Q' := fun _ _ _ => True) ?_) | refine Cd.condF rfl (by first | rfl | assumption | (simp only [decide_eq_true_eq, decide_eq_false_iff_not, Bool.not_eq_true', Bool.not_eq_false', Bool.not_eq_eq_eq_not, Bool.not_true, Bool.not_false, beq_iff_eq, beq_eq_false_iff_ne, ne_eq, decide_eq_decide, eq_self, true_iff, iff_true, not_true_eq_false, not_false_eq_true]; first | done | omega)) ?_)
    exact Ops.nilN (round_end (n + 1, out2, oa2, oc2, OG2) ⟨⟨by show 1 ≤ n + 1; omega, by show n + 1 ≤ 9; omega⟩, hOF2, by show out2.length ≤ 8 * i + (n + 1 - 1); omega⟩ (by show 9 - (n + 1) < 9 - n; omega) ⟨rfl, rfl, rfl, rfl, rfl, rfl, trivial⟩ (fun w h => h.split))
end Go.Proofs.Ytfghnepmbgbnoaa
