import Derived.Test.YtfghnepmbgbnoaaA14
namespace Go.Proofs.Ytfghnepmbgbnoaa
open Go Go.Sep Go.Proofs
set_option maxRecDepth 10000
set_option maxHeartbeats 4000000
set_option synthInstance.maxSize 2000
set_option linter.unusedSimpArgs false
set_option linter.unusedVariables false

/-- An auditor between two events. -/
@[reducible] def AuW (ab : Nat) (s : SA) (bv : Value) : List Blk := AuL ab s.ja s.jobs.length s.jc s.r bv s.JG (s.jobs.flatMap JR.G) s.chunks s.pieces (eents s.ends) (s.ends.flatMap EN.G) []
structure Clean (rb : Nat) (s : SA) : Prop where
  brok : s.brok = []
  ba : s.ba = none
  bc : s.bc = 0
  BG : s.BG = []
  rv : s.r.rv = .slice (some ⟨rb, 0, none⟩) 12 12
def SA.clear (s : SA) : SA := { s with brok := [], ba := none, bc := 0, BG := [] }
theorem SA.ok.clear {k tot : Nat} {s : SA} (h : s.ok k tot) : s.clear.ok k tot := ⟨h.oj, h.ojs, h.oe, Own.none, h.few, h.shn0, h.shn1⟩

/-- The same blocks, one behind the other. -/
@[reducible] def AuT (ab : Nat) (s : SA) (tl : List Blk) : List Blk :=
  AB ab s.ja s.jobs.length s.jc s.r (.slice s.ba s.brok.length s.bc) :: (s.JG ++ (s.jobs.flatMap JR.G ++ ((s.r.cm, pm (tents s.chunks)) :: (s.r.pn, pm (tents s.pieces)) :: (s.r.em, pm (eents s.ends)) :: (s.ends.flatMap EN.G ++ (s.BG ++ tl)))))
theorem aut_eq (ab : Nat) (s : SA) (tl : List Blk) : AuB ab s ++ tl = AuT ab s tl := by simp [AuB, AuT, AuL]
theorem aut_sat {B : Base} {w : World} {p : Blk} {ab : Nat} {s : SA} {tl : List Blk} (h : Sat B (p :: AuT ab s tl) w) : Sat B (p :: (AuB ab s ++ tl)) w := by rw [aut_eq]; exact h
@[reducible] def AuV (ab : Nat) (s : SA) (bv : Value) (tl : List Blk) : List Blk :=
  AB ab s.ja s.jobs.length s.jc s.r bv :: (s.JG ++ (s.jobs.flatMap JR.G ++ ((s.r.cm, pm (tents s.chunks)) :: (s.r.pn, pm (tents s.pieces)) :: (s.r.em, pm (eents s.ends)) :: (s.ends.flatMap EN.G ++ tl))))
theorem auv_sat {B : Base} {w : World} {ab : Nat} {s : SA} {bv : Value} {R G : List Blk} (h : Sat B (AuV ab s bv (R ++ G)) w) : Sat B ((AuW ab s bv ++ R) ++ G) w := by
  have : (AuW ab s bv ++ R) ++ G = AuV ab s bv (R ++ G) := by simp [AuW, AuV, AuL]
  rw [this]; exact h
theorem head_eq {s : SA} (e : Ev) : headF s.pure e = if s.r.sh = true ∧ e.kind ≠ 14 then ({ s.pure with sh := false }, brk 8 (decide (s.r.shn < s.jobs.length))) else (s.pure, []) := by
  unfold headF
  show (if s.r.sh = true ∧ e.kind ≠ 14 then ({ s.pure with sh := false }, brk 8 (decide (s.r.shn < ((s.jobs.map JR.j).length : Int)))) else (s.pure, [])) = _
  rw [List.length_map]

theorem event_spec (B0 : Base) (ab vb rb k tot : Nat) (s : SA) (bv : Value) (e : Ev) (h : s.ok k tot) (hcl : Clean rb s) (hev : EvOk B0 tot e) (hk : k ≤ 100000) :
    ConB Try.prog B0 16 #[ptr ab, .agg e.row.toArray] (AuW ab s bv ++ RB ab vb rb s.r.cm s.r.pn)
      fun v A => ∃ s' bv' G, A = (AuW ab s' bv' ++ RB ab vb rb s.r.cm s.r.pn) ++ G ∧ OwnI v (evF s.pure e).2 G ∧ s'.ok (k + 1) (tot + e.texts.length) ∧ Clean rb s' ∧ s'.pure = (evF s.pure e).1 ∧ s.r.same s'.r := by
  obtain ⟨c1, c2, c3, c4, c5⟩ := hcl
  have hhead := head_eq (s := s) e
  have hlist := all_list s.pure e _ rfl
  unfold evF
  generalize hcm : s.r.cm = cm
  generalize hpn : s.r.pn = pn
  generalize hem : s.r.em = em
  refine ConB.intro (vs := [_, _]) Try.func16 rfl Try.ntmps16 rfl (fun B hB => ?_)
  generalize hc1 : Code.seq (Code.seq (Code.region 2 _ _) _) _ = c1
  repeat' (first | refine Cd.seq ?_ | refine Cd.reg ?_ | refine Ops.nil ?_ | refine Ops.mv rfl rfl rfl rfl ?_ | refine Ops.asg rfl rfl rfl rfl ?_ | refine Ops.nilP rfl rfl rfl rfl ?_ | refine Ops.fa0 rfl rfl rfl rfl ?_ | refine Ops.box rfl rfl rfl rfl (noPd rfl) (fun b => ?_) | refine Ops.st1 rfl rfl rfl rfl rfl (noPd rfl) ?_)
  rename Nat => be
  subst hc1
  refine Cd.cut (σ := SA) (fun s1 => s1.ok k tot ∧ s1.pure = (headF s.pure e).1 ∧ s1.brok = (headF s.pure e).2 ∧ s1.r.cm = cm ∧ s1.r.pn = pn ∧ s1.r.em = em ∧ s1.r.rv = .slice (some ⟨rb, 0, none⟩) 12 12)
    (fun _ => [(0, ptr ab), (3, ptr be)]) (fun s1 => (be, cl e.row 39) :: (AuB ab s1 ++ RB ab vb rb cm pn)) ?_ (fun s1 hI => ?_)
  · rw [hhead]
    obtain ⟨jobs, ja, jc, JG, r, chunks, pieces, ends, brok, ba, bc, BG⟩ := s
    dsimp only at c1 c2 c3 c4 c5
    subst c1; subst c2; subst c3; subst c4
    obtain ⟨great, cm', pn', em', ad, sh, shn, rv⟩ := r
    dsimp only at c5 hcm hpn hem
    subst c5; subst hcm; subst hpn; subst hem
    obtain ⟨oj, ojs, oe, ob, few, s0, s1⟩ := h
    dsimp only [SA.pure] at *
    cases sh with
    | false =>
      rw [if_neg (fun h => by cases h.1)]
      repeat' (first | refine Cd.seq ?_ | refine Cd.reg ?_ | refine Ops.nil ?_ | refine Ops.mv rfl rfl rfl rfl ?_ | refine Ops.nilP rfl rfl rfl rfl ?_ | refine Ops.fa0 rfl rfl rfl rfl ?_ | refine Ops.ld1 rfl rfl rfl rfl rfl ?_ | refine Ops.pickF rfl rfl rfl rfl rfl ?_ | refine Ops.gSkip rfl rfl rfl ?_ | refine Cd.condF rfl rfl ?_)
      exact Cd.skip (meet_end (Q := fun _ _ _ => True) (⟨jobs, ja, jc, JG, ⟨great, cm', pn', em', ad, false, shn, .slice (some ⟨rb, 0, none⟩) 12 12⟩, chunks, pieces, ends, [], none, 0, []⟩ : SA) ⟨⟨oj, ojs, oe, ob, few, s0, s1⟩, rfl, rfl, rfl, rfl, rfl, rfl⟩ ⟨rfl, rfl, trivial⟩ (fun w h => h.split))
    | true =>
      by_cases h14 : e.kind = 14
      · rw [if_neg (fun h => h.2 h14)]
        repeat' (first | refine Cd.seq ?_ | refine Cd.reg ?_ | refine Ops.nil ?_ | refine Ops.mv rfl rfl rfl rfl ?_ | refine Ops.nilP rfl rfl rfl rfl ?_ | refine Ops.fa0 rfl rfl rfl rfl ?_ | refine Ops.ld1 rfl rfl rfl rfl rfl ?_ | refine Ops.bin rfl rfl rfl rfl rfl ?_ | refine Ops.pickT rfl rfl rfl rfl rfl ?_ | refine Cd.condF rfl (by first | rfl | assumption | (simp only [decide_eq_true_eq, decide_eq_false_iff_not, Bool.not_eq_true', Bool.not_eq_false', Bool.not_eq_eq_eq_not, Bool.not_true, Bool.not_false, beq_iff_eq, beq_eq_false_iff_ne, ne_eq, decide_eq_decide, eq_self, true_iff, iff_true, not_true_eq_false, not_false_eq_true]; first | done | omega)) ?_)
        exact Cd.skip (meet_end (Q := fun _ _ _ => True) (⟨jobs, ja, jc, JG, ⟨great, cm', pn', em', ad, true, shn, .slice (some ⟨rb, 0, none⟩) 12 12⟩, chunks, pieces, ends, [], none, 0, []⟩ : SA) ⟨⟨oj, ojs, oe, ob, few, s0, s1⟩, rfl, rfl, rfl, rfl, rfl, rfl⟩ ⟨rfl, rfl, trivial⟩ (fun w h => h.split))
      · rw [if_pos ⟨rfl, h14⟩]
        repeat' (first | refine Cd.seq ?_ | refine Cd.reg ?_ | refine Ops.nil ?_ | refine Ops.mv rfl rfl rfl rfl ?_ | refine Ops.nilP rfl rfl rfl rfl ?_ | refine Ops.fa0 rfl rfl rfl rfl ?_ | refine Ops.ld1 rfl rfl rfl rfl rfl ?_ | refine Ops.bin rfl rfl rfl rfl rfl ?_ | refine Ops.pickT rfl rfl rfl rfl rfl ?_ | refine Cd.condT rfl (by first | rfl | assumption | (simp only [decide_eq_true_eq, decide_eq_false_iff_not, Bool.not_eq_true', Bool.not_eq_false', Bool.not_eq_eq_eq_not, Bool.not_true, Bool.not_false, beq_iff_eq, beq_eq_false_iff_ne, ne_eq, decide_eq_decide, eq_self, true_iff, iff_true, not_true_eq_false, not_false_eq_true]; first | done | omega)) ?_)
        refine Cd.draw [(0, 0, []), (1, 0, []), (2, 0, []), (3, 0, []), (4, 1, []), (5, 0, []), (6, 0, []), (7, 0, []), (8, 1, []), (9, 1, []), (10, 0, []), (11, 2, [])] (by kernel_rfl) (by kernel_rfl) (by simp only [picked, nth]; exact rfl) ?_
        repeat' (first | refine Ops.mv rfl rfl rfl rfl ?_ | refine Ops.nilP rfl rfl rfl rfl ?_ | refine Ops.fa0 rfl rfl rfl rfl ?_ | refine Ops.ld1 rfl rfl rfl rfl rfl ?_ | refine Ops.lenS rfl rfl rfl rfl ?_ | refine Ops.bin rfl rfl rfl rfl rfl ?_)
        refine Ops.call (breaks_spec ab ja jobs.length jc ⟨great, cm', pn', em', ad, true, shn, .slice (some ⟨rb, 0, none⟩) 12 12⟩ none 0 [] [] 8 (decide (shn < (jobs.length : Int))) Own.none (by simp)) rfl (noPd rfl) rfl rfl rfl (fun v A' hR => ?_)
        obtain ⟨ba2, bc2, BG2, rfl, hB2⟩ := hR
        rw [List.nil_append] at hB2 ⊢
        repeat' (first | refine Cd.reg ?_ | refine Ops.nil ?_ | refine Ops.mv rfl rfl rfl rfl ?_ | refine Ops.nilP rfl rfl rfl rfl ?_ | refine Ops.fa0 rfl rfl rfl rfl ?_ | refine Ops.st1 rfl rfl rfl rfl rfl (noPd rfl) ?_)
        exact Ops.nilN (meet_end (Q := fun _ _ _ => True) (⟨jobs, ja, jc, JG, ⟨great, cm', pn', em', ad, false, shn, .slice (some ⟨rb, 0, none⟩) 12 12⟩, chunks, pieces, ends, brk 8 (decide (shn < (jobs.length : Int))), ba2, bc2, BG2⟩ : SA) ⟨⟨oj, ojs, oe, hB2, few, s0, s1⟩, rfl, rfl, rfl, rfl, rfl, rfl⟩ ⟨rfl, rfl, trivial⟩ (fun w h => aut_sat h.split))
  obtain ⟨ok1, hp1, hb1, hcm1, hpn1, hem1, hrv1⟩ := hI
  have hsame : s.r.same s1.r := ⟨by rw [hcm1, hcm], by rw [hpn1, hpn], by rw [hem1, hem], by rw [hrv1, c5]⟩
  have hhl := head_list s.pure e
  have hbl1 : s1.brok.length ≤ 1 := by
    rw [hb1]
    rcases hhl with q | ⟨q, _⟩ <;> rw [q] <;> simp
  have hrules := fun i hi => rule_at B0 ab vb rb k tot cm pn e hev hk i hi
  clear hhead h hhl
  rw [show headF s.pure e = (s1.pure, s1.brok) from Prod.ext hp1.symm hb1.symm] at hlist ⊢
  clear hp1 hb1
  dsimp only at hlist ⊢
  have hrok := rules_ok ab vb cm pn
  repeat' (first | refine Cd.seq ?_ | refine Cd.reg ?_ | refine Ops.mv rfl rfl rfl rfl ?_ | refine Ops.nilP rfl rfl rfl rfl ?_ | refine Ops.fa0 rfl rfl rfl rfl ?_ | refine Ops.ld1 rfl rfl rfl rfl rfl ?_)
  rw [hrv1]
  repeat' (first | refine Ops.nil ?_ | refine Ops.mv rfl rfl rfl rfl ?_ | refine Ops.lenS rfl rfl rfl rfl ?_ | refine Cd.block ?_)
  refine Cd.loopK (σ := Nat × SA) (fun q => q.1 ≤ 12 ∧ ((e.kind ∉ kinds.take q.1 ∧ q.2 = s1) ∨ (e.kind ∈ kinds.take q.1 ∧ q.2.ok (k + 1) (tot + e.texts.length) ∧ q.2.pure = (actF s1.pure e).1 ∧ q.2.brok = s1.brok ++ (actF s1.pure e).2 ∧ s1.r.same q.2.r)))
    (fun q => [(0, ptr ab), (3, ptr be), (37, .slice (some ⟨rb, 0, none⟩) 12 12), (38, .int .i64 12), (39, .int .i64 q.1)]) (fun q => (be, cl e.row 39) :: (AuB ab q.2 ++ RB ab vb rb cm pn)) (fun q => 12 - q.1) (0, s1)
    ⟨Nat.zero_le _, .inl ⟨by simp, rfl⟩⟩ ⟨rfl, rfl, rfl, rfl, rfl, trivial⟩ (fun w h => h) (fun q hI => ?_)
  obtain ⟨i, s2⟩ := q
  obtain ⟨hi, hI⟩ := hI
  dsimp only at hi hI ⊢
  by_cases hil : i < 12
  · have hil' : (i : Int) < 12 := by omega
    obtain ⟨K, f, fi, ca, hrow, hK, hfn, hact⟩ := hrules i hil
    have hrow' : (rules ab vb cm pn)[(i : Int).toNat]? = some [.int .i64 K, .func (.func f) fi.toArray ca.toArray] := by rw [Int.toNat_natCast]; exact hrow
    have htk : kinds.take (i + 1) = kinds.take i ++ [K] := by
      obtain ⟨h1, rfl⟩ := List.getElem?_eq_some_iff.1 hK
      rw [List.take_succ_eq_append_getElem h1]
    by_cases hke : K = e.kind
    · have hnot : e.kind ∉ kinds.take i := fun hm => by
        have hnd := kinds_nodup
        rw [← List.take_append_drop (i + 1) kinds, htk, List.nodup_append] at hnd
        have := (List.nodup_append.1 hnd.1).2.2 e.kind hm K (by simp)
        exact this hke.symm
      obtain ⟨_, rfl⟩ : e.kind ∉ kinds.take i ∧ s2 = s1 := by
        rcases hI with h | h
        · exact h
        · exact absurd h.1 hnot
      have hc := hact s2 hcm1 hpn1 ok1 (by omega) hke
      rw [hcm1, hpn1] at hc
      repeat' (first | refine Cd.seq ?_ | refine Cd.reg ?_ | refine Ops.nil ?_ | refine Ops.fa0 rfl rfl rfl rfl ?_ | refine Ops.ld1 rfl rfl rfl rfl rfl ?_ | refine Ops.ldN rfl rfl rfl rfl ?_ | refine Ops.bin rfl rfl rfl rfl rfl ?_ | refine Ops.alloc rfl rfl rfl (noPd rfl) (fun b => ?_) | refine Ops.stN rfl rfl rfl rfl rfl rfl (noPd rfl) ?_ | refine Cd.block ?_ | refine Cd.skip (Cd.next ?_) | refine Ops.ixa0 rfl rfl rfl rfl (by omega) (by omega) rfl ?_ | refine Ops.ldRow rfl rfl rfl (by assumption) (by assumption) rfl ?_ | refine Cd.condT rfl (by first | rfl | assumption | (simp only [decide_eq_true_eq, decide_eq_false_iff_not, Bool.not_eq_true', Bool.not_eq_false', Bool.not_eq_eq_eq_not, Bool.not_true, Bool.not_false, beq_iff_eq, beq_eq_false_iff_ne, ne_eq, decide_eq_decide, eq_self, true_iff, iff_true, not_true_eq_false, not_false_eq_true]; first | done | omega)) ?_)
      refine Ops.callVB hc hB rfl (noPd rfl) rfl rfl rfl rfl (fun v A' hR => ?_)
      obtain ⟨s3, rfl, h1, h2, h3, h4⟩ := hR
      rw [hcm1, hpn1]
      repeat' (first | refine Ops.nilN (inB (Cd.next ?_)) | refine Cd.reg ?_ | refine Ops.mv rfl rfl rfl rfl ?_ | refine Ops.addI rfl rfl rfl rfl (by omega) (by omega) rfl ?_)
      exact Ops.nilN (round_end ((i + 1, s3) : Nat × SA) ⟨by show i + 1 ≤ 12; omega, .inr ⟨by show e.kind ∈ kinds.take (i + 1); rw [htk, hke]; simp, h1, h2, h3, h4⟩⟩ (by show 12 - (i + 1) < 12 - i; omega) ⟨rfl, rfl, rfl, rfl, rfl, trivial⟩ (fun w h => h.split))
    · have hne : ¬ K = e.kind := hke
      have hmem : e.kind ∈ kinds.take (i + 1) ↔ e.kind ∈ kinds.take i := by
        rw [htk, List.mem_append, List.mem_singleton]
        exact ⟨fun h => h.resolve_right fun h => hke h.symm, .inl⟩
      repeat' (first | refine Cd.seq ?_ | refine Cd.reg ?_ | refine Ops.nil ?_ | refine Ops.mv rfl rfl rfl rfl ?_ | refine Ops.fa0 rfl rfl rfl rfl ?_ | refine Ops.ld1 rfl rfl rfl rfl rfl ?_ | refine Ops.addI rfl rfl rfl rfl (by omega) (by omega) rfl ?_ | refine Ops.bin rfl rfl rfl rfl rfl ?_ | refine Ops.alloc rfl rfl rfl (noPd rfl) (fun b => ?_) | refine Ops.stN rfl rfl rfl rfl rfl rfl (noPd rfl) ?_ | refine Cd.block ?_ | refine Cd.skip (Cd.next ?_) | refine Cd.skip (Cd.next (Q' := fun _ _ _ => True) ?_) | refine Ops.ixa0 rfl rfl rfl rfl (by omega) (by omega) rfl ?_ | refine Ops.ldRow rfl rfl rfl (by assumption) (by assumption) rfl ?_ | refine Cd.condT rfl (by first | rfl | assumption | (simp only [decide_eq_true_eq, decide_eq_false_iff_not, Bool.not_eq_true', Bool.not_eq_false', Bool.not_eq_eq_eq_not, Bool.not_true, Bool.not_false, beq_iff_eq, beq_eq_false_iff_ne, ne_eq, decide_eq_decide, eq_self, true_iff, iff_true, not_true_eq_false, not_false_eq_true]; first | done | omega)) ?_ | refine Cd.condF rfl (by first | rfl | assumption | (simp only [decide_eq_true_eq, decide_eq_false_iff_not, Bool.not_eq_true', Bool.not_eq_false', Bool.not_eq_eq_eq_not, Bool.not_true, Bool.not_false, beq_iff_eq, beq_eq_false_iff_ne, ne_eq, decide_eq_decide, eq_self, true_iff, iff_true, not_true_eq_false, not_false_eq_true]; first | done | omega)) ?_)
      exact Ops.nilN (round_end ((i + 1, s2) : Nat × SA) ⟨by show i + 1 ≤ 12; omega, by
        show (e.kind ∉ kinds.take (i + 1) ∧ _) ∨ (e.kind ∈ kinds.take (i + 1) ∧ _)
        rw [hmem]; exact hI⟩ (by show 12 - (i + 1) < 12 - i; omega) ⟨rfl, rfl, rfl, rfl, rfl, trivial⟩ (fun w h => h.split))
  · obtain rfl : i = 12 := by omega
    have hil' : ¬ ((12 : Nat) : Int) < 12 := by omega
    have hend : s2.ok (k + 1) (tot + e.texts.length) ∧ s2.pure = (actF s1.pure e).1 ∧ s2.brok = s1.brok ++ (actF s1.pure e).2 ∧ s1.r.same s2.r := by
      rcases hI with ⟨h1, rfl⟩ | ⟨_, h⟩
      · rw [act_none (show e.kind ∉ kinds from h1)]
        exact ⟨ok1.mono (Nat.le_succ _) (Nat.le_add_right _ _), rfl, by simp, rfl, rfl, rfl, rfl⟩
      · exact h
    clear hI
    obtain ⟨h1, h2, h3, h4⟩ := hend
    rw [← h3] at hlist ⊢
    rw [← h2]
    have hob := h1.ob
    have hlen12 : s2.brok.length ≤ 12 := by
      rcases hlist with h | h
      · have := nodup_few h.1 h.2; omega
      · rw [h]; decide
    have hsame2 : s.r.same s2.r := ⟨h4.1.trans hsame.1, h4.2.1.trans hsame.2.1, h4.2.2.1.trans hsame.2.2.1, h4.2.2.2.trans hsame.2.2.2⟩
    have hcl2 : Clean rb s2.clear := ⟨rfl, rfl, rfl, rfl, by show s2.r.rv = _; rw [h4.2.2.2, hrv1]⟩
    repeat' (first | refine Cd.seq ?_ | refine Cd.reg ?_ | refine Ops.mv rfl rfl rfl rfl ?_ | refine Ops.nilP rfl rfl rfl rfl ?_ | refine Ops.fa0 rfl rfl rfl rfl ?_ | refine Ops.ld1 rfl rfl rfl rfl rfl ?_ | refine Ops.bin rfl rfl rfl rfl rfl ?_ | refine Cd.condF rfl rfl ?_ | refine Cd.exit (Cd.next (Q' := fun _ _ _ => True) ?_))
    refine Ops.call (sort_spec (.slice s2.ba s2.brok.length s2.bc) s2.brok s2.BG hob hlen12) rfl (noPd rfl) rfl rfl rfl (fun v A' hR => ?_)
    obtain ⟨ys, hO, hperm, hsort⟩ := hR
    repeat' (first | refine Cd.seq ?_ | refine Cd.reg ?_ | refine Ops.mv rfl rfl rfl rfl ?_ | refine Ops.nilP rfl rfl rfl rfl ?_ | refine Ops.fa0 rfl rfl rfl rfl ?_ | refine Ops.ld1 rfl rfl rfl rfl rfl ?_)
    rcases hlist with ⟨hn, h8⟩ | h88
    · obtain ⟨hlt, hys⟩ := sorted_of hperm hsort hn h8
      refine Ops.call (compact_id (.slice s2.ba s2.brok.length s2.bc) ys A' hO hlt (by rw [hperm.length_eq]; omega)) rfl (noPd rfl) rfl rfl rfl (fun v A2 hR => ?_)
      obtain ⟨rfl, rfl⟩ := hR
      repeat' (first | refine Ops.nil ?_ | refine Ops.asg rfl rfl rfl rfl ?_)
      exact Cd.ret (ret1 (A' := (AuW ab s2.clear (.slice s2.ba s2.brok.length s2.bc) ++ RB ab vb rb cm pn) ++ A2) rfl (Res.tmp rfl) (fun w h => auv_sat (s := s2) (h.split : Sat _ (AuV ab s2 (.slice s2.ba s2.brok.length s2.bc) (RB ab vb rb cm pn ++ A2)) w))
        ⟨s2.clear, _, A2, rfl, by rw [← hys]; exact hO, h1.clear, hcl2, rfl, hsame2⟩)
    · obtain rfl : ys = [8, 8] := perm_two (by rw [← h88]; exact hperm)
      refine Ops.call (compact_two (.slice s2.ba s2.brok.length s2.bc) 8 A' hO) rfl (noPd rfl) rfl rfl rfl (fun v A2 hR => ?_)
      obtain ⟨va, vc, rfl⟩ := hR.form
      repeat' (first | refine Ops.nil ?_ | refine Ops.asg rfl rfl rfl rfl ?_)
      exact Cd.ret (ret1 (A' := (AuW ab s2.clear (.slice s2.ba s2.brok.length s2.bc) ++ RB ab vb rb cm pn) ++ A2) rfl (Res.tmp rfl) (fun w h => auv_sat (s := s2) (h.split : Sat _ (AuV ab s2 (.slice s2.ba s2.brok.length s2.bc) (RB ab vb rb cm pn ++ A2)) w))
        ⟨s2.clear, _, A2, rfl, by rw [h88]; exact hR, h1.clear, hcl2, rfl, hsame2⟩)
end Go.Proofs.Ytfghnepmbgbnoaa
