import Derived.Test.YtkcmjgjfodipfaaGreatA19
import Derived.Test.YtkcmjgjfodipfaaGreatA11
import Derived.Test.YtkcmjgjfodipfaaGreatA09
namespace Go.Proofs.YtkcmjgjfodipfaaGreat
open Go Go.Sep Go.Proofs
set_option maxRecDepth 10000
set_option maxHeartbeats 40000000
set_option synthInstance.maxSize 2000
set_option linter.unusedSimpArgs false
set_option linter.unusedVariables false
/-! what a state shows -/
theorem clipT_spec (a : Option Addr) (n c : Nat) (h : n ≤ c) : Con Tryz.prog 209 #[.slice a n c] [] fun v A => v = .slice a n n ∧ A = [] := by
  refine Con.intro (vs := [_]) Tryz.func209 rfl Tryz.ntmps209 rfl (fun B => ?_)
  repeat' (first | refine Cd.seq ?_ | refine Cd.reg ?_ | refine Ops.mv rfl rfl rfl rfl ?_ | refine Ops.asg rfl rfl rfl rfl ?_ | refine Ops.lenS rfl rfl rfl rfl ?_)
  refine Ops.slHM rfl rfl rfl rfl rfl (by omega) (by omega) (by omega) rfl ?_
  rw [Int.toNat_natCast]
  repeat' (first | refine Ops.nil ?_ | refine Ops.asg rfl rfl rfl rfl ?_)
  exact Cd.ret (ret1 (A' := []) rfl (Res.tmp rfl) (fun _ h => h.split) ⟨rfl, rfl⟩)
theorem clipR_spec (a : Option Addr) (n c : Nat) (h : n ≤ c) : Con Tryz.prog 207 #[.slice a n c] [] fun v A => v = .slice a n n ∧ A = [] := by
  refine Con.intro (vs := [_]) Tryz.func207 rfl Tryz.ntmps207 rfl (fun B => ?_)
  repeat' (first | refine Cd.seq ?_ | refine Cd.reg ?_ | refine Ops.mv rfl rfl rfl rfl ?_ | refine Ops.asg rfl rfl rfl rfl ?_ | refine Ops.lenS rfl rfl rfl rfl ?_)
  refine Ops.slHM rfl rfl rfl rfl rfl (by omega) (by omega) (by omega) rfl ?_
  rw [Int.toNat_natCast]
  repeat' (first | refine Ops.nil ?_ | refine Ops.asg rfl rfl rfl rfl ?_)
  exact Cd.ret (ret1 (A' := []) rfl (Res.tmp rfl) (fun _ h => h.split) ⟨rfl, rfl⟩)
theorem clipP_spec (a : Option Addr) (n c : Nat) (h : n ≤ c) : Con Tryz.prog 131 #[.slice a n c] [] fun v A => v = .slice a n n ∧ A = [] := by
  refine Con.intro (vs := [_]) Tryz.func131 rfl Tryz.ntmps131 rfl (fun B => ?_)
  repeat' (first | refine Cd.seq ?_ | refine Cd.reg ?_ | refine Ops.mv rfl rfl rfl rfl ?_ | refine Ops.asg rfl rfl rfl rfl ?_ | refine Ops.lenS rfl rfl rfl rfl ?_)
  refine Ops.slHM rfl rfl rfl rfl rfl (by omega) (by omega) (by omega) rfl ?_
  rw [Int.toNat_natCast]
  repeat' (first | refine Ops.nil ?_ | refine Ops.asg rfl rfl rfl rfl ?_)
  exact Cd.ret (ret1 (A' := []) rfl (Res.tmp rfl) (fun _ h => h.split) ⟨rfl, rfl⟩)
/-- A row's slice, cut to its length. -/
theorem own_cut {E sz n c : Nat} {a : Option Addr} {rows : List (List Value)} {G : List Blk} (h : Own E sz (.slice a n c) rows G) : n ≤ c ∧ Rs E sz (.slice a n n) rows G := by
  rcases h.2 with ⟨h1, h2, h3⟩ | ⟨g, c', sp, h1, h2, h3, h4⟩
  · injection h1 with h1 h4 h5
    subst h1; subst h4; subst h5
    exact ⟨Nat.le_refl _, h.1, .inl ⟨rfl, h2, h3⟩⟩
  · injection h1 with h1 h5 h6
    subst h1; subst h5; subst h6
    exact ⟨h4, h.1, .inr ⟨g, rows.length, sp, rfl, h2⟩⟩
structure Pl where
  r : Rw
  prog : ByteArray
  l : Lg
@[reducible] def Pl.row (p : Pl) : List Value := [.int .i64 p.r.job, .int .i64 p.r.status, .int .i64 p.r.att, .int .i64 p.r.badge, .int .i64 p.r.node, .int .i64 p.r.life, .int .i64 p.r.rcode, .int .u64 p.r.rbits, .string p.prog, .slice p.l.a p.l.txs.length p.l.c]
@[reducible] def Pl.pure (p : Pl) : Rw × ByteArray × List ByteArray := (p.r, p.prog, p.l.txs)
theorem place_spec (B0 : Base) (sb : Nat) (s : StP) (hS : StIn B0 sb s) (ok : StOk s) (i : Nat) (r : Rw) (p : ByteArray) (t : List ByteArray) (hr : s.rows[i]? = some r) (hp : s.progs[i]? = some p) (ht : s.logs[i]? = some t) :
    ConB Tryz.prog B0 130 #[ptr sb, .agg r.row.toArray] [] fun v A => ∃ x : Lg, v = .agg (Pl.row ⟨r, p, x⟩).toArray ∧ A = x.G ∧ x.txs = t ∧ RsT (.slice x.a x.txs.length x.c) x.txs x.G := by
  obtain ⟨qb, ra, rc, pa, pc, la, lc, ls, h1, h2, h3, h4, h5, h6⟩ := hS
  obtain ⟨o1, o2, o3, o4, o5, o6, o7⟩ := ok
  have hj := o7 i r hr
  have hil := (List.getElem?_eq_some_iff.1 hr).1
  refine ConB.intro (vs := [_, _]) Tryz.func130 rfl Tryz.ntmps130 rfl (fun B hB => ?_)
  have hQ := hB.holds h1
  have h3 := h3.ext hB
  have h4 := h4.ext hB
  have hc2 : ∀ A, Rd B.plain A sb 2 (.slice pa s.progs.length pc) := hQ.cell (List.mem_cons_self ..) rfl
  have hc3 : ∀ A, Rd B.plain A sb 3 (.slice la s.logs.length lc) := hQ.cell (List.mem_cons_self ..) rfl
  obtain ⟨pb, po, rfl, hpr⟩ := h3 i (trow p) (by rw [List.getElem?_map, hp]; rfl)
  obtain ⟨x, hx, rfl⟩ : ∃ x, ls[i]? = some x ∧ x.txs = t := by
    rw [← h6, List.getElem?_map] at ht
    cases hl : ls[i]? with
    | none => rw [hl] at ht; cases ht
    | some x => rw [hl] at ht; injection ht with ht; exact ⟨x, rfl, ht⟩
  obtain ⟨lb, lo, rfl, hlr⟩ := h4 i x.row (by rw [List.getElem?_map, hx]; rfl)
  have hxm := h5 x (List.mem_of_getElem? hx)
  have hxl := o6 x.txs (by rw [← h6]; exact List.mem_map_of_mem (List.mem_of_getElem? hx))
  have hcp : ∀ A, Rd B.plain A pb (po + (r.job - 1).toNat * 1) (.string p) := fun A => by rw [hj, show ((i : Int) + 1 - 1).toNat = i from by omega]; exact hpr A 0 _ rfl
  have hcl : ∀ A, Rd B.plain A lb (lo + (r.job - 1).toNat * 1) (.slice x.a x.txs.length x.c) := fun A => by rw [hj, show ((i : Int) + 1 - 1).toNat = i from by omega]; exact hlr A 0 _ rfl
  clear hpr hlr
  repeat' (first | refine Cd.seq ?_ | refine Cd.reg ?_ | refine Ops.box rfl rfl rfl rfl (noPd rfl) (fun b => ?_) | refine Ops.alloc rfl rfl rfl (noPd rfl) (fun b => ?_))
  refine Cd.draw [(0, 1, []), (1, 0, []), (2, 0, []), (3, 0, []), (4, 1, []), (5, 0, []), (6, 1, []), (7, 0, []), (8, 0, []), (9, 1, []), (10, 0, []), (11, 0, []), (12, 0, []), (13, 1, []), (14, 0, []), (15, 1, []), (16, 0, []), (17, 0, []), (18, 1, []), (19, 2, [0, 4, 6, 9]), (20, 2, [0, 4, 6, 9]), (21, 0, []), (22, 2, [])] (by kernel_rfl) (by kernel_rfl) (by simp only [picked, nth]; exact rfl) ?_
  repeat' (first | refine Ops.mv rfl rfl rfl rfl ?_ | refine Ops.nilP rfl rfl rfl rfl ?_ | refine Ops.fa0 rfl rfl rfl rfl ?_ | refine Ops.ldN rfl rfl rfl rfl ?_ | fail)
  rename_i bx
  rename Nat => rz
  refine Ops.ldR rfl rfl rfl (hc2 _) rfl ?_
  repeat' (first | refine Ops.fa0 rfl rfl rfl rfl ?_ | refine Ops.ld1 rfl rfl rfl rfl rfl ?_ | refine Ops.subI rfl rfl rfl rfl (by omega) (by omega) rfl ?_ | refine Ops.ixa rfl rfl rfl rfl (by omega) (by omega) rfl ?_)
  refine Ops.ldR rfl rfl rfl (hcp _) rfl ?_
  repeat' (first | refine Ops.mv rfl rfl rfl rfl ?_ | refine Ops.nilP rfl rfl rfl rfl ?_ | refine Ops.fa0 rfl rfl rfl rfl ?_)
  refine Ops.ldR rfl rfl rfl (hc3 _) rfl ?_
  repeat' (first | refine Ops.fa0 rfl rfl rfl rfl ?_ | refine Ops.ld1 rfl rfl rfl rfl rfl ?_ | refine Ops.subI rfl rfl rfl rfl (by omega) (by omega) rfl ?_ | refine Ops.ixa rfl rfl rfl rfl (by omega) (by omega) rfl ?_)
  refine Ops.ldR rfl rfl rfl (hcl _) rfl ?_
  refine Ops.callB (cloneT_spec B0 x.a x.txs.length x.c (x.txs.map trow) (by simp) (trows_ok _) hxm (by simp; omega)) hB rfl (by intro v A' hR i hi; obtain ⟨A2, hR, rfl⟩ := hR; (repeat (rcases List.mem_cons.1 hi with rfl | hi; · (first | exact Still.ld1 rfl rfl rfl rfl rfl | exact Still.ldN rfl rfl rfl rfl | exact Still.len rfl rfl rfl rfl rfl | exact Still.skip rfl rfl rfl | exact Still.ldRow1 rfl rfl rfl (by assumption) (by assumption) rfl rfl | exact Still.ldR rfl rfl rfl (by apply_assumption) rfl))); cases hi) rfl rfl rfl (fun v A' hX => ?_)
  have hX : OwnT v x.txs A' := hX
  obtain ⟨xa, xc, rfl⟩ := hX.form
  obtain ⟨hcut, hrs⟩ := hX.cut rfl
  refine Ops.call (clipT_spec xa x.txs.length xc hcut) rfl (by first | exact noPd rfl | (intro v A' hR i hi; obtain ⟨A2, hR, rfl⟩ := hR; (try obtain ⟨rfl, rfl⟩ := hR); (repeat (rcases List.mem_cons.1 hi with rfl | hi; · (first | exact Still.ld1 rfl rfl rfl rfl rfl | exact Still.ldN rfl rfl rfl rfl | exact Still.len rfl rfl rfl rfl rfl | exact Still.skip rfl rfl rfl | exact Still.ldRow1 rfl rfl rfl (by assumption) (by assumption) rfl rfl | exact Still.ldR rfl rfl rfl (by apply_assumption) rfl))); cases hi)) rfl rfl rfl (fun v A2 hR => ?_)
  obtain ⟨rfl, rfl⟩ := hR
  repeat' (first | refine Ops.nil ?_ | refine Ops.bld rfl rfl rfl rfl ?_ | refine Ops.stN rfl rfl rfl rfl rfl rfl (by first | exact noPd rfl | (intro v A' hR i hi; obtain rfl := hR; (repeat (rcases List.mem_cons.1 hi with rfl | hi; · (first | exact Still.ld1 rfl rfl rfl rfl rfl | exact Still.ldN rfl rfl rfl rfl | exact Still.len rfl rfl rfl rfl rfl | exact Still.skip rfl rfl rfl | exact Still.ldRow1 rfl rfl rfl (by assumption) (by assumption) rfl rfl | exact Still.ldR rfl rfl rfl (by apply_assumption) rfl))); cases hi)) ?_)
  exact Cd.ret (ret1 (A' := A') rfl (Res.cellN rfl) (fun _ h => h.split) ⟨⟨xa, x.txs.length, x.txs, A'⟩, rfl, rfl, rfl, hrs⟩)
theorem rows_spec (B0 : Base) (qb : Nat) (att : Int) (a : Option Addr) (c : Nat) (l : List Rw) (hQ : Holds B0 [QuB qb att (.slice a l.length c)]) (hR : RIn 8 B0 a (l.map Rw.row)) (hl : l.length ≤ 2000000) :
    ConB Tryz.prog B0 123 #[ptr qb] [] fun v A => ∃ a2, v = .slice a2 l.length l.length ∧ Rs 117 8 v (l.map Rw.row) A := by
  refine ConB.intro (vs := [_]) Tryz.func123 rfl Tryz.ntmps123 rfl (fun B hB => ?_)
  have hQ := hB.holds hQ
  have hc1 : ∀ A, Rd B.plain A qb 1 (.slice a l.length c) := hQ.cell (List.mem_singleton.2 rfl) rfl
  repeat' (first | refine Cd.seq ?_ | refine Cd.reg ?_ | refine Ops.mv rfl rfl rfl rfl ?_ | refine Ops.asg rfl rfl rfl rfl ?_ | refine Ops.nilP rfl rfl rfl rfl ?_ | refine Ops.fa0 rfl rfl rfl rfl ?_)
  refine Ops.ldR rfl rfl rfl (hc1 _) rfl ?_
  refine Ops.callB (cloneR_spec B0 a l.length c (l.map Rw.row) (by simp) (rws_ok l) hR (by simpa using hl)) hB rfl (noPd rfl) rfl rfl rfl (fun v A' hR => ?_)
  obtain ⟨a2, c2, rfl⟩ := Own.form hR
  rw [List.length_map] at hR ⊢
  obtain ⟨hcut, hrs⟩ := own_cut hR
  refine Ops.call (clipR_spec a2 l.length c2 hcut) rfl (noPd rfl) rfl rfl rfl (fun v A2 hR => ?_)
  obtain ⟨rfl, rfl⟩ := hR
  repeat' (first | refine Ops.nil ?_ | refine Ops.asg rfl rfl rfl rfl ?_)
  exact Cd.ret (ret1 (A' := A') rfl (Res.tmp rfl) (fun _ h => h.split) ⟨a2, rfl, hrs⟩)
def viewL (s : StP) : List (Rw × ByteArray × List ByteArray) := s.rows.zip (s.progs.zip s.logs)
/-- What is shown: its value, its blocks. -/
def ViewA (v : Value) (s : StP) (A : List Blk) : Prop :=
  ∃ (a : Option Addr) (ps : List Pl) (JG : List Blk), v = .agg [.int .i64 s.res, .slice a s.rows.length s.rows.length].toArray ∧ A = JG ++ ps.flatMap (fun p : Pl => p.l.G) ∧ Rs 120 10 (.slice a s.rows.length s.rows.length) (ps.map Pl.row) JG ∧ (∀ p ∈ ps, RsT (.slice p.l.a p.l.txs.length p.l.c) p.l.txs p.l.G) ∧ ps.map Pl.pure = viewL s
structure VwS where
  ps : List Pl
  jv : Value
  JG : List Blk
theorem view_spec (B0 : Base) (sb : Nat) (s : StP) (hS : StIn B0 sb s) (ok : StOk s) : ConB Tryz.prog B0 64 #[ptr sb] [] fun v A => ViewA v s A := by
  have hS0 := hS
  obtain ⟨qb, ra, rc, pa, pc, la, lc, ls, h1, h2, h3, h4, h5, h6⟩ := hS
  have ok0 := ok
  obtain ⟨o1, o2, o3, o4, o5, o6, o7⟩ := ok
  have hq2 : Holds B0 [QuB qb s.att (.slice ra s.rows.length rc)] := h1.sub fun p hp => List.mem_cons_of_mem _ hp
  have hvl : (viewL s).length = s.rows.length := by simp [viewL]; omega
  refine ConB.intro (vs := [_]) Tryz.func64 rfl Tryz.ntmps64 rfl (fun B hB => ?_)
  have hQ := hB.holds h1
  have hc0 : ∀ A, Rd B.plain A sb 0 (ptr qb) := hQ.cell (List.mem_cons_self ..) rfl
  have hc1 : ∀ A, Rd B.plain A sb 1 (.int .i64 s.res) := hQ.cell (List.mem_cons_self ..) rfl
  repeat' (first | refine Cd.seq ?_ | refine Cd.reg ?_ | refine Ops.mv rfl rfl rfl rfl ?_ | refine Ops.nilP rfl rfl rfl rfl ?_ | refine Ops.fa0 rfl rfl rfl rfl ?_ | refine Ops.alloc rfl rfl rfl (noPd rfl) (fun b => ?_))
  refine Ops.ldR rfl rfl rfl (hc1 _) rfl ?_
  repeat' (first | refine Cd.seq ?_ | refine Cd.reg ?_ | refine Ops.mv rfl rfl rfl rfl ?_ | refine Ops.nilP rfl rfl rfl rfl ?_ | refine Ops.fa0 rfl rfl rfl rfl ?_ | refine Ops.bld rfl rfl rfl rfl ?_ | refine Ops.alloc rfl rfl rfl (noPd rfl) (fun b => ?_) | refine Ops.stN rfl rfl rfl rfl rfl rfl (noPd rfl) ?_)
  rename_i v2
  rename Nat => v3
  refine Ops.ldR rfl rfl rfl (hc0 _) rfl ?_
  refine Ops.callB (rows_spec B0 qb s.att ra rc s.rows hq2 h2 (by omega)) hB rfl (noPd rfl) rfl rfl rfl (fun v A' hR => ?_)
  obtain ⟨r2, rfl, hrs⟩ := hR
  rename List Blk => RG
  repeat' (first | refine Ops.nil ?_ | refine Ops.mv rfl rfl rfl rfl ?_ | refine Ops.lenS rfl rfl rfl rfl ?_ | refine Cd.block ?_)
  refine Cd.loopK (σ := VwS) (fun t => t.ps.length ≤ s.rows.length ∧ Own 120 10 t.jv (t.ps.map Pl.row) t.JG ∧ (∀ p ∈ t.ps, RsT (.slice p.l.a p.l.txs.length p.l.c) p.l.txs p.l.G) ∧ t.ps.map Pl.pure = (viewL s).take t.ps.length) (fun t => [(0, ptr sb), (2, ptr v2), (3, ptr v3), (16, .slice r2 s.rows.length s.rows.length), (17, .int .i64 s.rows.length), (18, .int .i64 t.ps.length)])
    (fun t => (v2, cl [.int .i64 0, .slice none 0 0] 85) :: (v3, cl [.int .i64 s.res, t.jv] 85) :: (RG ++ (t.JG ++ t.ps.flatMap (fun p => p.l.G)))) (fun t => s.rows.length - t.ps.length) ⟨[], .slice none 0 0, []⟩ ⟨Nat.zero_le _, Own.none, fun p hp => (by cases hp), rfl⟩ ⟨rfl, rfl, rfl, rfl, rfl, rfl, trivial⟩ (fun w h => by have h2 : Sat _ ((v2, cl [.int .i64 0, .slice none 0 0] 85) :: (v3, cl [.int .i64 s.res, .slice none 0 0] 85) :: RG) w := h.split; simpa using h2) (fun t ht => ?_)
  obtain ⟨ps, jv, JG⟩ := t
  obtain ⟨hi, hO, hT, hl⟩ := ht
  dsimp only at hi hO hT hl ⊢
  obtain ⟨ja, jc, rfl⟩ := Own.form hO
  rw [List.length_map] at hO ⊢
  by_cases hlt : ps.length < s.rows.length
  · have hlt' : (ps.length : Int) < s.rows.length := by omega
    obtain ⟨r, hr⟩ : ∃ r, s.rows[ps.length]? = some r := ⟨_, List.getElem?_eq_getElem hlt⟩
    obtain ⟨p, hp⟩ : ∃ p, s.progs[ps.length]? = some p := ⟨_, List.getElem?_eq_getElem (by omega)⟩
    obtain ⟨t, ht⟩ : ∃ t, s.logs[ps.length]? = some t := ⟨_, List.getElem?_eq_getElem (by omega)⟩
    have hvx : (viewL s)[ps.length]? = some (r, p, t) := by simp [viewL, List.getElem?_zip_eq_some, hr, hp, ht]
    have hrow : (s.rows.map Rw.row)[ps.length]? = some r.row := by rw [List.getElem?_map, hr]; rfl
    have hrok := rws_ok s.rows
    obtain ⟨g, c', sp, hsv, rfl⟩ := Rs.some_ hrs (by rw [List.length_map]; omega)
    injection hsv with e1 e2 e3
    subst e1
    repeat' (first | refine Cd.seq ?_ | refine Cd.reg ?_ | refine Ops.nil ?_ | refine Ops.bin rfl rfl rfl rfl rfl ?_ | refine Ops.alloc rfl rfl rfl (noPd rfl) (fun b => ?_) | refine Ops.stN rfl rfl rfl rfl rfl rfl (noPd rfl) ?_ | refine Cd.block ?_ | refine Cd.skip (Cd.next ?_) | refine Ops.ixa0 rfl rfl rfl rfl (by omega) (by omega) rfl ?_ | refine Ops.ldRow rfl rfl rfl (by assumption) (by assumption) rfl ?_ | refine Cd.condT rfl (by first | rfl | assumption | (simp only [decide_eq_true_eq, decide_eq_false_iff_not, Bool.not_eq_true', Bool.not_eq_false', Bool.not_eq_eq_eq_not, Bool.not_true, Bool.not_false, beq_iff_eq, beq_eq_false_iff_ne, ne_eq, decide_eq_decide, eq_self, true_iff, iff_true, not_true_eq_false, not_false_eq_true]; first | done | omega)) ?_)
    rename Nat => b5
    refine Cd.draw [(0, 0, []), (1, 1, []), (2, 0, []), (3, 1, []), (4, 2, [1]), (5, 2, [1]), (6, 2, []), (7, 0, []), (8, 2, [])] (by kernel_rfl) (by kernel_rfl) (by simp only [picked, nth]; exact rfl) ?_
    repeat' (first | refine Ops.mv rfl rfl rfl rfl ?_ | refine Ops.fa0 rfl rfl rfl rfl ?_ | refine Ops.ld1 rfl rfl rfl rfl rfl ?_ | refine Ops.ldN rfl rfl rfl rfl ?_ | fail)
    refine Ops.callB (place_spec B0 sb s hS0 ok0 ps.length r p t hr hp ht) hB rfl (by intro v A' hR i hi; obtain ⟨A2, hR, rfl⟩ := hR; obtain ⟨x, rfl, rfl, _, _⟩ := hR; (repeat (rcases List.mem_cons.1 hi with rfl | hi; · (first | exact Still.ld1 rfl rfl rfl rfl rfl | exact Still.ldN rfl rfl rfl rfl | exact Still.len rfl rfl rfl rfl rfl | exact Still.skip rfl rfl rfl | exact Still.ldRow1 rfl rfl rfl (by assumption) (by assumption) rfl rfl | exact Still.ldR rfl rfl rfl (by apply_assumption) rfl))); cases hi) rfl rfl rfl (fun v A' hX => ?_)
    obtain ⟨x, rfl, e, hxt, hxr⟩ := hX
    subst A'
    repeat' (first | refine Ops.bs1 rfl rfl rfl rfl rfl rfl rfl (by first | exact noPd rfl | (intro v A' hR i hi; obtain ⟨b, rfl, rfl⟩ := hR; (repeat (rcases List.mem_cons.1 hi with rfl | hi; · (first | exact Still.ld1 rfl rfl rfl rfl rfl | exact Still.ldN rfl rfl rfl rfl | exact Still.len rfl rfl rfl rfl rfl | exact Still.skip rfl rfl rfl | exact Still.ldRow1 rfl rfl rfl (by assumption) (by assumption) rfl rfl | exact Still.ldR rfl rfl rfl (by apply_assumption) rfl))); cases hi)) (fun b => ?_))
    have hll : (ps.map Pl.row).length = ps.length := List.length_map _
    refine Ops.app1 (rows := ps.map Pl.row) hO (by rw [hll]; omega) (by rw [hll]; omega) rfl rfl rfl rfl (by rfl) (by rfl) rfl (noPd rfl) rfl (fun v G' hG' => ?_)
    have hG2 : Own 120 10 v ((ps ++ [(⟨r, p, x⟩ : Pl)]).map Pl.row) G' := by rw [List.map_append]; exact hG'
    clear hG'
    obtain ⟨ja2, jc2, rfl⟩ := Own.form hG2
    repeat' (first | refine Ops.nilN (inB (Cd.next ?_)) | refine Cd.reg ?_ | refine Ops.mv rfl rfl rfl rfl ?_ | refine Ops.fa0 rfl rfl rfl rfl ?_ | refine Ops.addI rfl rfl rfl rfl (by omega) (by omega) rfl ?_ | refine Ops.st1 rfl rfl rfl rfl rfl (by first | exact noPd rfl | (intro v A' hR i hi; obtain rfl := hR; (repeat (rcases List.mem_cons.1 hi with rfl | hi; · (first | exact Still.ld1 rfl rfl rfl rfl rfl | exact Still.ldN rfl rfl rfl rfl | exact Still.len rfl rfl rfl rfl rfl | exact Still.skip rfl rfl rfl | exact Still.ldRow1 rfl rfl rfl (by assumption) (by assumption) rfl rfl | exact Still.ldR rfl rfl rfl (by apply_assumption) rfl))); cases hi)) ?_)
    have hpl : (ps ++ [(⟨r, p, x⟩ : Pl)]).length = ps.length + 1 := by simp
    rw [show (ps.length : Int) + 1 = (((ps ++ [(⟨r, p, x⟩ : Pl)]).length : Nat) : Int) from by rw [hpl]; push_cast; rfl]
    refine Ops.nilN (round_end (⟨ps ++ [(⟨r, p, x⟩ : Pl)], _, G'⟩ : VwS) ⟨by show (ps ++ [(⟨r, p, x⟩ : Pl)]).length ≤ _; omega, hG2, ?_, ?_⟩ (by show s.rows.length - (ps ++ [(⟨r, p, x⟩ : Pl)]).length < s.rows.length - ps.length; omega) ⟨rfl, rfl, rfl, rfl, rfl, rfl, trivial⟩ (fun w h => ?_))
    · intro y hy
      rcases List.mem_append.1 hy with hy | hy
      · exact hT y hy
      · rw [List.mem_singleton] at hy
        subst hy
        exact hxr
    · show (ps ++ [(⟨r, p, x⟩ : Pl)]).map Pl.pure = (viewL s).take (ps ++ [(⟨r, p, x⟩ : Pl)]).length
      rw [hpl, List.map_append, hl, List.take_add_one, hvx, ← hxt]
      rfl
    · have h2 : Sat _ ((v2, cl [.int .i64 0, .slice none 0 0] 85) :: (v3, cl [.int .i64 s.res, .slice ja2 ((ps ++ [(⟨r, p, x⟩ : Pl)]).map Pl.row).length jc2] 85) :: ([(g, cl ((s.rows.map Rw.row).flatten ++ sp) 117)] ++ (G' ++ (ps.flatMap (fun p => p.l.G) ++ x.G)))) w := h.split
      simpa using h2
  · have hlt' : ¬ (ps.length : Int) < s.rows.length := by omega
    have he : ps.length = s.rows.length := by omega
    obtain ⟨hcut, hjs⟩ := own_cut hO
    repeat' (first | refine Cd.seq ?_ | refine Cd.reg ?_ | refine Ops.fa0 rfl rfl rfl rfl ?_ | refine Ops.ld1 rfl rfl rfl rfl rfl ?_ | refine Ops.bin rfl rfl rfl rfl rfl ?_ | refine Cd.exit (Cd.next (Q' := fun _ _ _ => True) ?_) | refine Cd.condF rfl (by first | rfl | assumption | (simp only [decide_eq_true_eq, decide_eq_false_iff_not, Bool.not_eq_true', Bool.not_eq_false', Bool.not_eq_eq_eq_not, Bool.not_true, Bool.not_false, beq_iff_eq, beq_eq_false_iff_ne, ne_eq, decide_eq_decide, eq_self, true_iff, iff_true, not_true_eq_false, not_false_eq_true]; first | done | omega)) ?_)
    refine Ops.call (clipP_spec ja ps.length jc hcut) rfl (noPd rfl) rfl rfl rfl (fun v A2 hR => ?_)
    obtain ⟨rfl, rfl⟩ := hR
    repeat' (first | refine Cd.seq ?_ | refine Cd.reg ?_ | refine Ops.nil ?_ | refine Ops.fa0 rfl rfl rfl rfl ?_ | refine Ops.ldN rfl rfl rfl rfl ?_ | refine Ops.st1 rfl rfl rfl rfl rfl (noPd rfl) ?_ | refine Ops.stN rfl rfl rfl rfl rfl rfl (noPd rfl) ?_)
    exact Cd.ret (ret1 (A' := JG ++ ps.flatMap (fun p : Pl => p.l.G)) rfl (Res.cellN rfl) (fun _ h => h.split) ⟨ja, ps, JG, by rw [he], rfl, by rw [← he]; exact hjs, hT, by rw [hl, he, ← hvl, List.take_length]⟩)
end Go.Proofs.YtkcmjgjfodipfaaGreat
namespace Go.Proofs.YtkcmjgjfodipfaaGreat.Ls
open Go Go.Sep Go.Proofs
set_option maxRecDepth 10000
set_option maxHeartbeats 2000000
set_option synthInstance.maxSize 2000
set_option linter.unusedSimpArgs false
set_option linter.unusedVariables false
theorem u64_small {n : Int} (h0 : 0 ≤ n) (h1 : n ≤ 12) : IntKind.u64.wrap n = n := by simp [IntKind.wrap, IntKind.bits, IntKind.signed]; omega
theorem u8_small {n : Int} (h0 : 0 ≤ n) (h1 : n ≤ 12) : IntKind.u8.wrap n = n := by simp [IntKind.wrap, IntKind.bits, IntKind.signed]; omega
theorem nan_spec (a : Int) : Con Tryz.prog 342 #[.int .i64 a] [] fun v A => v = .bool false ∧ A = [] := by
  refine Con.intro (vs := [_]) Tryz.func342 rfl Tryz.ntmps342 rfl (fun B => ?_)
  repeat' (first | refine Cd.seq ?_ | refine Cd.reg ?_ | refine Ops.nil ?_ | refine Ops.mv rfl rfl rfl rfl ?_ | refine Ops.asg rfl rfl rfl rfl ?_ | refine Ops.bin rfl rfl rfl rfl rfl ?_ | fail)
  exact Cd.ret (ret1 rfl (Res.tmp rfl) (fun _ h => h) ⟨by simp, rfl⟩)
theorem less_spec (a b : Int) : Con Tryz.prog 327 #[.int .i64 a, .int .i64 b] [] fun v A => v = .bool (decide (a < b)) ∧ A = [] := by
  refine Con.intro (vs := [_, _]) Tryz.func327 rfl Tryz.ntmps327 rfl (fun B => ?_)
  repeat' (first | refine Cd.seq ?_ | refine Cd.reg ?_ | refine Ops.mv rfl rfl rfl rfl ?_ | refine Ops.asg rfl rfl rfl rfl ?_)
  refine Ops.call (nan_spec a) rfl (noPd rfl) rfl rfl rfl (fun v A' hR => ?_)
  obtain ⟨rfl, rfl⟩ := hR
  repeat' (first | refine Ops.nil ?_ | refine Ops.mv rfl rfl rfl rfl ?_ | refine Ops.asg rfl rfl rfl rfl ?_ | refine Ops.bin rfl rfl rfl rfl rfl ?_ | refine Ops.pickF rfl rfl rfl rfl rfl ?_ | refine Ops.gSkip rfl rfl rfl ?_)
  exact Cd.ret (ret1 rfl (Res.tmp rfl) (fun _ h => h) ⟨rfl, rfl⟩)
theorem len64_spec (n : Int) (h0 : 0 ≤ n) (h1 : n ≤ 12) : Con Tryz.prog 331 #[.int .u64 n] [] fun v A => (∃ k, v = .int .i64 k) ∧ A = [] := by
  refine Con.intro (vs := [_]) Tryz.func331 rfl Tryz.ntmps331 rfl (fun B => ?_)
  repeat' (first | refine Cd.seq ?_ | refine Cd.reg ?_ | refine Ops.nil ?_ | refine Ops.mv rfl rfl rfl rfl ?_ | refine Ops.asg rfl rfl rfl rfl ?_ | refine Ops.bin rfl rfl rfl rfl rfl ?_ | refine Cd.skip (Cd.next ?_) | refine Cd.condF rfl (by first | rfl | assumption | (simp only [decide_eq_true_eq, decide_eq_false_iff_not, Bool.not_eq_true', Bool.not_eq_false', Bool.not_eq_eq_eq_not, Bool.not_true, Bool.not_false, beq_iff_eq, beq_eq_false_iff_ne, ne_eq, decide_eq_decide, eq_self, true_iff, iff_true, not_true_eq_false, not_false_eq_true]; first | done | omega)) ?_)
  refine Ops.cvI rfl rfl rfl rfl ?_
  rw [u8_small h0 h1]
  refine Ops.ixE rfl rfl rfl rfl h0 (Nat.lt_of_le_of_lt (show n.toNat ≤ 12 from by omega) (by decide +kernel)) rfl (fun b _ => ?_)
  skip
  refine Ops.cvI rfl rfl rfl rfl ?_
  repeat' (first | refine Ops.nil ?_ | refine Ops.asg rfl rfl rfl rfl ?_ | refine Ops.bin rfl rfl rfl rfl rfl ?_ | fail)
  exact Cd.ret (ret1 rfl (Res.tmp rfl) (fun _ h => h) ⟨⟨_, rfl⟩, rfl⟩)
theorem blen_spec (n : Int) (h0 : 0 ≤ n) (h1 : n ≤ 12) : Con Tryz.prog 307 #[.int .u64 n] [] fun v A => (∃ k, v = .int .i64 k) ∧ A = [] := by
  refine Con.intro (vs := [_]) Tryz.func307 rfl Tryz.ntmps307 rfl (fun B => ?_)
  repeat' (first | refine Cd.seq ?_ | refine Cd.reg ?_ | refine Ops.mv rfl rfl rfl rfl ?_ | refine Ops.asg rfl rfl rfl rfl ?_ | refine Cd.condF rfl rfl ?_ | refine Cd.skip (Cd.next ?_))
  refine Ops.call (len64_spec n h0 h1) rfl (noPd rfl) rfl rfl rfl (fun v A' hR => ?_)
  obtain ⟨⟨k, rfl⟩, rfl⟩ := hR
  repeat' (first | refine Ops.nil ?_ | refine Ops.asg rfl rfl rfl rfl ?_)
  exact Cd.ret (ret1 rfl (Res.tmp rfl) (fun _ h => h) ⟨⟨_, rfl⟩, rfl⟩)
/-! insertion -/
@[reducible] def irow (x : Int) : List Value := [.int .i64 x]
theorem irows_ok (xs : List Int) : RowsOk 1 (xs.map irow) := rows_map (f := irow) (fun _ => ⟨rfl, rfl⟩) xs
def OwnI (sv : Value) (xs : List Int) (G : List Blk) : Prop := Own 3 1 sv (xs.map irow) G
@[reducible] def IB (g : Nat) (xs : List Int) (sp : List Value) : List Blk := [(g, cl ((xs.map irow).flatten ++ sp) 3)]
theorem pw_app {a b : List Int} (h : (a ++ b).Pairwise (· ≤ ·)) : a.Pairwise (· ≤ ·) ∧ b.Pairwise (· ≤ ·) ∧ ∀ x ∈ a, ∀ y ∈ b, x ≤ y := List.pairwise_append.1 h
theorem swap_rows (L' R' : List Int) (x y : Int) : ((((L' ++ [y]) ++ x :: R').map irow).set (L'.length + 1) [.int .i64 y]).set L'.length [.int .i64 x] = (L' ++ x :: (y :: R')).map irow := by
  simp [List.set_append]
theorem ins_spec (g n c : Nat) (xs : List Int) (sp : List Value) (hn : xs.length = n) (hc : n ≤ c) (hbig : n ≤ 1000000) :
    Con Tryz.prog 321 #[.slice (some ⟨g, 0, none⟩) n c, .int .i64 0, .int .i64 n] (IB g xs sp) fun v A => ∃ ys, A = IB g ys sp ∧ ys.Perm xs ∧ ys.Pairwise (· ≤ ·) := by
  refine Con.intro (vs := [_, _, _]) Tryz.func321 rfl Tryz.ntmps321 rfl (fun B => ?_)
  repeat' (first | refine Cd.seq ?_ | refine Cd.reg ?_ | refine Ops.nil ?_ | refine Ops.mv rfl rfl rfl rfl ?_ | refine Ops.asg rfl rfl rfl rfl ?_ | refine Ops.addI rfl rfl rfl rfl (by omega) (by omega) rfl ?_ | refine Cd.block ?_)
  refine Cd.loopK (fun s : Nat × List Int => 1 ≤ s.1 ∧ (s.1 ≤ n ∨ s.1 = 1) ∧ s.2.Perm xs ∧ (s.2.take s.1).Pairwise (· ≤ ·)) (fun s => [(0, .slice (some ⟨g, 0, none⟩) n c), (1, .int .i64 0), (2, .int .i64 n), (6, .int .i64 s.1)])
    (fun s => IB g s.2 sp) (fun s => n - s.1) (1, xs) ⟨Nat.le_refl _, .inr rfl, .refl _, by
      cases xs with
      | nil => exact List.Pairwise.nil
      | cons x xs => simp⟩ ⟨rfl, rfl, rfl, rfl, trivial⟩ (fun w h => h) (fun s hI => ?_)
  obtain ⟨i, zs⟩ := s
  obtain ⟨hi1, hin, hp, hs⟩ := hI
  dsimp only at hi1 hin hp hs ⊢
  have hzl : zs.length = n := by rw [hp.length_eq, hn]
  by_cases hil : i < n
  · have hil' : (i : Int) < n := by omega
    obtain ⟨x, hx⟩ : ∃ x, zs[i]? = some x := ⟨_, List.getElem?_eq_getElem (by omega)⟩
    have hsplit : zs = zs.take i ++ x :: zs.drop (i + 1) := by
      obtain ⟨h1, h2⟩ := List.getElem?_eq_some_iff.1 hx
      have e := List.take_append_drop i zs
      rw [List.drop_eq_getElem_cons h1, h2] at e
      exact e.symm
    have htl : (zs.take i).length = i := by rw [List.length_take]; omega
    generalize zs.take i = L0 at hsplit hs htl
    generalize hrest : zs.drop (i + 1) = rest at hsplit
    repeat' (first | refine Cd.seq ?_ | refine Cd.reg ?_ | refine Ops.nil ?_ | refine Ops.mv rfl rfl rfl rfl ?_ | refine Ops.asg rfl rfl rfl rfl ?_ | refine Ops.bin rfl rfl rfl rfl rfl ?_ | refine Cd.block ?_ | refine Cd.skip (Cd.next ?_) | refine Cd.condT rfl (by first | rfl | assumption | (simp only [decide_eq_true_eq, decide_eq_false_iff_not, Bool.not_eq_true', Bool.not_eq_false', Bool.not_eq_eq_eq_not, Bool.not_true, Bool.not_false, beq_iff_eq, beq_eq_false_iff_ne, ne_eq, decide_eq_decide, eq_self, true_iff, iff_true, not_true_eq_false, not_false_eq_true]; first | done | omega)) ?_)
    refine Cd.loopK (fun s : List Int × List Int => s.1.length + s.2.length = i ∧ (s.1 ++ s.2).Pairwise (· ≤ ·) ∧ (∀ y ∈ s.2, x ≤ y) ∧ (s.1 ++ x :: (s.2 ++ rest)).Perm xs) (fun s => [(0, .slice (some ⟨g, 0, none⟩) n c), (1, .int .i64 0), (2, .int .i64 n), (6, .int .i64 i), (7, .int .i64 s.1.length)])
      (fun s => IB g (s.1 ++ x :: (s.2 ++ rest)) sp) (fun s => s.1.length) (L0, []) ⟨by simp [htl], by simpa using hs, by simp, by rw [List.nil_append, ← hsplit]; exact hp⟩
      ⟨rfl, rfl, rfl, rfl, by rw [htl]; rfl, trivial⟩ (fun w h => by rw [List.nil_append, ← hsplit]; exact h) (fun s hJ => ?_)
    obtain ⟨L, R⟩ := s
    obtain ⟨hl, hpw, hge, hperm⟩ := hJ
    dsimp only at hl hpw hge hperm ⊢
    have hlen : (L ++ x :: (R ++ rest)).length = n := by rw [hperm.length_eq, hn]
    have hk := irows_ok (L ++ x :: (R ++ rest))
    have hxj : ((L ++ x :: (R ++ rest)).map irow)[(L.length : Int).toNat]? = some [.int .i64 x] := by
      rw [Int.toNat_natCast, List.getElem?_map, List.getElem?_append_right (Nat.le_refl _), Nat.sub_self]; rfl
    have fin2 : (∀ y ∈ L, y ≤ x) → ((L ++ x :: (R ++ rest)).take (i + 1)).Pairwise (· ≤ ·) := fun hle => by
      rw [show L ++ x :: (R ++ rest) = (L ++ x :: R) ++ rest from by simp, List.take_left' (by simp; omega)]
      obtain ⟨a1, a2, a3⟩ := pw_app hpw
      rw [List.pairwise_append]
      refine ⟨a1, List.pairwise_cons.2 ⟨hge, a2⟩, fun y hy z hz => ?_⟩
      rcases List.mem_cons.1 hz with rfl | hz
      · exact hle y hy
      · exact a3 y hy z hz
    have done : ∀ y' : List Int, y'.Perm xs → (y'.take (i + 1)).Pairwise (· ≤ ·) → 1 ≤ i + 1 ∧ (i + 1 ≤ n ∨ i + 1 = 1) ∧ y'.Perm xs ∧ (y'.take (i + 1)).Pairwise (· ≤ ·) := fun y' h1 h2 => ⟨by omega, .inl (by omega), h1, h2⟩
    clear hsplit hs htl hx hrest hp hzl
    rcases List.eq_nil_or_concat L with rfl | ⟨L', y, rfl⟩
    · have hz : ([] : List Int).length = 0 := rfl
      rw [hz]
      repeat' (first | refine Cd.seq ?_)
      refine Cd.draw [(0, 0, []), (1, 0, []), (2, 0, []), (3, 0, []), (4, 0, []), (5, 0, []), (6, 0, []), (7, 1, []), (8, 0, []), (9, 0, []), (10, 0, []), (11, 0, []), (12, 1, []), (13, 2, []), (14, 0, [])] (by kernel_rfl) (by kernel_rfl) (by simp only [picked, nth]; exact rfl) ?_
      repeat' (first | refine Cd.reg ?_ | refine Ops.nil ?_ | refine Ops.mv rfl rfl rfl rfl ?_ | refine Ops.asg rfl rfl rfl rfl ?_ | refine Ops.addI rfl rfl rfl rfl (by omega) (by omega) rfl ?_ | refine Ops.bin rfl rfl rfl rfl rfl ?_ | refine Ops.pickF rfl rfl rfl rfl rfl ?_ | refine Ops.gSkip rfl rfl rfl ?_ | refine Ops.gSkipE rfl (noPd rfl) rfl rfl ?_ | refine Cd.condF rfl rfl ?_ | refine Cd.exit (Cd.next (Q' := fun _ _ _ => True) ?_))
      have h9 := fin2 (fun y hy => by cases hy)
      exact Ops.nilN (round_end (i + 1, ([] : List Int) ++ x :: (R ++ rest)) (done _ hperm h9) (by show n - (i + 1) < n - i; omega) ⟨rfl, rfl, rfl, rfl, trivial⟩ (fun w h => h))
    · rw [List.concat_eq_append] at *
      have hyj : (((L' ++ [y]) ++ x :: (R ++ rest)).map irow)[(((L'.length + 1 : Nat) : Int) - 1).toNat]? = some [.int .i64 y] := by
        rw [show (((L'.length + 1 : Nat) : Int) - 1).toNat = L'.length from by omega, List.getElem?_map, List.getElem?_append_left (by simp), List.getElem?_append_right (Nat.le_refl _), Nat.sub_self]; try rfl
      rw [show (L' ++ [y]).length = L'.length + 1 from by simp] at hxj hl
      have hbd : L'.length + 1 < n := by rw [← hlen]; simp
      rw [show (L' ++ [y]).length = L'.length + 1 from by simp]
      repeat' (first | refine Cd.seq ?_)
      refine Cd.draw [(0, 0, []), (1, 0, []), (2, 0, []), (3, 0, []), (4, 0, []), (5, 0, []), (6, 0, []), (7, 1, []), (8, 0, []), (9, 0, []), (10, 0, []), (11, 0, []), (12, 1, []), (13, 2, []), (14, 0, [])] (by kernel_rfl) (by kernel_rfl) (by simp only [picked, nth]; exact rfl) ?_
      repeat' (first | refine Ops.mv rfl rfl rfl rfl ?_ | refine Ops.subI rfl rfl rfl rfl (by omega) (by omega) rfl ?_ | refine Ops.bin rfl rfl rfl rfl rfl ?_ | refine Ops.ixa0 rfl rfl rfl rfl (by omega) (by omega) rfl ?_ | refine Ops.ldCell rfl rfl rfl (by assumption) (by assumption) rfl ?_ | ((fail_if_success refine Ops.probe rfl ?_); refine Ops.gT rfl rfl (by first | rfl | assumption | (simp only [decide_eq_true_eq, decide_eq_false_iff_not, Bool.not_eq_true', Bool.not_eq_false', Bool.not_eq_eq_eq_not, Bool.not_true, Bool.not_false, beq_iff_eq, beq_eq_false_iff_ne, ne_eq, decide_eq_decide, eq_self, true_iff, iff_true, not_true_eq_false, not_false_eq_true]; first | done | omega)) ?_))
      refine Ops.call (less_spec x y) rfl (noPd rfl) rfl rfl rfl (fun v A' hR => ?_)
      obtain ⟨rfl, rfl⟩ := hR
      by_cases hlt : x < y
      · repeat' (first | refine Cd.seq ?_ | refine Ops.nil ?_ | refine Ops.pickT rfl rfl rfl rfl rfl ?_ | refine Cd.block ?_ | refine Cd.skip (Cd.next ?_) | refine Cd.condT rfl (by first | rfl | assumption | (simp only [decide_eq_true_eq, decide_eq_false_iff_not, Bool.not_eq_true', Bool.not_eq_false', Bool.not_eq_eq_eq_not, Bool.not_true, Bool.not_false, beq_iff_eq, beq_eq_false_iff_ne, ne_eq, decide_eq_decide, eq_self, true_iff, iff_true, not_true_eq_false, not_false_eq_true]; first | done | omega)) ?_)
        refine Cd.draw [(0, 0, []), (1, 0, []), (2, 0, []), (3, 0, []), (4, 0, []), (5, 0, []), (6, 0, []), (7, 0, []), (8, 0, []), (9, 1, []), (10, 0, []), (11, 0, []), (12, 0, []), (13, 1, []), (14, 0, []), (15, 2, []), (16, 0, []), (17, 2, [])] (by kernel_rfl) (by kernel_rfl) (by simp only [picked, nth]; exact rfl) ?_
        repeat' (first | refine Ops.mv rfl rfl rfl rfl ?_ | refine Ops.subI rfl rfl rfl rfl (by omega) (by omega) rfl ?_ | refine Ops.ixa0 rfl rfl rfl rfl (by omega) (by omega) rfl ?_ | refine Ops.ldCell rfl rfl rfl (by assumption) (by assumption) rfl ?_ | fail)
        refine Ops.stRow rfl rfl rfl rfl rfl rfl hk (by rw [List.length_map, hlen, Int.toNat_natCast]; omega) (noPd rfl) ?_
        repeat' (first | refine Ops.ixa0 rfl rfl rfl rfl (by omega) (by omega) rfl ?_)
        refine Ops.stRow rfl rfl rfl rfl rfl rfl (hk.set rfl rfl) (by rw [List.length_set, List.length_map, hlen]; omega) (noPd rfl) ?_
        repeat' (first | refine Ops.nilN (inB (Cd.next ?_)) | refine Cd.reg ?_ | refine Ops.mv rfl rfl rfl rfl ?_ | refine Ops.asg rfl rfl rfl rfl ?_ | refine Ops.subI rfl rfl rfl rfl (by omega) (by omega) rfl ?_)
        have e1 : (((L'.length + 1 : Nat) : Int) - 1).toNat = L'.length := by omega
        obtain ⟨a1, a2, a3⟩ := pw_app hpw
        obtain ⟨b1, b2, b3⟩ := pw_app a1
        have g1 : ∀ z ∈ y :: R, x ≤ z := fun z hz => by
          rcases List.mem_cons.1 hz with rfl | hz
          · omega
          · have := a3 y (by simp) z hz; omega
        have g2 : (L' ++ x :: (y :: R ++ rest)).Perm xs := by
          refine List.Perm.trans ?_ hperm
          simp only [List.append_assoc, List.cons_append, List.nil_append]
          exact (List.Perm.swap y x _).append_left L'
        exact Ops.nilN (round_end ((L', y :: R) : List Int × List Int) ⟨by show L'.length + (y :: R).length = i; simp; omega, by show (L' ++ y :: R).Pairwise (· ≤ ·); simpa using hpw, g1, g2⟩ (by show L'.length < L'.length + 1; omega) ⟨rfl, rfl, rfl, rfl, congrArg (fun x => some (Value.int .i64 x)) (by show ((L'.length + 1 : Nat) : Int) - 1 = L'.length; omega), trivial⟩ (fun w h => by
          rw [e1, Int.toNat_natCast, swap_rows] at h
          exact h))
      · repeat' (first | refine Cd.reg ?_ | refine Ops.nil ?_ | refine Ops.mv rfl rfl rfl rfl ?_ | refine Ops.asg rfl rfl rfl rfl ?_ | refine Ops.addI rfl rfl rfl rfl (by omega) (by omega) rfl ?_ | refine Ops.pickT rfl rfl rfl rfl rfl ?_ | refine Cd.exit (Cd.next (Q' := fun _ _ _ => True) ?_) | refine Cd.condF rfl (by first | rfl | assumption | (simp only [decide_eq_true_eq, decide_eq_false_iff_not, Bool.not_eq_true', Bool.not_eq_false', Bool.not_eq_eq_eq_not, Bool.not_true, Bool.not_false, beq_iff_eq, beq_eq_false_iff_ne, ne_eq, decide_eq_decide, eq_self, true_iff, iff_true, not_true_eq_false, not_false_eq_true]; first | done | omega)) ?_)
        have h9 := fin2 (fun z hz => by
          rcases List.mem_append.1 hz with hz | hz
          · have := (pw_app (pw_app hpw).1).2.2 z hz y (by simp); omega
          · obtain rfl := List.mem_singleton.1 hz; omega)
        exact Ops.nilN (round_end (i + 1, (L' ++ [y]) ++ x :: (R ++ rest)) (done _ hperm h9) (by show n - (i + 1) < n - i; omega) ⟨rfl, rfl, rfl, rfl, trivial⟩ (fun w h => h))
  · have hil' : ¬ (i : Int) < n := by omega
    have : zs.take i = zs := List.take_of_length_le (by omega)
    rw [this] at hs
    repeat' (first | refine Cd.seq ?_ | refine Cd.reg ?_ | refine Ops.nil ?_ | refine Ops.mv rfl rfl rfl rfl ?_ | refine Ops.bin rfl rfl rfl rfl rfl ?_ | refine Cd.condF rfl (by first | rfl | assumption | (simp only [decide_eq_true_eq, decide_eq_false_iff_not, Bool.not_eq_true', Bool.not_eq_false', Bool.not_eq_eq_eq_not, Bool.not_true, Bool.not_false, beq_iff_eq, beq_eq_false_iff_ne, ne_eq, decide_eq_decide, eq_self, true_iff, iff_true, not_true_eq_false, not_false_eq_true]; first | done | omega)) ?_)
    exact Cd.exit (end0 (A' := IB g zs sp) rfl (fun w h => h) ⟨zs, rfl, hp, hs⟩)
end Go.Proofs.YtkcmjgjfodipfaaGreat.Ls
