import Derived.Test.YtfghnepmbgbnoaaA8
namespace Go.Proofs.Ytfghnepmbgbnoaa
open Go Go.Sep Go.Proofs
set_option maxRecDepth 10000
set_option maxHeartbeats 4000000
set_option synthInstance.maxSize 2000
set_option linter.unusedSimpArgs false
set_option linter.unusedVariables false


theorem OwnT.sin {a : Option Addr} {n c : Nat} {l : List ByteArray} {G : List Blk} (h : OwnT (.slice a n c) l G) {B : Base} (hG : Holds B G) : SIn B a l := fun i e he => by
  have hlt := (List.getElem?_eq_some_iff.1 he).1
  obtain ⟨g, c', spare, h1, h2, h3, h4⟩ := Own.some_ h (by rw [List.length_map]; omega)
  injection h1 with e1 e2 e3
  refine ⟨g, 0, e1, fun A => ?_⟩
  have hrow : (l.map srow)[i]? = some (srow e) := by rw [List.getElem?_map, he]; rfl
  have h5 := RowsOk.at_ (sz := 1) (rows_map (f := srow) (fun _ => ⟨rfl, rfl⟩) l) hrow (k := 0) Nat.zero_lt_one
  have h6 : (l.map srow).flatten[i * 1]? = some (.string e) := h5
  rw [Nat.zero_add]
  exact hG.cell (l := (l.map srow).flatten ++ spare) (by rw [h2]; exact List.mem_singleton.2 rfl) (by rw [List.getElem?_append_left (List.getElem?_eq_some_iff.1 h6).1]; exact h6) A

theorem equal_spec (B0 : Base) (a a' : Option Addr) (c c' : Nat) (l l' : List ByteArray) (hS : SIn B0 a l) (hS' : SIn B0 a' l') (hl : l.length ≤ 2000000) :
    ConB Try.prog B0 61 #[.slice a l.length c, .slice a' l'.length c'] [] fun v A => v = .bool (decide (l = l')) ∧ A = [] := by
  refine ConB.intro (vs := [_, _]) Try.func61 rfl Try.ntmps61 rfl (fun B hx => ?_)
  have hS := hS.ext hx
  have hS' := hS'.ext hx
  generalize B.plain = B1 at hS hS' ⊢
  clear hx
  by_cases hn : l.length = l'.length
  · have hn' : (l.length : Int) = l'.length := by omega
    repeat' (first | refine Cd.seq ?_ | refine Cd.reg ?_ | refine Ops.nil ?_ | refine Ops.mv rfl rfl rfl rfl ?_ | refine Ops.asg rfl rfl rfl rfl ?_ | refine Ops.lenS rfl rfl rfl rfl ?_ | refine Ops.bin rfl rfl rfl rfl rfl ?_ | refine Cd.block ?_ | refine Cd.skip (Cd.next ?_) | refine Cd.condF rfl (by first | rfl | assumption | (simp only [decide_eq_true_eq, decide_eq_false_iff_not, Bool.not_eq_true', Bool.not_eq_false', Bool.not_eq_eq_eq_not, Bool.not_true, Bool.not_false, beq_iff_eq, beq_eq_false_iff_ne, ne_eq, decide_eq_decide, eq_self, true_iff, iff_true, not_true_eq_false, not_false_eq_true]; first | done | omega)) ?_)
    refine Cd.loopK (fun i : Nat => i ≤ l.length ∧ l.take i = l'.take i) (fun i => [(0, .slice a l.length c), (1, .slice a' l'.length c'), (12, .int .i64 l.length), (13, .int .i64 i)])
      (fun _ => []) (fun i => l.length - i) 0 ⟨Nat.zero_le _, by simp⟩ ⟨rfl, rfl, rfl, rfl, trivial⟩ (fun w h => h) (fun i hI => ?_)
    obtain ⟨hi, hem⟩ := hI
    by_cases hil : i < l.length
    · have hil' : (i : Int) < l.length := by omega
      have hil2 : (i : Int) < l'.length := by omega
      obtain ⟨x, hx⟩ : ∃ x, l[i]? = some x := ⟨_, List.getElem?_eq_getElem hil⟩
      obtain ⟨x', hx'⟩ : ∃ x, l'[i]? = some x := ⟨_, List.getElem?_eq_getElem (by omega)⟩
      obtain ⟨b, off, rfl, hrd⟩ := hS i x hx
      obtain ⟨b', off', rfl, hrd'⟩ := hS' i x' hx'
      have hr0 : ∀ A, Rd B1 A b (off + (i : Int).toNat * 1) (.string x) := fun A => by rw [Int.toNat_natCast]; exact hrd A
      have hr1 : ∀ A, Rd B1 A b' (off' + (i : Int).toNat * 1) (.string x') := fun A => by rw [Int.toNat_natCast]; exact hrd' A
      have ht : ∀ {q : List ByteArray} {y : ByteArray}, q[i]? = some y → q.take (i + 1) = q.take i ++ [y] := fun {q y} hq => by
        obtain ⟨h1, rfl⟩ := List.getElem?_eq_some_iff.1 hq
        rw [List.take_succ_eq_append_getElem h1]
      repeat' (first | refine Cd.seq ?_ | refine Cd.reg ?_ | refine Ops.mv rfl rfl rfl rfl ?_ | refine Ops.asg rfl rfl rfl rfl ?_ | refine Ops.bin rfl rfl rfl rfl rfl ?_ | refine Cd.block ?_ | refine Cd.skip (Cd.next ?_) | refine Cd.condT rfl (by first | rfl | assumption | (simp only [decide_eq_true_eq, decide_eq_false_iff_not, Bool.not_eq_true', Bool.not_eq_false', Bool.not_eq_eq_eq_not, Bool.not_true, Bool.not_false, beq_iff_eq, beq_eq_false_iff_ne, ne_eq, decide_eq_decide, eq_self, true_iff, iff_true, not_true_eq_false, not_false_eq_true]; first | done | omega)) ?_)
      refine Cd.draw [(0, 0, []), (1, 0, []), (2, 0, []), (3, 1, []), (4, 0, []), (5, 0, []), (6, 0, []), (7, 1, []), (8, 0, [])] (by kernel_rfl) (by kernel_rfl) (by simp only [picked, nth]; exact rfl) ?_
      repeat' (first | refine Ops.mv rfl rfl rfl rfl ?_ | refine Ops.ixa rfl rfl rfl rfl (by omega) (by omega) rfl ?_)
      refine Ops.ldR rfl rfl rfl (hr0 _) rfl ?_
      repeat' (first | refine Ops.mv rfl rfl rfl rfl ?_ | refine Ops.ixa rfl rfl rfl rfl (by omega) (by omega) rfl ?_)
      refine Ops.ldR rfl rfl rfl (hr1 _) rfl ?_
      by_cases hq : x = x'
      · repeat' (first | refine Cd.reg ?_ | refine Ops.nil ?_ | refine Ops.mv rfl rfl rfl rfl ?_ | refine Ops.addI rfl rfl rfl rfl (by omega) (by omega) rfl ?_ | refine Ops.bin rfl rfl rfl rfl rfl ?_ | refine Cd.skip (Cd.next (Q' := fun _ _ _ => True) ?_) | refine Cd.condF rfl (by first | rfl | assumption | (simp only [decide_eq_true_eq, decide_eq_false_iff_not, Bool.not_eq_true', Bool.not_eq_false', Bool.not_eq_eq_eq_not, Bool.not_true, Bool.not_false, beq_iff_eq, beq_eq_false_iff_ne, ne_eq, decide_eq_decide, eq_self, true_iff, iff_true, not_true_eq_false, not_false_eq_true]; first | done | omega)) ?_)
        exact Ops.nilN (round_end (i + 1) ⟨by show i + 1 ≤ l.length; omega, by rw [ht hx, ht hx', hem, hq]⟩ (by show l.length - (i + 1) < l.length - i; omega) ⟨rfl, rfl, rfl, rfl, trivial⟩ (fun w h => h.split))
      · repeat' (first | refine Cd.seq ?_ | refine Cd.reg ?_ | refine Ops.nil ?_ | refine Ops.asg rfl rfl rfl rfl ?_ | refine Ops.bin rfl rfl rfl rfl rfl ?_ | refine Cd.condT rfl (by first | rfl | assumption | (simp only [decide_eq_true_eq, decide_eq_false_iff_not, Bool.not_eq_true', Bool.not_eq_false', Bool.not_eq_eq_eq_not, Bool.not_true, Bool.not_false, beq_iff_eq, beq_eq_false_iff_ne, ne_eq, decide_eq_decide, eq_self, true_iff, iff_true, not_true_eq_false, not_false_eq_true]; first | done | omega)) ?_)
        exact Cd.ret (ret1 (A' := []) rfl (Res.tmp rfl) (fun _ h => h.split) ⟨by
          have : l ≠ l' := fun e => by subst e; rw [hx] at hx'; injection hx' with e; exact hq e
          simp [this], rfl⟩)
    · obtain rfl : i = l.length := by omega
      have hil' : ¬ ((l.length : Nat) : Int) < l.length := by omega
      have : l = l' := by
        rw [List.take_length, hn, List.take_length] at hem; exact hem
      repeat' (first | refine Cd.seq ?_ | refine Cd.reg ?_ | refine Ops.nil ?_ | refine Ops.asg rfl rfl rfl rfl ?_ | refine Ops.bin rfl rfl rfl rfl rfl ?_ | refine Cd.exit (Cd.next (Q' := fun _ _ _ => True) ?_) | refine Cd.condF rfl (by first | rfl | assumption | (simp only [decide_eq_true_eq, decide_eq_false_iff_not, Bool.not_eq_true', Bool.not_eq_false', Bool.not_eq_eq_eq_not, Bool.not_true, Bool.not_false, beq_iff_eq, beq_eq_false_iff_ne, ne_eq, decide_eq_decide, eq_self, true_iff, iff_true, not_true_eq_false, not_false_eq_true]; first | done | omega)) ?_)
      exact Cd.ret (ret1 (A' := []) rfl (Res.tmp rfl) (fun _ h => h.split) ⟨by simp [this], rfl⟩)
  · have hn' : ¬ (l.length : Int) = l'.length := by omega
    repeat' (first | refine Cd.seq ?_ | refine Cd.reg ?_ | refine Ops.nil ?_ | refine Ops.mv rfl rfl rfl rfl ?_ | refine Ops.asg rfl rfl rfl rfl ?_ | refine Ops.lenS rfl rfl rfl rfl ?_ | refine Ops.bin rfl rfl rfl rfl rfl ?_ | refine Cd.condT rfl (by first | rfl | assumption | (simp only [decide_eq_true_eq, decide_eq_false_iff_not, Bool.not_eq_true', Bool.not_eq_false', Bool.not_eq_eq_eq_not, Bool.not_true, Bool.not_false, beq_iff_eq, beq_eq_false_iff_ne, ne_eq, decide_eq_decide, eq_self, true_iff, iff_true, not_true_eq_false, not_false_eq_true]; first | done | omega)) ?_)
    exact Cd.ret (ret1 (A' := []) rfl (Res.tmp rfl) (fun _ h => h.split) ⟨by
      have : l ≠ l' := fun e => hn (by rw [e])
      simp [this], rfl⟩)

theorem clone_spec (B0 : Base) (a : Option Addr) (c : Nat) (l : List ByteArray) (hS : SIn B0 a l) (hl : l.length ≤ 2000000) :
    ConB Try.prog B0 49 #[.slice a l.length c] [] fun v A => OwnT v l A := by
  refine ConB.intro (vs := [_]) Try.func49 rfl Try.ntmps49 rfl (fun B hx => ?_)
  have hS := hS.ext hx
  generalize B.plain = B1 at hS ⊢
  clear hx
  cases a with
  | none =>
    obtain rfl : l = [] := by
      cases l with
      | nil => rfl
      | cons x l => obtain ⟨b, off, h, _⟩ := hS 0 x rfl; cases h
    repeat' (first | refine Cd.seq ?_ | refine Cd.reg ?_ | refine Ops.nil ?_ | refine Ops.mv rfl rfl rfl rfl ?_ | refine Ops.asg rfl rfl rfl rfl ?_ | refine Ops.bin rfl rfl rfl rfl rfl ?_ | refine Cd.condT rfl rfl ?_)
    exact Cd.ret (ret1 (A' := []) rfl (Res.tmp rfl) (fun _ h => h.split) Own.none)
  | some ad =>
    have hmt : (l.map srow).length = l.length := List.length_map _
    repeat' (first | refine Cd.seq ?_ | refine Cd.reg ?_ | refine Ops.nil ?_ | refine Ops.mv rfl rfl rfl rfl ?_ | refine Ops.asg rfl rfl rfl rfl ?_ | refine Ops.bin rfl rfl rfl rfl rfl ?_ | refine Ops.bs0 rfl rfl rfl (noPd rfl) (fun b => ?_) | refine Cd.condF rfl rfl ?_ | refine Cd.skip (Cd.next ?_))
    refine Ops.appS (rows := []) (news := l.map srow) Own.empty (hS.reads c _) (by rw [hmt, List.length_nil]; omega) (by rw [hmt, List.length_nil]; omega) rfl rfl rfl rfl rfl (noPd rfl) rfl (fun v G' hG' => ?_)
    have hG2 : OwnT v l G' := hG'
    clear hG'
    obtain ⟨a', c', rfl⟩ := hG2.form
    repeat' (first | refine Ops.nil ?_ | refine Ops.asg rfl rfl rfl rfl ?_)
    exact Cd.ret (ret1 (A' := G') rfl (Res.tmp rfl) (fun _ h => h.split) hG2)

/-! what was admitted of a job -/
@[reducible] def abl (ja : Option Addr) (jn jc : Nat) (s : SR) (bv : Value) : List Value :=
  [.slice ja jn jc, .int .i64 s.great, .map (some s.cm), .map (some s.pn), .map (some s.em),
    .int .i64 s.ad.b0, .int .i64 s.ad.i0, .int .i64 s.ad.b1, .int .i64 s.ad.i1, .int .i64 s.ad.b2, .int .i64 s.ad.i2, .int .i64 s.ad.b3, .int .i64 s.ad.i3, .int .i64 s.ad.b4, .int .i64 s.ad.i4, .int .i64 s.ad.b5, .int .i64 s.ad.i5, .int .i64 s.ad.b6, .int .i64 s.ad.i6, .int .i64 s.ad.b7, .int .i64 s.ad.i7, .int .i64 s.ad.b8, .int .i64 s.ad.i8, .bool s.sh, .int .i64 s.shn, bv, s.rv]
theorem job8 {n : Int} (h : 1 ≤ n ∧ n ≤ 8) : n = 1 ∨ n = 2 ∨ n = 3 ∨ n = 4 ∨ n = 5 ∨ n = 6 ∨ n = 7 ∨ n = 8 := by omega
theorem ad_at (ja : Option Addr) (jn jc : Nat) (s : SR) (bv : Value) {n : Int} (hn : 1 ≤ n ∧ n ≤ 8) : ∀ j u, [Value.int .i64 (s.ad.get n).1, .int .i64 (s.ad.get n).2][j]? = some u → (abl ja jn jc s bv)[5 + n.toNat * 2 + j]? = some u := by
  intro j u hu
  match j, hu with
  | 0, hu => rcases job8 hn with rfl | rfl | rfl | rfl | rfl | rfl | rfl | rfl <;> exact hu
  | 1, hu => rcases job8 hn with rfl | rfl | rfl | rfl | rfl | rfl | rfl | rfl <;> exact hu
  | j + 2, hu => simp at hu
theorem ad_ins (ja : Option Addr) (jn jc : Nat) (s : SR) (bv : Value) (n b i : Int) (hn : 1 ≤ n ∧ n ≤ 8) : ins (abl ja jn jc s bv) (5 + n.toNat * 2) [.int .i64 b, .int .i64 i] = abl ja jn jc { s with ad := s.ad.set n b i } bv := by
  rcases job8 hn with rfl | rfl | rfl | rfl | rfl | rfl | rfl | rfl <;> rfl

theorem admits_spec (ab k tot : Nat) (s : SA) (e : Ev) (h : s.ok k tot) (hb : s.brok.length ≤ 20) (hj : 1 ≤ e.job ∧ e.job ≤ 8) (h0 : 0 ≤ e.index) (h1 : e.index ≤ 1099511627776) :
    Con Try.prog 28 #[ptr ab, .agg e.row.toArray] (AuB ab s) (ActR ab s k tot (admitsF s.pure e)) := by
  by_cases hlow : e.badge < (s.r.ad.get e.job).1
  · rw [show admitsF s.pure e = (s.pure, [7]) from if_pos hlow]
    obtain ⟨jobs, ja, jc, JG, r, chunks, pieces, ends, brok, ba, bc, BG⟩ := s
    obtain ⟨oj, ojs, oe, ob, few, s0, s1⟩ := h
    dsimp only [ActR, AuB, SA.pure] at *
    refine Con.intro (vs := [_, _]) Try.func28 rfl Try.ntmps28 rfl (fun B => ?_)
    repeat' (first | refine Cd.seq ?_ | refine Cd.reg ?_ | refine Ops.box rfl rfl rfl rfl (noPd rfl) (fun b => ?_))
    refine Cd.draw [(0, 0, []), (1, 0, []), (2, 1, []), (3, 0, []), (4, 0, []), (5, 0, []), (6, 1, []), (7, 2, [2, 6]), (8, 2, [])] (by kernel_rfl) (by kernel_rfl) (by simp only [picked, nth]; exact rfl) ?_
    repeat' (first | refine Ops.ixA rfl rfl rfl rfl (by omega) (by omega) rfl ?_ | refine Ops.mv rfl rfl rfl rfl ?_ | refine Ops.nilP rfl rfl rfl rfl ?_ | refine Ops.fa0 rfl rfl rfl rfl ?_ | refine Ops.ld1 rfl rfl rfl rfl rfl ?_)
    refine Ops.ldNE _ rfl rfl rfl (ad_at _ _ _ _ _ hj) rfl rfl ?_
    refine Ops.alloc rfl rfl rfl (by intro v A' hR i hi; obtain ⟨b, rfl, rfl⟩ := hR; (repeat (rcases List.mem_cons.1 hi with rfl | hi; · first | exact Still.ld1 rfl rfl rfl rfl rfl | exact Still.ldNE _ rfl rfl rfl (ad_at _ _ _ _ _ hj) rfl rfl)); cases hi) (fun b4 => ?_)
    repeat' (first | refine Cd.seq ?_ | refine Cd.reg ?_ | refine Ops.nil ?_ | refine Ops.mv rfl rfl rfl rfl ?_ | refine Ops.asg rfl rfl rfl rfl ?_ | refine Ops.fa0 rfl rfl rfl rfl ?_ | refine Ops.ld1 rfl rfl rfl rfl rfl ?_ | refine Ops.bin rfl rfl rfl rfl rfl ?_ | refine Ops.stN rfl rfl rfl rfl rfl rfl (noPd rfl) ?_ | refine Cd.block ?_ | refine Cd.condT rfl (by first | rfl | assumption | (simp only [decide_eq_true_eq, decide_eq_false_iff_not, Bool.not_eq_true', Bool.not_eq_false', Bool.not_eq_eq_eq_not, Bool.not_true, Bool.not_false, beq_iff_eq, beq_eq_false_iff_ne, ne_eq, decide_eq_decide, eq_self, true_iff, iff_true, not_true_eq_false, not_false_eq_true]; first | done | omega)) ?_)
    refine Ops.call (breaks_spec ab ja jobs.length jc r ba bc (brok) BG 7 true ob (by omega)) rfl (noPd rfl) rfl rfl rfl (fun v A' hR => ?_)
    obtain ⟨ba2, bc2, BG2, rfl, hB2⟩ := hR
    repeat' (first | refine Ops.nil ?_)
    exact Cd.ret (ret0 (A' := AuL ab ja jobs.length jc r (.slice ba2 (brok ++ brk 7 true).length bc2) JG (jobs.flatMap JR.G) chunks pieces (eents ends) (ends.flatMap EN.G) BG2) rfl (fun _ h => h.split)
      ⟨⟨jobs, ja, jc, JG, r, chunks, pieces, ends, _, ba2, bc2, BG2⟩, rfl, ⟨oj, ojs, oe, hB2, few, s0, s1⟩, rfl, rfl, rfl, rfl, rfl, rfl⟩)
  by_cases hgt : (s.r.ad.get e.job).1 < e.badge
  · by_cases hne : e.index = 0
    · by_cases hi0 : e.index = 0
      · by_cases htx : e.text = ⟨#[]⟩
        · have htb : (!decide (e.text = ⟨#[]⟩)) = false := by simp [htx]
          rw [show admitsF s.pure e = ({ s.pure with ad := s.r.ad.set e.job e.badge (e.index + 1) }, brk 7 (false)) from by unfold admitsF; rw [if_neg (show ¬ e.badge < (s.pure.ad.get e.job).1 from hlow)]; simp [SA.pure, hgt, htx, hi0]]
          obtain ⟨jobs, ja, jc, JG, r, chunks, pieces, ends, brok, ba, bc, BG⟩ := s
          obtain ⟨oj, ojs, oe, ob, few, s0, s1⟩ := h
          dsimp only [ActR, AuB, SA.pure] at *
          refine Con.intro (vs := [_, _]) Try.func28 rfl Try.ntmps28 rfl (fun B => ?_)
          repeat' (first | refine Cd.seq ?_ | refine Cd.reg ?_ | refine Ops.box rfl rfl rfl rfl (noPd rfl) (fun b => ?_))
          refine Cd.draw [(0, 0, []), (1, 0, []), (2, 1, []), (3, 0, []), (4, 0, []), (5, 0, []), (6, 1, []), (7, 2, [2, 6]), (8, 2, [])] (by kernel_rfl) (by kernel_rfl) (by simp only [picked, nth]; exact rfl) ?_
          repeat' (first | refine Ops.ixA rfl rfl rfl rfl (by omega) (by omega) rfl ?_ | refine Ops.mv rfl rfl rfl rfl ?_ | refine Ops.nilP rfl rfl rfl rfl ?_ | refine Ops.fa0 rfl rfl rfl rfl ?_ | refine Ops.ld1 rfl rfl rfl rfl rfl ?_)
          refine Ops.ldNE _ rfl rfl rfl (ad_at _ _ _ _ _ hj) rfl rfl ?_
          refine Ops.alloc rfl rfl rfl (by intro v A' hR i hi; obtain ⟨b, rfl, rfl⟩ := hR; (repeat (rcases List.mem_cons.1 hi with rfl | hi; · first | exact Still.ld1 rfl rfl rfl rfl rfl | exact Still.ldNE _ rfl rfl rfl (ad_at _ _ _ _ _ hj) rfl rfl)); cases hi) (fun b4 => ?_)
          repeat' (first | refine Ops.nilN (inB (Cd.next ?_)) | refine Cd.seq ?_ | refine Cd.reg ?_ | refine Ops.nil ?_ | refine Ops.asg rfl rfl rfl rfl ?_ | refine Ops.fa0 rfl rfl rfl rfl ?_ | refine Ops.ld1 rfl rfl rfl rfl rfl ?_ | refine Ops.bin rfl rfl rfl rfl rfl ?_ | refine Ops.st1 rfl rfl rfl rfl rfl (noPd rfl) ?_ | refine Ops.stN rfl rfl rfl rfl rfl rfl (noPd rfl) ?_ | refine Cd.block ?_ | refine Cd.condT rfl (by first | rfl | assumption | (simp only [decide_eq_true_eq, decide_eq_false_iff_not, Bool.not_eq_true', Bool.not_eq_false', Bool.not_eq_eq_eq_not, Bool.not_true, Bool.not_false, beq_iff_eq, beq_eq_false_iff_ne, ne_eq, decide_eq_decide, eq_self, true_iff, iff_true, not_true_eq_false, not_false_eq_true]; first | done | omega)) ?_ | refine Cd.condF rfl (by first | rfl | assumption | (simp only [decide_eq_true_eq, decide_eq_false_iff_not, Bool.not_eq_true', Bool.not_eq_false', Bool.not_eq_eq_eq_not, Bool.not_true, Bool.not_false, beq_iff_eq, beq_eq_false_iff_ne, ne_eq, decide_eq_decide, eq_self, true_iff, iff_true, not_true_eq_false, not_false_eq_true]; first | done | omega)) ?_)
          refine Cd.draw [(0, 0, []), (1, 0, []), (2, 1, []), (3, 0, []), (4, 1, []), (5, 0, []), (6, 0, []), (7, 0, []), (8, 1, []), (9, 0, []), (10, 0, []), (11, 0, []), (12, 1, []), (13, 0, []), (14, 0, []), (15, 0, []), (16, 0, []), (17, 0, []), (18, 1, []), (19, 0, []), (20, 0, []), (21, 0, []), (22, 0, []), (23, 0, []), (24, 1, []), (25, 0, []), (26, 1, []), (27, 0, []), (28, 1, []), (29, 0, []), (30, 1, []), (31, 2, []), (32, 0, []), (33, 0, []), (34, 0, []), (35, 2, [])] (by kernel_rfl) (by kernel_rfl) (by simp only [picked, nth]; exact rfl) ?_
          repeat' (first | refine Ops.mv rfl rfl rfl rfl ?_ | refine Ops.fa0 rfl rfl rfl rfl ?_ | refine Ops.ld1 rfl rfl rfl rfl rfl ?_ | refine Ops.bin rfl rfl rfl rfl rfl ?_ | refine Ops.pickT rfl rfl rfl rfl rfl ?_ | refine Ops.pickF rfl rfl rfl rfl rfl ?_ | refine Ops.gSkip rfl rfl rfl ?_ | refine Ops.gSkipE rfl (noPd rfl) rfl rfl ?_ | ((fail_if_success refine Ops.probe rfl ?_); refine Ops.gT rfl rfl (by first | rfl | assumption | (simp only [decide_eq_true_eq, decide_eq_false_iff_not, Bool.not_eq_true', Bool.not_eq_false', Bool.not_eq_eq_eq_not, Bool.not_true, Bool.not_false, beq_iff_eq, beq_eq_false_iff_ne, ne_eq, decide_eq_decide, eq_self, true_iff, iff_true, not_true_eq_false, not_false_eq_true]; first | done | omega)) ?_) | ((fail_if_success refine Ops.probe rfl ?_); refine Ops.gF rfl rfl (by first | rfl | assumption | (simp only [decide_eq_true_eq, decide_eq_false_iff_not, Bool.not_eq_true', Bool.not_eq_false', Bool.not_eq_eq_eq_not, Bool.not_true, Bool.not_false, beq_iff_eq, beq_eq_false_iff_ne, ne_eq, decide_eq_decide, eq_self, true_iff, iff_true, not_true_eq_false, not_false_eq_true]; first | done | omega)) ?_))
          refine Ops.call (breaks_spec ab ja jobs.length jc r ba bc (brok) BG 7 (false) ob (by omega)) rfl (noPd rfl) rfl rfl rfl (fun v A' hR => ?_)
          obtain ⟨ba2, bc2, BG2, rfl, hB2⟩ := hR
          repeat' (first | refine Ops.nil ?_)
          refine Cd.draw [(0, 0, []), (1, 0, []), (2, 1, []), (3, 0, []), (4, 1, []), (5, 0, []), (6, 1, []), (7, 0, []), (8, 0, []), (9, 0, []), (10, 0, []), (11, 0, []), (12, 2, [])] (by kernel_rfl) (by kernel_rfl) (by simp only [picked, nth]; exact rfl) ?_
          repeat' (first | refine Ops.ixA rfl rfl rfl rfl (by omega) (by omega) rfl ?_ | refine Ops.mv rfl rfl rfl rfl ?_ | refine Ops.nilP rfl rfl rfl rfl ?_ | refine Ops.fa0 rfl rfl rfl rfl ?_ | refine Ops.ld1 rfl rfl rfl rfl rfl ?_ | refine Ops.addI rfl rfl rfl rfl (by omega) (by omega) rfl ?_ | refine Ops.bld rfl rfl rfl rfl ?_)
          refine Ops.stNE _ rfl rfl rfl rfl rfl rfl (ad_ins ja jobs.length jc r _ e.job e.badge (e.index + 1) hj) (by simp; omega) (noPd rfl) ?_
          exact Ops.nilN (end0 (A' := AuL ab ja jobs.length jc { r with ad := r.ad.set e.job e.badge (e.index + 1) } (.slice ba2 (brok ++ brk 7 (false)).length bc2) JG (jobs.flatMap JR.G) chunks pieces (eents ends) (ends.flatMap EN.G) BG2) rfl (fun _ h => h.split)
            ⟨⟨jobs, ja, jc, JG, { r with ad := r.ad.set e.job e.badge (e.index + 1) }, chunks, pieces, ends, _, ba2, bc2, BG2⟩, rfl, ⟨oj, ojs, oe, hB2, few, s0, s1⟩, rfl, rfl, rfl, rfl, rfl, rfl⟩)
        · have htb : (!decide (e.text = ⟨#[]⟩)) = true := by simp [htx]
          rw [show admitsF s.pure e = ({ s.pure with ad := s.r.ad.set e.job e.badge (e.index + 1) }, brk 7 (true)) from by unfold admitsF; rw [if_neg (show ¬ e.badge < (s.pure.ad.get e.job).1 from hlow)]; simp [SA.pure, hgt, htx, hi0]]
          obtain ⟨jobs, ja, jc, JG, r, chunks, pieces, ends, brok, ba, bc, BG⟩ := s
          obtain ⟨oj, ojs, oe, ob, few, s0, s1⟩ := h
          dsimp only [ActR, AuB, SA.pure] at *
          refine Con.intro (vs := [_, _]) Try.func28 rfl Try.ntmps28 rfl (fun B => ?_)
          repeat' (first | refine Cd.seq ?_ | refine Cd.reg ?_ | refine Ops.box rfl rfl rfl rfl (noPd rfl) (fun b => ?_))
          refine Cd.draw [(0, 0, []), (1, 0, []), (2, 1, []), (3, 0, []), (4, 0, []), (5, 0, []), (6, 1, []), (7, 2, [2, 6]), (8, 2, [])] (by kernel_rfl) (by kernel_rfl) (by simp only [picked, nth]; exact rfl) ?_
          repeat' (first | refine Ops.ixA rfl rfl rfl rfl (by omega) (by omega) rfl ?_ | refine Ops.mv rfl rfl rfl rfl ?_ | refine Ops.nilP rfl rfl rfl rfl ?_ | refine Ops.fa0 rfl rfl rfl rfl ?_ | refine Ops.ld1 rfl rfl rfl rfl rfl ?_)
          refine Ops.ldNE _ rfl rfl rfl (ad_at _ _ _ _ _ hj) rfl rfl ?_
          refine Ops.alloc rfl rfl rfl (by intro v A' hR i hi; obtain ⟨b, rfl, rfl⟩ := hR; (repeat (rcases List.mem_cons.1 hi with rfl | hi; · first | exact Still.ld1 rfl rfl rfl rfl rfl | exact Still.ldNE _ rfl rfl rfl (ad_at _ _ _ _ _ hj) rfl rfl)); cases hi) (fun b4 => ?_)
          repeat' (first | refine Ops.nilN (inB (Cd.next ?_)) | refine Cd.seq ?_ | refine Cd.reg ?_ | refine Ops.nil ?_ | refine Ops.asg rfl rfl rfl rfl ?_ | refine Ops.fa0 rfl rfl rfl rfl ?_ | refine Ops.ld1 rfl rfl rfl rfl rfl ?_ | refine Ops.bin rfl rfl rfl rfl rfl ?_ | refine Ops.st1 rfl rfl rfl rfl rfl (noPd rfl) ?_ | refine Ops.stN rfl rfl rfl rfl rfl rfl (noPd rfl) ?_ | refine Cd.block ?_ | refine Cd.condT rfl (by first | rfl | assumption | (simp only [decide_eq_true_eq, decide_eq_false_iff_not, Bool.not_eq_true', Bool.not_eq_false', Bool.not_eq_eq_eq_not, Bool.not_true, Bool.not_false, beq_iff_eq, beq_eq_false_iff_ne, ne_eq, decide_eq_decide, eq_self, true_iff, iff_true, not_true_eq_false, not_false_eq_true]; first | done | omega)) ?_ | refine Cd.condF rfl (by first | rfl | assumption | (simp only [decide_eq_true_eq, decide_eq_false_iff_not, Bool.not_eq_true', Bool.not_eq_false', Bool.not_eq_eq_eq_not, Bool.not_true, Bool.not_false, beq_iff_eq, beq_eq_false_iff_ne, ne_eq, decide_eq_decide, eq_self, true_iff, iff_true, not_true_eq_false, not_false_eq_true]; first | done | omega)) ?_)
          refine Cd.draw [(0, 0, []), (1, 0, []), (2, 1, []), (3, 0, []), (4, 1, []), (5, 0, []), (6, 0, []), (7, 0, []), (8, 1, []), (9, 0, []), (10, 0, []), (11, 0, []), (12, 1, []), (13, 0, []), (14, 0, []), (15, 0, []), (16, 0, []), (17, 0, []), (18, 1, []), (19, 0, []), (20, 0, []), (21, 0, []), (22, 0, []), (23, 0, []), (24, 1, []), (25, 0, []), (26, 1, []), (27, 0, []), (28, 1, []), (29, 0, []), (30, 1, []), (31, 2, []), (32, 0, []), (33, 0, []), (34, 0, []), (35, 2, [])] (by kernel_rfl) (by kernel_rfl) (by simp only [picked, nth]; exact rfl) ?_
          repeat' (first | refine Ops.mv rfl rfl rfl rfl ?_ | refine Ops.fa0 rfl rfl rfl rfl ?_ | refine Ops.ld1 rfl rfl rfl rfl rfl ?_ | refine Ops.bin rfl rfl rfl rfl rfl ?_ | refine Ops.pickT rfl rfl rfl rfl rfl ?_ | refine Ops.pickF rfl rfl rfl rfl rfl ?_ | refine Ops.gSkip rfl rfl rfl ?_ | refine Ops.gSkipU rfl rfl rfl rfl ?_ | refine Ops.gSkipUE rfl (noPd rfl) rfl rfl rfl ?_ | ((fail_if_success refine Ops.probe rfl ?_); refine Ops.gT rfl rfl (by first | rfl | assumption | (simp only [decide_eq_true_eq, decide_eq_false_iff_not, Bool.not_eq_true', Bool.not_eq_false', Bool.not_eq_eq_eq_not, Bool.not_true, Bool.not_false, beq_iff_eq, beq_eq_false_iff_ne, ne_eq, decide_eq_decide, eq_self, true_iff, iff_true, not_true_eq_false, not_false_eq_true]; first | done | omega)) ?_) | ((fail_if_success refine Ops.probe rfl ?_); refine Ops.gF rfl rfl (by first | rfl | assumption | (simp only [decide_eq_true_eq, decide_eq_false_iff_not, Bool.not_eq_true', Bool.not_eq_false', Bool.not_eq_eq_eq_not, Bool.not_true, Bool.not_false, beq_iff_eq, beq_eq_false_iff_ne, ne_eq, decide_eq_decide, eq_self, true_iff, iff_true, not_true_eq_false, not_false_eq_true]; first | done | omega)) ?_))
          refine Ops.call (breaks_spec ab ja jobs.length jc r ba bc (brok) BG 7 (true) ob (by omega)) rfl (noPd rfl) rfl rfl rfl (fun v A' hR => ?_)
          obtain ⟨ba2, bc2, BG2, rfl, hB2⟩ := hR
          repeat' (first | refine Ops.nil ?_)
          refine Cd.draw [(0, 0, []), (1, 0, []), (2, 1, []), (3, 0, []), (4, 1, []), (5, 0, []), (6, 1, []), (7, 0, []), (8, 0, []), (9, 0, []), (10, 0, []), (11, 0, []), (12, 2, [])] (by kernel_rfl) (by kernel_rfl) (by simp only [picked, nth]; exact rfl) ?_
          repeat' (first | refine Ops.ixA rfl rfl rfl rfl (by omega) (by omega) rfl ?_ | refine Ops.mv rfl rfl rfl rfl ?_ | refine Ops.nilP rfl rfl rfl rfl ?_ | refine Ops.fa0 rfl rfl rfl rfl ?_ | refine Ops.ld1 rfl rfl rfl rfl rfl ?_ | refine Ops.addI rfl rfl rfl rfl (by omega) (by omega) rfl ?_ | refine Ops.bld rfl rfl rfl rfl ?_)
          refine Ops.stNE _ rfl rfl rfl rfl rfl rfl (ad_ins ja jobs.length jc r _ e.job e.badge (e.index + 1) hj) (by simp; omega) (noPd rfl) ?_
          exact Ops.nilN (end0 (A' := AuL ab ja jobs.length jc { r with ad := r.ad.set e.job e.badge (e.index + 1) } (.slice ba2 (brok ++ brk 7 (true)).length bc2) JG (jobs.flatMap JR.G) chunks pieces (eents ends) (ends.flatMap EN.G) BG2) rfl (fun _ h => h.split)
            ⟨⟨jobs, ja, jc, JG, { r with ad := r.ad.set e.job e.badge (e.index + 1) }, chunks, pieces, ends, _, ba2, bc2, BG2⟩, rfl, ⟨oj, ojs, oe, hB2, few, s0, s1⟩, rfl, rfl, rfl, rfl, rfl, rfl⟩)
      · exact absurd hne hi0
    · rw [show admitsF s.pure e = ({ s.pure with ad := s.r.ad.set e.job e.badge (e.index + 1) }, brk 7 (true)) from by unfold admitsF; rw [if_neg (show ¬ e.badge < (s.pure.ad.get e.job).1 from hlow)]; simp [SA.pure, hgt, hne]]
      obtain ⟨jobs, ja, jc, JG, r, chunks, pieces, ends, brok, ba, bc, BG⟩ := s
      obtain ⟨oj, ojs, oe, ob, few, s0, s1⟩ := h
      dsimp only [ActR, AuB, SA.pure] at *
      refine Con.intro (vs := [_, _]) Try.func28 rfl Try.ntmps28 rfl (fun B => ?_)
      repeat' (first | refine Cd.seq ?_ | refine Cd.reg ?_ | refine Ops.box rfl rfl rfl rfl (noPd rfl) (fun b => ?_))
      refine Cd.draw [(0, 0, []), (1, 0, []), (2, 1, []), (3, 0, []), (4, 0, []), (5, 0, []), (6, 1, []), (7, 2, [2, 6]), (8, 2, [])] (by kernel_rfl) (by kernel_rfl) (by simp only [picked, nth]; exact rfl) ?_
      repeat' (first | refine Ops.ixA rfl rfl rfl rfl (by omega) (by omega) rfl ?_ | refine Ops.mv rfl rfl rfl rfl ?_ | refine Ops.nilP rfl rfl rfl rfl ?_ | refine Ops.fa0 rfl rfl rfl rfl ?_ | refine Ops.ld1 rfl rfl rfl rfl rfl ?_)
      refine Ops.ldNE _ rfl rfl rfl (ad_at _ _ _ _ _ hj) rfl rfl ?_
      refine Ops.alloc rfl rfl rfl (by intro v A' hR i hi; obtain ⟨b, rfl, rfl⟩ := hR; (repeat (rcases List.mem_cons.1 hi with rfl | hi; · first | exact Still.ld1 rfl rfl rfl rfl rfl | exact Still.ldNE _ rfl rfl rfl (ad_at _ _ _ _ _ hj) rfl rfl)); cases hi) (fun b4 => ?_)
      repeat' (first | refine Ops.nilN (inB (Cd.next ?_)) | refine Cd.seq ?_ | refine Cd.reg ?_ | refine Ops.nil ?_ | refine Ops.asg rfl rfl rfl rfl ?_ | refine Ops.fa0 rfl rfl rfl rfl ?_ | refine Ops.ld1 rfl rfl rfl rfl rfl ?_ | refine Ops.bin rfl rfl rfl rfl rfl ?_ | refine Ops.st1 rfl rfl rfl rfl rfl (noPd rfl) ?_ | refine Ops.stN rfl rfl rfl rfl rfl rfl (noPd rfl) ?_ | refine Cd.block ?_ | refine Cd.condT rfl (by first | rfl | assumption | (simp only [decide_eq_true_eq, decide_eq_false_iff_not, Bool.not_eq_true', Bool.not_eq_false', Bool.not_eq_eq_eq_not, Bool.not_true, Bool.not_false, beq_iff_eq, beq_eq_false_iff_ne, ne_eq, decide_eq_decide, eq_self, true_iff, iff_true, not_true_eq_false, not_false_eq_true]; first | done | omega)) ?_ | refine Cd.condF rfl (by first | rfl | assumption | (simp only [decide_eq_true_eq, decide_eq_false_iff_not, Bool.not_eq_true', Bool.not_eq_false', Bool.not_eq_eq_eq_not, Bool.not_true, Bool.not_false, beq_iff_eq, beq_eq_false_iff_ne, ne_eq, decide_eq_decide, eq_self, true_iff, iff_true, not_true_eq_false, not_false_eq_true]; first | done | omega)) ?_)
      refine Cd.draw [(0, 0, []), (1, 0, []), (2, 1, []), (3, 0, []), (4, 1, []), (5, 0, []), (6, 0, []), (7, 0, []), (8, 1, []), (9, 0, []), (10, 0, []), (11, 0, []), (12, 1, []), (13, 0, []), (14, 0, []), (15, 0, []), (16, 0, []), (17, 0, []), (18, 1, []), (19, 0, []), (20, 0, []), (21, 0, []), (22, 0, []), (23, 0, []), (24, 1, []), (25, 0, []), (26, 1, []), (27, 0, []), (28, 1, []), (29, 0, []), (30, 1, []), (31, 2, []), (32, 0, []), (33, 0, []), (34, 0, []), (35, 2, [])] (by kernel_rfl) (by kernel_rfl) (by simp only [picked, nth]; exact rfl) ?_
      repeat' (first | refine Ops.mv rfl rfl rfl rfl ?_ | refine Ops.fa0 rfl rfl rfl rfl ?_ | refine Ops.ld1 rfl rfl rfl rfl rfl ?_ | refine Ops.bin rfl rfl rfl rfl rfl ?_ | refine Ops.pickT rfl rfl rfl rfl rfl ?_ | refine Ops.gSkip rfl rfl rfl ?_ | refine Ops.gSkipU rfl rfl rfl rfl ?_ | refine Ops.gSkipUE rfl (noPd rfl) rfl rfl rfl ?_ | ((fail_if_success refine Ops.probe rfl ?_); refine Ops.gT rfl rfl (by first | rfl | assumption | (simp only [decide_eq_true_eq, decide_eq_false_iff_not, Bool.not_eq_true', Bool.not_eq_false', Bool.not_eq_eq_eq_not, Bool.not_true, Bool.not_false, beq_iff_eq, beq_eq_false_iff_ne, ne_eq, decide_eq_decide, eq_self, true_iff, iff_true, not_true_eq_false, not_false_eq_true]; first | done | omega)) ?_))
      refine Ops.call (breaks_spec ab ja jobs.length jc r ba bc (brok) BG 7 (true) ob (by omega)) rfl (noPd rfl) rfl rfl rfl (fun v A' hR => ?_)
      obtain ⟨ba2, bc2, BG2, rfl, hB2⟩ := hR
      repeat' (first | refine Ops.nil ?_)
      refine Cd.draw [(0, 0, []), (1, 0, []), (2, 1, []), (3, 0, []), (4, 1, []), (5, 0, []), (6, 1, []), (7, 0, []), (8, 0, []), (9, 0, []), (10, 0, []), (11, 0, []), (12, 2, [])] (by kernel_rfl) (by kernel_rfl) (by simp only [picked, nth]; exact rfl) ?_
      repeat' (first | refine Ops.ixA rfl rfl rfl rfl (by omega) (by omega) rfl ?_ | refine Ops.mv rfl rfl rfl rfl ?_ | refine Ops.nilP rfl rfl rfl rfl ?_ | refine Ops.fa0 rfl rfl rfl rfl ?_ | refine Ops.ld1 rfl rfl rfl rfl rfl ?_ | refine Ops.addI rfl rfl rfl rfl (by omega) (by omega) rfl ?_ | refine Ops.bld rfl rfl rfl rfl ?_)
      refine Ops.stNE _ rfl rfl rfl rfl rfl rfl (ad_ins ja jobs.length jc r _ e.job e.badge (e.index + 1) hj) (by simp; omega) (noPd rfl) ?_
      exact Ops.nilN (end0 (A' := AuL ab ja jobs.length jc { r with ad := r.ad.set e.job e.badge (e.index + 1) } (.slice ba2 (brok ++ brk 7 (true)).length bc2) JG (jobs.flatMap JR.G) chunks pieces (eents ends) (ends.flatMap EN.G) BG2) rfl (fun _ h => h.split)
        ⟨⟨jobs, ja, jc, JG, { r with ad := r.ad.set e.job e.badge (e.index + 1) }, chunks, pieces, ends, _, ba2, bc2, BG2⟩, rfl, ⟨oj, ojs, oe, hB2, few, s0, s1⟩, rfl, rfl, rfl, rfl, rfl, rfl⟩)
  · by_cases hne : e.index = (s.r.ad.get e.job).2
    · by_cases hi0 : e.index = 0
      · by_cases htx : e.text = ⟨#[]⟩
        · have htb : (!decide (e.text = ⟨#[]⟩)) = false := by simp [htx]
          rw [show admitsF s.pure e = ({ s.pure with ad := s.r.ad.set e.job e.badge (e.index + 1) }, brk 7 (false)) from by unfold admitsF; rw [if_neg (show ¬ e.badge < (s.pure.ad.get e.job).1 from hlow)]; simp [SA.pure, hgt, htx, hi0, ← hne]]
          obtain ⟨jobs, ja, jc, JG, r, chunks, pieces, ends, brok, ba, bc, BG⟩ := s
          obtain ⟨oj, ojs, oe, ob, few, s0, s1⟩ := h
          dsimp only [ActR, AuB, SA.pure] at *
          refine Con.intro (vs := [_, _]) Try.func28 rfl Try.ntmps28 rfl (fun B => ?_)
          repeat' (first | refine Cd.seq ?_ | refine Cd.reg ?_ | refine Ops.box rfl rfl rfl rfl (noPd rfl) (fun b => ?_))
          refine Cd.draw [(0, 0, []), (1, 0, []), (2, 1, []), (3, 0, []), (4, 0, []), (5, 0, []), (6, 1, []), (7, 2, [2, 6]), (8, 2, [])] (by kernel_rfl) (by kernel_rfl) (by simp only [picked, nth]; exact rfl) ?_
          repeat' (first | refine Ops.ixA rfl rfl rfl rfl (by omega) (by omega) rfl ?_ | refine Ops.mv rfl rfl rfl rfl ?_ | refine Ops.nilP rfl rfl rfl rfl ?_ | refine Ops.fa0 rfl rfl rfl rfl ?_ | refine Ops.ld1 rfl rfl rfl rfl rfl ?_)
          refine Ops.ldNE _ rfl rfl rfl (ad_at _ _ _ _ _ hj) rfl rfl ?_
          refine Ops.alloc rfl rfl rfl (by intro v A' hR i hi; obtain ⟨b, rfl, rfl⟩ := hR; (repeat (rcases List.mem_cons.1 hi with rfl | hi; · first | exact Still.ld1 rfl rfl rfl rfl rfl | exact Still.ldNE _ rfl rfl rfl (ad_at _ _ _ _ _ hj) rfl rfl)); cases hi) (fun b4 => ?_)
          repeat' (first | refine Cd.seq ?_ | refine Cd.reg ?_ | refine Ops.nil ?_ | refine Ops.asg rfl rfl rfl rfl ?_ | refine Ops.fa0 rfl rfl rfl rfl ?_ | refine Ops.ld1 rfl rfl rfl rfl rfl ?_ | refine Ops.bin rfl rfl rfl rfl rfl ?_ | refine Ops.stN rfl rfl rfl rfl rfl rfl (noPd rfl) ?_ | refine Cd.block ?_ | refine Cd.skip (Cd.next (Q' := fun _ _ _ => True) ?_) | refine Cd.condF rfl (by first | rfl | assumption | (simp only [decide_eq_true_eq, decide_eq_false_iff_not, Bool.not_eq_true', Bool.not_eq_false', Bool.not_eq_eq_eq_not, Bool.not_true, Bool.not_false, beq_iff_eq, beq_eq_false_iff_ne, ne_eq, decide_eq_decide, eq_self, true_iff, iff_true, not_true_eq_false, not_false_eq_true]; first | done | omega)) ?_)
          refine Cd.draw [(0, 0, []), (1, 0, []), (2, 1, []), (3, 0, []), (4, 1, []), (5, 0, []), (6, 0, []), (7, 0, []), (8, 1, []), (9, 0, []), (10, 0, []), (11, 0, []), (12, 1, []), (13, 0, []), (14, 0, []), (15, 0, []), (16, 0, []), (17, 0, []), (18, 1, []), (19, 0, []), (20, 0, []), (21, 0, []), (22, 0, []), (23, 0, []), (24, 1, []), (25, 0, []), (26, 1, []), (27, 0, []), (28, 1, []), (29, 0, []), (30, 1, []), (31, 2, []), (32, 0, []), (33, 0, []), (34, 0, []), (35, 2, [])] (by kernel_rfl) (by kernel_rfl) (by simp only [picked, nth]; exact rfl) ?_
          repeat' (first | refine Ops.mv rfl rfl rfl rfl ?_ | refine Ops.fa0 rfl rfl rfl rfl ?_ | refine Ops.ld1 rfl rfl rfl rfl rfl ?_ | refine Ops.bin rfl rfl rfl rfl rfl ?_ | refine Ops.pickT rfl rfl rfl rfl rfl ?_ | refine Ops.pickF rfl rfl rfl rfl rfl ?_ | refine Ops.gSkip rfl rfl rfl ?_ | refine Ops.gSkipE rfl (noPd rfl) rfl rfl ?_ | ((fail_if_success refine Ops.probe rfl ?_); refine Ops.gT rfl rfl (by first | rfl | assumption | (simp only [decide_eq_true_eq, decide_eq_false_iff_not, Bool.not_eq_true', Bool.not_eq_false', Bool.not_eq_eq_eq_not, Bool.not_true, Bool.not_false, beq_iff_eq, beq_eq_false_iff_ne, ne_eq, decide_eq_decide, eq_self, true_iff, iff_true, not_true_eq_false, not_false_eq_true]; first | done | omega)) ?_) | ((fail_if_success refine Ops.probe rfl ?_); refine Ops.gF rfl rfl (by first | rfl | assumption | (simp only [decide_eq_true_eq, decide_eq_false_iff_not, Bool.not_eq_true', Bool.not_eq_false', Bool.not_eq_eq_eq_not, Bool.not_true, Bool.not_false, beq_iff_eq, beq_eq_false_iff_ne, ne_eq, decide_eq_decide, eq_self, true_iff, iff_true, not_true_eq_false, not_false_eq_true]; first | done | omega)) ?_))
          refine Ops.call (breaks_spec ab ja jobs.length jc r ba bc (brok) BG 7 (false) ob (by omega)) rfl (noPd rfl) rfl rfl rfl (fun v A' hR => ?_)
          obtain ⟨ba2, bc2, BG2, rfl, hB2⟩ := hR
          repeat' (first | refine Ops.nil ?_)
          refine Cd.draw [(0, 0, []), (1, 0, []), (2, 1, []), (3, 0, []), (4, 1, []), (5, 0, []), (6, 1, []), (7, 0, []), (8, 0, []), (9, 0, []), (10, 0, []), (11, 0, []), (12, 2, [])] (by kernel_rfl) (by kernel_rfl) (by simp only [picked, nth]; exact rfl) ?_
          repeat' (first | refine Ops.ixA rfl rfl rfl rfl (by omega) (by omega) rfl ?_ | refine Ops.mv rfl rfl rfl rfl ?_ | refine Ops.nilP rfl rfl rfl rfl ?_ | refine Ops.fa0 rfl rfl rfl rfl ?_ | refine Ops.ld1 rfl rfl rfl rfl rfl ?_ | refine Ops.addI rfl rfl rfl rfl (by omega) (by omega) rfl ?_ | refine Ops.bld rfl rfl rfl rfl ?_)
          refine Ops.stNE _ rfl rfl rfl rfl rfl rfl (ad_ins ja jobs.length jc r _ e.job e.badge (e.index + 1) hj) (by simp; omega) (noPd rfl) ?_
          exact Ops.nilN (end0 (A' := AuL ab ja jobs.length jc { r with ad := r.ad.set e.job e.badge (e.index + 1) } (.slice ba2 (brok ++ brk 7 (false)).length bc2) JG (jobs.flatMap JR.G) chunks pieces (eents ends) (ends.flatMap EN.G) BG2) rfl (fun _ h => h.split)
            ⟨⟨jobs, ja, jc, JG, { r with ad := r.ad.set e.job e.badge (e.index + 1) }, chunks, pieces, ends, _, ba2, bc2, BG2⟩, rfl, ⟨oj, ojs, oe, hB2, few, s0, s1⟩, rfl, rfl, rfl, rfl, rfl, rfl⟩)
        · have htb : (!decide (e.text = ⟨#[]⟩)) = true := by simp [htx]
          rw [show admitsF s.pure e = ({ s.pure with ad := s.r.ad.set e.job e.badge (e.index + 1) }, brk 7 (true)) from by unfold admitsF; rw [if_neg (show ¬ e.badge < (s.pure.ad.get e.job).1 from hlow)]; simp [SA.pure, hgt, htx, hi0, ← hne]]
          obtain ⟨jobs, ja, jc, JG, r, chunks, pieces, ends, brok, ba, bc, BG⟩ := s
          obtain ⟨oj, ojs, oe, ob, few, s0, s1⟩ := h
          dsimp only [ActR, AuB, SA.pure] at *
          refine Con.intro (vs := [_, _]) Try.func28 rfl Try.ntmps28 rfl (fun B => ?_)
          repeat' (first | refine Cd.seq ?_ | refine Cd.reg ?_ | refine Ops.box rfl rfl rfl rfl (noPd rfl) (fun b => ?_))
          refine Cd.draw [(0, 0, []), (1, 0, []), (2, 1, []), (3, 0, []), (4, 0, []), (5, 0, []), (6, 1, []), (7, 2, [2, 6]), (8, 2, [])] (by kernel_rfl) (by kernel_rfl) (by simp only [picked, nth]; exact rfl) ?_
          repeat' (first | refine Ops.ixA rfl rfl rfl rfl (by omega) (by omega) rfl ?_ | refine Ops.mv rfl rfl rfl rfl ?_ | refine Ops.nilP rfl rfl rfl rfl ?_ | refine Ops.fa0 rfl rfl rfl rfl ?_ | refine Ops.ld1 rfl rfl rfl rfl rfl ?_)
          refine Ops.ldNE _ rfl rfl rfl (ad_at _ _ _ _ _ hj) rfl rfl ?_
          refine Ops.alloc rfl rfl rfl (by intro v A' hR i hi; obtain ⟨b, rfl, rfl⟩ := hR; (repeat (rcases List.mem_cons.1 hi with rfl | hi; · first | exact Still.ld1 rfl rfl rfl rfl rfl | exact Still.ldNE _ rfl rfl rfl (ad_at _ _ _ _ _ hj) rfl rfl)); cases hi) (fun b4 => ?_)
          repeat' (first | refine Cd.seq ?_ | refine Cd.reg ?_ | refine Ops.nil ?_ | refine Ops.asg rfl rfl rfl rfl ?_ | refine Ops.fa0 rfl rfl rfl rfl ?_ | refine Ops.ld1 rfl rfl rfl rfl rfl ?_ | refine Ops.bin rfl rfl rfl rfl rfl ?_ | refine Ops.stN rfl rfl rfl rfl rfl rfl (noPd rfl) ?_ | refine Cd.block ?_ | refine Cd.skip (Cd.next (Q' := fun _ _ _ => True) ?_) | refine Cd.condF rfl (by first | rfl | assumption | (simp only [decide_eq_true_eq, decide_eq_false_iff_not, Bool.not_eq_true', Bool.not_eq_false', Bool.not_eq_eq_eq_not, Bool.not_true, Bool.not_false, beq_iff_eq, beq_eq_false_iff_ne, ne_eq, decide_eq_decide, eq_self, true_iff, iff_true, not_true_eq_false, not_false_eq_true]; first | done | omega)) ?_)
          refine Cd.draw [(0, 0, []), (1, 0, []), (2, 1, []), (3, 0, []), (4, 1, []), (5, 0, []), (6, 0, []), (7, 0, []), (8, 1, []), (9, 0, []), (10, 0, []), (11, 0, []), (12, 1, []), (13, 0, []), (14, 0, []), (15, 0, []), (16, 0, []), (17, 0, []), (18, 1, []), (19, 0, []), (20, 0, []), (21, 0, []), (22, 0, []), (23, 0, []), (24, 1, []), (25, 0, []), (26, 1, []), (27, 0, []), (28, 1, []), (29, 0, []), (30, 1, []), (31, 2, []), (32, 0, []), (33, 0, []), (34, 0, []), (35, 2, [])] (by kernel_rfl) (by kernel_rfl) (by simp only [picked, nth]; exact rfl) ?_
          repeat' (first | refine Ops.mv rfl rfl rfl rfl ?_ | refine Ops.fa0 rfl rfl rfl rfl ?_ | refine Ops.ld1 rfl rfl rfl rfl rfl ?_ | refine Ops.bin rfl rfl rfl rfl rfl ?_ | refine Ops.pickT rfl rfl rfl rfl rfl ?_ | refine Ops.pickF rfl rfl rfl rfl rfl ?_ | refine Ops.gSkip rfl rfl rfl ?_ | refine Ops.gSkipU rfl rfl rfl rfl ?_ | refine Ops.gSkipUE rfl (noPd rfl) rfl rfl rfl ?_ | ((fail_if_success refine Ops.probe rfl ?_); refine Ops.gT rfl rfl (by first | rfl | assumption | (simp only [decide_eq_true_eq, decide_eq_false_iff_not, Bool.not_eq_true', Bool.not_eq_false', Bool.not_eq_eq_eq_not, Bool.not_true, Bool.not_false, beq_iff_eq, beq_eq_false_iff_ne, ne_eq, decide_eq_decide, eq_self, true_iff, iff_true, not_true_eq_false, not_false_eq_true]; first | done | omega)) ?_) | ((fail_if_success refine Ops.probe rfl ?_); refine Ops.gF rfl rfl (by first | rfl | assumption | (simp only [decide_eq_true_eq, decide_eq_false_iff_not, Bool.not_eq_true', Bool.not_eq_false', Bool.not_eq_eq_eq_not, Bool.not_true, Bool.not_false, beq_iff_eq, beq_eq_false_iff_ne, ne_eq, decide_eq_decide, eq_self, true_iff, iff_true, not_true_eq_false, not_false_eq_true]; first | done | omega)) ?_))
          refine Ops.call (breaks_spec ab ja jobs.length jc r ba bc (brok) BG 7 (true) ob (by omega)) rfl (noPd rfl) rfl rfl rfl (fun v A' hR => ?_)
          obtain ⟨ba2, bc2, BG2, rfl, hB2⟩ := hR
          repeat' (first | refine Ops.nil ?_)
          refine Cd.draw [(0, 0, []), (1, 0, []), (2, 1, []), (3, 0, []), (4, 1, []), (5, 0, []), (6, 1, []), (7, 0, []), (8, 0, []), (9, 0, []), (10, 0, []), (11, 0, []), (12, 2, [])] (by kernel_rfl) (by kernel_rfl) (by simp only [picked, nth]; exact rfl) ?_
          repeat' (first | refine Ops.ixA rfl rfl rfl rfl (by omega) (by omega) rfl ?_ | refine Ops.mv rfl rfl rfl rfl ?_ | refine Ops.nilP rfl rfl rfl rfl ?_ | refine Ops.fa0 rfl rfl rfl rfl ?_ | refine Ops.ld1 rfl rfl rfl rfl rfl ?_ | refine Ops.addI rfl rfl rfl rfl (by omega) (by omega) rfl ?_ | refine Ops.bld rfl rfl rfl rfl ?_)
          refine Ops.stNE _ rfl rfl rfl rfl rfl rfl (ad_ins ja jobs.length jc r _ e.job e.badge (e.index + 1) hj) (by simp; omega) (noPd rfl) ?_
          exact Ops.nilN (end0 (A' := AuL ab ja jobs.length jc { r with ad := r.ad.set e.job e.badge (e.index + 1) } (.slice ba2 (brok ++ brk 7 (true)).length bc2) JG (jobs.flatMap JR.G) chunks pieces (eents ends) (ends.flatMap EN.G) BG2) rfl (fun _ h => h.split)
            ⟨⟨jobs, ja, jc, JG, { r with ad := r.ad.set e.job e.badge (e.index + 1) }, chunks, pieces, ends, _, ba2, bc2, BG2⟩, rfl, ⟨oj, ojs, oe, hB2, few, s0, s1⟩, rfl, rfl, rfl, rfl, rfl, rfl⟩)
      · rw [show admitsF s.pure e = ({ s.pure with ad := s.r.ad.set e.job e.badge (e.index + 1) }, brk 7 (!isT s.pieces e.badge e.index e.text)) from by unfold admitsF; rw [if_neg (show ¬ e.badge < (s.pure.ad.get e.job).1 from hlow)]; simp [SA.pure, hgt, ← hne, hi0]]
        obtain ⟨jobs, ja, jc, JG, r, chunks, pieces, ends, brok, ba, bc, BG⟩ := s
        obtain ⟨oj, ojs, oe, ob, few, s0, s1⟩ := h
        dsimp only [ActR, AuB, SA.pure] at *
        refine Con.intro (vs := [_, _]) Try.func28 rfl Try.ntmps28 rfl (fun B => ?_)
        repeat' (first | refine Cd.seq ?_ | refine Cd.reg ?_ | refine Ops.box rfl rfl rfl rfl (noPd rfl) (fun b => ?_))
        refine Cd.draw [(0, 0, []), (1, 0, []), (2, 1, []), (3, 0, []), (4, 0, []), (5, 0, []), (6, 1, []), (7, 2, [2, 6]), (8, 2, [])] (by kernel_rfl) (by kernel_rfl) (by simp only [picked, nth]; exact rfl) ?_
        repeat' (first | refine Ops.ixA rfl rfl rfl rfl (by omega) (by omega) rfl ?_ | refine Ops.mv rfl rfl rfl rfl ?_ | refine Ops.nilP rfl rfl rfl rfl ?_ | refine Ops.fa0 rfl rfl rfl rfl ?_ | refine Ops.ld1 rfl rfl rfl rfl rfl ?_)
        refine Ops.ldNE _ rfl rfl rfl (ad_at _ _ _ _ _ hj) rfl rfl ?_
        refine Ops.alloc rfl rfl rfl (by intro v A' hR i hi; obtain ⟨b, rfl, rfl⟩ := hR; (repeat (rcases List.mem_cons.1 hi with rfl | hi; · first | exact Still.ld1 rfl rfl rfl rfl rfl | exact Still.ldNE _ rfl rfl rfl (ad_at _ _ _ _ _ hj) rfl rfl)); cases hi) (fun b4 => ?_)
        repeat' (first | refine Cd.seq ?_ | refine Cd.reg ?_ | refine Ops.nil ?_ | refine Ops.asg rfl rfl rfl rfl ?_ | refine Ops.fa0 rfl rfl rfl rfl ?_ | refine Ops.ld1 rfl rfl rfl rfl rfl ?_ | refine Ops.bin rfl rfl rfl rfl rfl ?_ | refine Ops.stN rfl rfl rfl rfl rfl rfl (noPd rfl) ?_ | refine Cd.block ?_ | refine Cd.skip (Cd.next (Q' := fun _ _ _ => True) ?_) | refine Cd.condF rfl (by first | rfl | assumption | (simp only [decide_eq_true_eq, decide_eq_false_iff_not, Bool.not_eq_true', Bool.not_eq_false', Bool.not_eq_eq_eq_not, Bool.not_true, Bool.not_false, beq_iff_eq, beq_eq_false_iff_ne, ne_eq, decide_eq_decide, eq_self, true_iff, iff_true, not_true_eq_false, not_false_eq_true]; first | done | omega)) ?_)
        refine Cd.draw [(0, 0, []), (1, 0, []), (2, 1, []), (3, 0, []), (4, 1, []), (5, 0, []), (6, 0, []), (7, 0, []), (8, 1, []), (9, 0, []), (10, 0, []), (11, 0, []), (12, 1, []), (13, 0, []), (14, 0, []), (15, 0, []), (16, 0, []), (17, 0, []), (18, 1, []), (19, 0, []), (20, 0, []), (21, 0, []), (22, 0, []), (23, 0, []), (24, 1, []), (25, 0, []), (26, 1, []), (27, 0, []), (28, 1, []), (29, 0, []), (30, 1, []), (31, 2, []), (32, 0, []), (33, 0, []), (34, 0, []), (35, 2, [])] (by kernel_rfl) (by kernel_rfl) (by simp only [picked, nth]; exact rfl) ?_
        repeat' (first | refine Ops.mv rfl rfl rfl rfl ?_ | refine Ops.nilP rfl rfl rfl rfl ?_ | refine Ops.fa0 rfl rfl rfl rfl ?_ | refine Ops.ld1 rfl rfl rfl rfl rfl ?_ | refine Ops.bin rfl rfl rfl rfl rfl ?_ | refine Ops.pickF rfl rfl rfl rfl rfl ?_ | refine Ops.gSkip rfl rfl rfl ?_ | ((fail_if_success refine Ops.probe rfl ?_); refine Ops.gT rfl rfl (by first | rfl | assumption | (simp only [decide_eq_true_eq, decide_eq_false_iff_not, Bool.not_eq_true', Bool.not_eq_false', Bool.not_eq_eq_eq_not, Bool.not_true, Bool.not_false, beq_iff_eq, beq_eq_false_iff_ne, ne_eq, decide_eq_decide, eq_self, true_iff, iff_true, not_true_eq_false, not_false_eq_true]; first | done | omega)) ?_) | ((fail_if_success refine Ops.probe rfl ?_); refine Ops.gF rfl rfl (by first | rfl | assumption | (simp only [decide_eq_true_eq, decide_eq_false_iff_not, Bool.not_eq_true', Bool.not_eq_false', Bool.not_eq_eq_eq_not, Bool.not_true, Bool.not_false, beq_iff_eq, beq_eq_false_iff_ne, ne_eq, decide_eq_decide, eq_self, true_iff, iff_true, not_true_eq_false, not_false_eq_true]; first | done | omega)) ?_))
        refine Ops.call (is_spec r.pn pieces e.badge e.index e.text) rfl (noPd rfl) rfl rfl rfl (fun v A' hR => ?_)
        obtain ⟨rfl, rfl⟩ := hR
        repeat' (first | refine Ops.un rfl rfl rfl rfl ?_ | refine Ops.pickT rfl rfl rfl rfl rfl ?_ | refine Ops.pickF rfl rfl rfl rfl rfl ?_)
        refine Ops.call (breaks_spec ab ja jobs.length jc r ba bc (brok) BG 7 (!isT pieces e.badge e.index e.text) ob (by omega)) rfl (noPd rfl) rfl rfl rfl (fun v A' hR => ?_)
        obtain ⟨ba2, bc2, BG2, rfl, hB2⟩ := hR
        repeat' (first | refine Ops.nil ?_)
        refine Cd.draw [(0, 0, []), (1, 0, []), (2, 1, []), (3, 0, []), (4, 1, []), (5, 0, []), (6, 1, []), (7, 0, []), (8, 0, []), (9, 0, []), (10, 0, []), (11, 0, []), (12, 2, [])] (by kernel_rfl) (by kernel_rfl) (by simp only [picked, nth]; exact rfl) ?_
        repeat' (first | refine Ops.ixA rfl rfl rfl rfl (by omega) (by omega) rfl ?_ | refine Ops.mv rfl rfl rfl rfl ?_ | refine Ops.nilP rfl rfl rfl rfl ?_ | refine Ops.fa0 rfl rfl rfl rfl ?_ | refine Ops.ld1 rfl rfl rfl rfl rfl ?_ | refine Ops.addI rfl rfl rfl rfl (by omega) (by omega) rfl ?_ | refine Ops.bld rfl rfl rfl rfl ?_)
        refine Ops.stNE _ rfl rfl rfl rfl rfl rfl (ad_ins ja jobs.length jc r _ e.job e.badge (e.index + 1) hj) (by simp; omega) (noPd rfl) ?_
        exact Ops.nilN (end0 (A' := AuL ab ja jobs.length jc { r with ad := r.ad.set e.job e.badge (e.index + 1) } (.slice ba2 (brok ++ brk 7 (!isT pieces e.badge e.index e.text)).length bc2) JG (jobs.flatMap JR.G) chunks pieces (eents ends) (ends.flatMap EN.G) BG2) rfl (fun _ h => h.split)
          ⟨⟨jobs, ja, jc, JG, { r with ad := r.ad.set e.job e.badge (e.index + 1) }, chunks, pieces, ends, _, ba2, bc2, BG2⟩, rfl, ⟨oj, ojs, oe, hB2, few, s0, s1⟩, rfl, rfl, rfl, rfl, rfl, rfl⟩)
    · rw [show admitsF s.pure e = ({ s.pure with ad := s.r.ad.set e.job e.badge (e.index + 1) }, brk 7 (true)) from by unfold admitsF; rw [if_neg (show ¬ e.badge < (s.pure.ad.get e.job).1 from hlow)]; simp [SA.pure, hgt, hne]]
      obtain ⟨jobs, ja, jc, JG, r, chunks, pieces, ends, brok, ba, bc, BG⟩ := s
      obtain ⟨oj, ojs, oe, ob, few, s0, s1⟩ := h
      dsimp only [ActR, AuB, SA.pure] at *
      refine Con.intro (vs := [_, _]) Try.func28 rfl Try.ntmps28 rfl (fun B => ?_)
      repeat' (first | refine Cd.seq ?_ | refine Cd.reg ?_ | refine Ops.box rfl rfl rfl rfl (noPd rfl) (fun b => ?_))
      refine Cd.draw [(0, 0, []), (1, 0, []), (2, 1, []), (3, 0, []), (4, 0, []), (5, 0, []), (6, 1, []), (7, 2, [2, 6]), (8, 2, [])] (by kernel_rfl) (by kernel_rfl) (by simp only [picked, nth]; exact rfl) ?_
      repeat' (first | refine Ops.ixA rfl rfl rfl rfl (by omega) (by omega) rfl ?_ | refine Ops.mv rfl rfl rfl rfl ?_ | refine Ops.nilP rfl rfl rfl rfl ?_ | refine Ops.fa0 rfl rfl rfl rfl ?_ | refine Ops.ld1 rfl rfl rfl rfl rfl ?_)
      refine Ops.ldNE _ rfl rfl rfl (ad_at _ _ _ _ _ hj) rfl rfl ?_
      refine Ops.alloc rfl rfl rfl (by intro v A' hR i hi; obtain ⟨b, rfl, rfl⟩ := hR; (repeat (rcases List.mem_cons.1 hi with rfl | hi; · first | exact Still.ld1 rfl rfl rfl rfl rfl | exact Still.ldNE _ rfl rfl rfl (ad_at _ _ _ _ _ hj) rfl rfl)); cases hi) (fun b4 => ?_)
      repeat' (first | refine Cd.seq ?_ | refine Cd.reg ?_ | refine Ops.nil ?_ | refine Ops.asg rfl rfl rfl rfl ?_ | refine Ops.fa0 rfl rfl rfl rfl ?_ | refine Ops.ld1 rfl rfl rfl rfl rfl ?_ | refine Ops.bin rfl rfl rfl rfl rfl ?_ | refine Ops.stN rfl rfl rfl rfl rfl rfl (noPd rfl) ?_ | refine Cd.block ?_ | refine Cd.skip (Cd.next (Q' := fun _ _ _ => True) ?_) | refine Cd.condF rfl (by first | rfl | assumption | (simp only [decide_eq_true_eq, decide_eq_false_iff_not, Bool.not_eq_true', Bool.not_eq_false', Bool.not_eq_eq_eq_not, Bool.not_true, Bool.not_false, beq_iff_eq, beq_eq_false_iff_ne, ne_eq, decide_eq_decide, eq_self, true_iff, iff_true, not_true_eq_false, not_false_eq_true]; first | done | omega)) ?_)
      refine Cd.draw [(0, 0, []), (1, 0, []), (2, 1, []), (3, 0, []), (4, 1, []), (5, 0, []), (6, 0, []), (7, 0, []), (8, 1, []), (9, 0, []), (10, 0, []), (11, 0, []), (12, 1, []), (13, 0, []), (14, 0, []), (15, 0, []), (16, 0, []), (17, 0, []), (18, 1, []), (19, 0, []), (20, 0, []), (21, 0, []), (22, 0, []), (23, 0, []), (24, 1, []), (25, 0, []), (26, 1, []), (27, 0, []), (28, 1, []), (29, 0, []), (30, 1, []), (31, 2, []), (32, 0, []), (33, 0, []), (34, 0, []), (35, 2, [])] (by kernel_rfl) (by kernel_rfl) (by simp only [picked, nth]; exact rfl) ?_
      repeat' (first | refine Ops.mv rfl rfl rfl rfl ?_ | refine Ops.fa0 rfl rfl rfl rfl ?_ | refine Ops.ld1 rfl rfl rfl rfl rfl ?_ | refine Ops.bin rfl rfl rfl rfl rfl ?_ | refine Ops.pickT rfl rfl rfl rfl rfl ?_ | refine Ops.gSkip rfl rfl rfl ?_ | refine Ops.gSkipU rfl rfl rfl rfl ?_ | refine Ops.gSkipUE rfl (noPd rfl) rfl rfl rfl ?_ | ((fail_if_success refine Ops.probe rfl ?_); refine Ops.gT rfl rfl (by first | rfl | assumption | (simp only [decide_eq_true_eq, decide_eq_false_iff_not, Bool.not_eq_true', Bool.not_eq_false', Bool.not_eq_eq_eq_not, Bool.not_true, Bool.not_false, beq_iff_eq, beq_eq_false_iff_ne, ne_eq, decide_eq_decide, eq_self, true_iff, iff_true, not_true_eq_false, not_false_eq_true]; first | done | omega)) ?_))
      refine Ops.call (breaks_spec ab ja jobs.length jc r ba bc (brok) BG 7 (true) ob (by omega)) rfl (noPd rfl) rfl rfl rfl (fun v A' hR => ?_)
      obtain ⟨ba2, bc2, BG2, rfl, hB2⟩ := hR
      repeat' (first | refine Ops.nil ?_)
      refine Cd.draw [(0, 0, []), (1, 0, []), (2, 1, []), (3, 0, []), (4, 1, []), (5, 0, []), (6, 1, []), (7, 0, []), (8, 0, []), (9, 0, []), (10, 0, []), (11, 0, []), (12, 2, [])] (by kernel_rfl) (by kernel_rfl) (by simp only [picked, nth]; exact rfl) ?_
      repeat' (first | refine Ops.ixA rfl rfl rfl rfl (by omega) (by omega) rfl ?_ | refine Ops.mv rfl rfl rfl rfl ?_ | refine Ops.nilP rfl rfl rfl rfl ?_ | refine Ops.fa0 rfl rfl rfl rfl ?_ | refine Ops.ld1 rfl rfl rfl rfl rfl ?_ | refine Ops.addI rfl rfl rfl rfl (by omega) (by omega) rfl ?_ | refine Ops.bld rfl rfl rfl rfl ?_)
      refine Ops.stNE _ rfl rfl rfl rfl rfl rfl (ad_ins ja jobs.length jc r _ e.job e.badge (e.index + 1) hj) (by simp; omega) (noPd rfl) ?_
      exact Ops.nilN (end0 (A' := AuL ab ja jobs.length jc { r with ad := r.ad.set e.job e.badge (e.index + 1) } (.slice ba2 (brok ++ brk 7 (true)).length bc2) JG (jobs.flatMap JR.G) chunks pieces (eents ends) (ends.flatMap EN.G) BG2) rfl (fun _ h => h.split)
        ⟨⟨jobs, ja, jc, JG, { r with ad := r.ad.set e.job e.badge (e.index + 1) }, chunks, pieces, ends, _, ba2, bc2, BG2⟩, rfl, ⟨oj, ojs, oe, hB2, few, s0, s1⟩, rfl, rfl, rfl, rfl, rfl, rfl⟩)
end Go.Proofs.Ytfghnepmbgbnoaa
