import Derived.Test.YtnmjdoaogdaehaaGreatA26
import Derived.Test.YtnmjdoaogdaehaaGreatA10
import Derived.Test.YtnmjdoaogdaehaaGreatA24
import Derived.Test.YtnmjdoaogdaehaaGreatA13
namespace Go.Proofs.YtnmjdoaogdaehaaGreat.Ls
open Go Go.Sep Go.Proofs
set_option maxRecDepth 10000
set_option maxHeartbeats 2000000
set_option synthInstance.maxSize 2000
set_option linter.unusedSimpArgs false
set_option linter.unusedVariables false
theorem told_inv {l pre : List LE} {x : LE} (h : Told l (pre ++ [x])) : ∃ i, pre = l.take i ∧ l[i]? = some x ∧ pre.length = i := by
  obtain ⟨i, hi, h⟩ := h
  obtain ⟨d, hd⟩ : ∃ d, l[i]? = some d := ⟨_, List.getElem?_eq_getElem hi⟩
  rw [← take_next hd] at h
  obtain ⟨h1, h2⟩ := List.append_inj' h rfl
  injection h2 with h2
  subst h2
  exact ⟨i, h1, hd, by rw [h1, List.length_take]; omega⟩
theorem told_split {l pre : List LE} {x : LE} (h : Told l (pre ++ [x])) : l = pre ++ x :: l.drop (pre.length + 1) ∧ l.drop pre.length = x :: l.drop (pre.length + 1) := by
  obtain ⟨i, h1, h2, h3⟩ := told_inv h
  obtain ⟨a, b⟩ := List.getElem?_eq_some_iff.1 h2
  have e : l.drop pre.length = x :: l.drop (pre.length + 1) := by
    rw [h3, List.drop_eq_getElem_cons a, b]
  refine ⟨?_, e⟩
  rw [← e, h3]
  conv => lhs; rw [← List.take_append_drop i l, ← h1]
/-! one more -/
/-! a tick -/
theorem clip_spec (sv : Value) (rows : List (List Value)) (G : List Blk) (h : Own 83 5 sv rows G) : Con Tryz.prog 57 #[sv] [] fun v A => Rs 83 5 v rows G ∧ A = [] := by
  refine Con.intro (vs := [_]) Tryz.func57 rfl Tryz.ntmps57 rfl (fun B => ?_)
  rcases h.2 with ⟨rfl, rfl, rfl⟩ | ⟨g, c, sp, rfl, rfl, hsp, hle⟩
  · repeat' (first | refine Cd.seq ?_ | refine Cd.reg ?_ | refine Ops.mv rfl rfl rfl rfl ?_ | refine Ops.asg rfl rfl rfl rfl ?_ | refine Ops.lenS rfl rfl rfl rfl ?_)
    refine Ops.slHM rfl rfl rfl rfl rfl (by omega) (by omega) (by omega) rfl ?_
    repeat' (first | refine Ops.nil ?_ | refine Ops.asg rfl rfl rfl rfl ?_)
    exact Cd.ret (ret1 rfl (Res.tmp rfl) (fun w h => h) ⟨⟨h.1, .inl ⟨rfl, rfl, rfl⟩⟩, rfl⟩)
  · repeat' (first | refine Cd.seq ?_ | refine Cd.reg ?_ | refine Ops.mv rfl rfl rfl rfl ?_ | refine Ops.asg rfl rfl rfl rfl ?_ | refine Ops.lenS rfl rfl rfl rfl ?_)
    refine Ops.slHM rfl rfl rfl rfl rfl (by omega) (by omega) (by omega) rfl ?_
    repeat' (first | refine Ops.nil ?_ | refine Ops.asg rfl rfl rfl rfl ?_)
    exact Cd.ret (ret1 rfl (Res.tmp rfl) (fun w h => h) ⟨⟨h.1, .inr ⟨g, rows.length, sp, by simp, rfl⟩⟩, rfl⟩)
@[reducible] def TkB (b3 b1 n m : Nat) (ticks : Int) (es : List ME) (ck : Nat) (sv : Value) (G : List Blk) : List Blk :=
  (b3, cl [sv] 80) :: (b1, cl [ptr n] 68) :: (TB n m ticks es ck ++ G)
def TkI (ticks : Int) (l pre : List LE) (es : List ME) (ck : Nat) (sv : Value) (G : List Blk) : Prop :=
  MOk es ck ∧ LsIs es (restF pre ++ l.drop pre.length) ∧ Own 83 5 sv ((overF pre).map LE.row) G
theorem tick_spec (n m : Nat) (ticks : Int) (l : List LE) (es : List ME) (ck : Nat) (h : TOk ticks l es ck) : Con Tryz.prog 29 #[ptr n] (TB n m ticks es ck)
    fun v A => ∃ es' ck' G, Rs 83 5 v ((overF l).map LE.row) G ∧ A = TB n m ticks es' ck' ++ G ∧ TOk ticks (restF l) es' ck' := by
  have hfew := h.lok.few
  refine Con.intro (vs := [_]) Tryz.func29 rfl Tryz.ntmps29 rfl (fun B => ?_)
  refine Cd.seq ?_
  refine Cd.reg ?_
  refine Ops.box rfl rfl rfl rfl (noPd rfl) (fun b1 => ?_)
  repeat' (first | refine Cd.seq ?_ | refine Cd.reg ?_ | refine Ops.asg rfl rfl rfl rfl ?_ | refine Ops.ld1 rfl rfl rfl rfl rfl ?_ | refine Ops.alloc rfl rfl rfl (noPd rfl) (fun b => ?_))
  rename Nat => b3
  refine Ops.call (all_spec n) rfl (noPd rfl) rfl rfl rfl (fun v A' hR => ?_)
  obtain ⟨bA, rfl, rfl⟩ := hR
  repeat' (first | refine Ops.nil ?_ | refine Cd.block ?_)
  refine Cd.range (X := LE) (C0 := TkB b3 b1 n m ticks es ck (.slice none 0 0) []) (all_iter n bA m ticks l es ck h) rfl rfl (ps := [7]) rfl (fun _ => rfl)
    (fun pre C => ∃ es' ck' sv G, TkI ticks l pre es' ck' sv G ∧ (pre = [] → C = TkB b3 b1 n m ticks es ck (.slice none 0 0) []) ∧ C = TkB b3 b1 n m ticks es' ck' sv G)
    (fun _ _ _ => False)
    (fun pre x T C => Told l (pre ++ [x]) ∧ ∃ es' ck' sv G b4, TkI ticks l pre es' ck' sv G ∧ T = [(1, ptr b1), (3, ptr b3), (4, ptr b4)] ∧ C = (b4, cl x.row 83) :: TkB b3 b1 n m ticks es' ck' sv G)
    (fun w hw => (hw.split : Sat _ ((bA, cl [ptr n] 68) :: (b3, cl [.slice none 0 0] 80) :: (b1, cl [ptr n] 68) :: TB n m ticks es ck) w))
    ⟨es, ck, .slice none 0 0, [], ⟨h.m, h.is_, Own.none⟩, fun _ => rfl, rfl⟩
    (fun C ⟨_, _, _, _, _, hC, _⟩ => ⟨(b3, cl [.slice none 0 0] 80) :: [(b1, cl [ptr n] 68)], by
      rw [hC rfl]
      exact (Split.perm (A := (b3, cl [.slice none 0 0] 80) :: (b1, cl [ptr n] 68) :: (TB n m ticks es ck ++ [])) (A1 := TB n m ticks es ck))⟩)
    ?_ ?_ ?_ ?_
  · rintro B2 pre x C hx hok ⟨es', ck', sv, G, hI, _, rfl⟩
    repeat' (first | refine Cd.reg ?_ | refine Ops.alloc rfl rfl rfl (noPd rfl) (fun b => ?_) | refine Ops.stN rfl rfl rfl rfl rfl rfl (noPd rfl) ?_)
    exact Ops.nilN (asg_end ⟨hok, es', ck', sv, G, _, hI, rfl, rfl⟩ (fun a hF => hF.keeps ⟨rfl, rfl, rfl, trivial⟩) (fun w h => h))
  · rintro lp r B2 pre x T C hro hlp hx hok ⟨htold, es', ck', sv, G, b4, ⟨hm, hls, hO⟩, rfl, rfl⟩
    obtain ⟨hsp1, hsp2⟩ := told_split htold
    have hmem : x ∈ l := by rw [hsp1]; simp
    have hleft := h.lok.left0 x hmem
    have ht1 := h.lok.t1
    have hasc : Asc (pre ++ x :: l.drop (pre.length + 1)) := hsp1 ▸ h.lok.asc
    rw [hsp2] at hls
    have h9 := tick_set hasc hm hls
    have hm9 := hm.put (ck := ck') x.badge (dec x).val
    have hpl : (overF pre).length ≤ 8 := by
      have h1 := overF_len pre
      have h2 := congrArg List.length hsp1
      simp at h2
      omega
    obtain ⟨sa, sc, rfl⟩ := hO.form
    have hdl : l.drop (pre ++ [x]).length = l.drop (pre.length + 1) := by rw [List.length_append]; rfl
    by_cases hz : x.left - 1 = 0
    · have h8 := tick_del hasc hm9 h9
      have hm8 := hm9.del x.badge
      repeat' (first | refine Cd.seq ?_ | refine Cd.reg ?_ | refine Ops.fa0 rfl rfl rfl rfl ?_ | refine Ops.ld1 rfl rfl rfl rfl rfl ?_ | refine Ops.subI rfl rfl rfl rfl (by omega) (by omega) rfl ?_ | refine Ops.st1 rfl rfl rfl rfl rfl (noPd rfl) ?_ | refine Cd.block ?_)
      refine Cd.draw [(0, 1, []), (1, 0, []), (2, 0, []), (3, 1, []), (4, 0, []), (5, 1, []), (6, 1, []), (7, 2, [])] (by kernel_rfl) (by kernel_rfl) (by simp only [picked, nth]; exact rfl) ?_
      repeat' (first | refine Ops.upI rfl rfl rfl rfl rfl (noPd rfl) ?_ | refine Cd.seq ?_ | refine Cd.reg ?_ | refine Ops.nil ?_ | refine Ops.nilP rfl rfl rfl rfl ?_ | refine Ops.fa0 rfl rfl rfl rfl ?_ | refine Ops.ld1 rfl rfl rfl rfl rfl ?_ | refine Ops.ldN rfl rfl rfl rfl ?_ | refine Ops.bin rfl rfl rfl rfl rfl ?_ | refine Cd.condT rfl (by first | rfl | assumption | (simp only [decide_eq_true_eq, decide_eq_false_iff_not, Bool.not_eq_true', Bool.not_eq_false', Bool.not_eq_eq_eq_not, Bool.not_true, Bool.not_false, beq_iff_eq, beq_eq_false_iff_ne, ne_eq, decide_eq_decide, eq_self, true_iff, iff_true, not_true_eq_false, not_false_eq_true]; first | done | omega)) ?_)
      refine Cd.draw [(0, 1, []), (1, 0, []), (2, 0, []), (3, 1, []), (4, 0, []), (5, 1, []), (6, 2, [])] (by kernel_rfl) (by kernel_rfl) (by simp only [picked, nth]; exact rfl) ?_
      repeat' (first | refine Ops.delI rfl rfl rfl rfl (noPd rfl) ?_ | refine Cd.reg ?_ | refine Ops.nil ?_ | refine Ops.nilP rfl rfl rfl rfl ?_ | refine Ops.fa0 rfl rfl rfl rfl ?_ | refine Ops.ld1 rfl rfl rfl rfl rfl ?_ | refine Ops.ldN rfl rfl rfl rfl ?_ | refine Ops.bs1 rfl rfl rfl rfl rfl rfl rfl (noPd rfl) (fun b => ?_))
      refine Ops.app1 (rows := (overF pre).map LE.row) hO (by rw [List.length_map]; omega) (by rw [List.length_map]; omega) rfl rfl rfl rfl (by rfl) (by rfl) rfl (noPd rfl) rfl (fun v G' hG' => ?_)
      obtain ⟨a', c', rfl⟩ := hG'.form
      repeat' (first | refine Ops.st1 rfl rfl rfl rfl rfl (noPd rfl) ?_)
      exact Ops.nilN (inB (rnd_next ⟨mdel (mput es' ck' x.badge (dec x).val) x.badge, mck es' ck' x.badge, _, G', ⟨hm8, by rw [hdl, restF_app, restF_one0 hz, List.append_nil]; exact h8, by
        rw [overF_app, overF_one0 hz, List.map_append]; exact hG'⟩, fun e => by simp at e, rfl⟩ (fun w h => h.split)))
    · repeat' (first | refine Cd.seq ?_ | refine Cd.reg ?_ | refine Ops.fa0 rfl rfl rfl rfl ?_ | refine Ops.ld1 rfl rfl rfl rfl rfl ?_ | refine Ops.subI rfl rfl rfl rfl (by omega) (by omega) rfl ?_ | refine Ops.st1 rfl rfl rfl rfl rfl (noPd rfl) ?_ | refine Cd.block ?_)
      refine Cd.draw [(0, 1, []), (1, 0, []), (2, 0, []), (3, 1, []), (4, 0, []), (5, 1, []), (6, 1, []), (7, 2, [])] (by kernel_rfl) (by kernel_rfl) (by simp only [picked, nth]; exact rfl) ?_
      repeat' (first | refine Ops.upI rfl rfl rfl rfl rfl (noPd rfl) ?_ | refine Cd.seq ?_ | refine Cd.reg ?_ | refine Ops.nil ?_ | refine Ops.nilP rfl rfl rfl rfl ?_ | refine Ops.fa0 rfl rfl rfl rfl ?_ | refine Ops.ld1 rfl rfl rfl rfl rfl ?_ | refine Ops.ldN rfl rfl rfl rfl ?_ | refine Ops.bin rfl rfl rfl rfl rfl ?_ | refine Cd.condF rfl (by first | rfl | assumption | (simp only [decide_eq_true_eq, decide_eq_false_iff_not, Bool.not_eq_true', Bool.not_eq_false', Bool.not_eq_eq_eq_not, Bool.not_true, Bool.not_false, beq_iff_eq, beq_eq_false_iff_ne, ne_eq, decide_eq_decide, eq_self, true_iff, iff_true, not_true_eq_false, not_false_eq_true]; first | done | omega)) ?_)
      exact Cd.skip (inB (rnd_next ⟨mput es' ck' x.badge (dec x).val, mck es' ck' x.badge, _, G, ⟨hm9, by rw [hdl, restF_app, restF_one1 hz, List.append_assoc]; exact h9, by
        rw [overF_app, overF_one1 hz, List.append_nil]; exact hO⟩, fun e => by simp at e, rfl⟩ (fun w h => h.tail)))
  · rintro D xs C hD rfl ⟨es', ck', sv, G, ⟨hm, hls, hO⟩, _, rfl⟩
    rw [List.drop_length, List.append_nil] at hls
    obtain ⟨sa, sc, rfl⟩ := hO.form
    refine Cd.next (Q' := fun _ _ _ => True) ?_
    repeat' (first | refine Cd.seq ?_ | refine Cd.reg ?_ | refine Ops.ld1 rfl rfl rfl rfl rfl ?_)
    refine Ops.call (clip_spec _ _ G hO) rfl (noPd rfl) rfl rfl rfl (fun v A' hR => ?_)
    obtain ⟨hRs, rfl⟩ := hR
    obtain ⟨va, vc, rfl⟩ := hRs.form
    repeat' (first | refine Ops.nil ?_ | refine Ops.asg rfl rfl rfl rfl ?_)
    exact Cd.ret (unmark (mark1 hD) (ret1 (A' := TB n m ticks es' ck' ++ G) rfl (Res.tmp rfl) (fun w h => h.split) ⟨es', ck', G, hRs, rfl, restF_ok h.lok, hm, hls⟩))
  · rintro D c pre C hD hZ
    exact hZ.elim
end Go.Proofs.YtnmjdoaogdaehaaGreat.Ls
/- Ranges over texts. -/
namespace Go.Sep
open Go
def sit (s : ByteArray) (pos : Nat) : Obj := .stringIter s pos
section
variable {P : Program} {N : Fi} {B : Base} {Q : Exit → Act → World → Prop} {T : Tm} {A : List Blk} {ops : Array Oper} {l : List Oper}
variable {d : Nat} {ty : TypeId} {pos : String} {af : Array Edge} {m : Md} {gd : Option (Nat × Bool)}
theorem Ops.rngS {t : TypeId} {x : Operand} {s : ByteArray} (hm : m.eff = true) (hg : gst ops T gd = some true) [ht : TyD P t .string] (hx : ev T x = some (.string s)) (hd : Nat.blt d N.n = true)
    (hp : Pd P N B ops m T (some d) (NewR (fun r => .pointer (some ⟨r, 0, none⟩)) (sit s 0) A)) (k : ∀ r, Ops P N B Q ops m.tl l ((d, .pointer (some ⟨r, 0, none⟩)) :: T) ((r, sit s 0) :: A)) :
    Ops P N B Q ops m (⟨some d, .range t x, ty, pos, af, gd⟩ :: l) T A :=
  Ops.new (v := fun r => .pointer (some ⟨r, 0, none⟩)) hm hp hg hd (fun a w hF hS => by
    simp [execOp, hF.eval hx, Instr.range, ht.run_und, sit]) k
theorem Ops.nxS {x : Operand} {r p : Nat} {s : ByteArray} (c wd : Nat) {A' : List Blk} (hm : m.eff = true) (hg : gst ops T gd = some true) (hx : ev T x = some (.pointer (some ⟨r, 0, none⟩))) [hr : Has A r (sit s p)] (hlt : p < s.size) (hdec : Utf8.decode s p = (c, wd)) [hu : Upd A r (sit s p) (sit s (p + wd)) A'] (hd : Nat.blt d N.n = true)
    (hp : Pd P N B ops m T (some d) (fun v X => v = .tuple #[.bool true, .int .i64 p, .int .i32 c] ∧ X = A')) (k : Ops P N B Q ops m.tl l ((d, .tuple #[.bool true, .int .i64 p, .int .i32 c]) :: T) A') :
    Ops P N B Q ops m (⟨some d, .next x true, ty, pos, af, gd⟩ :: l) T A :=
  Ops.effV hm hp hg hd (fun a w hF hS => by
    have h0 := hS.here _ hr.mem
    simp only [sit] at h0
    have hi : (getObj r).run P w = .ok (.stringIter s p) w := by simp only [getObj, Sem.run, h0]
    have hset : (setObj r (.stringIter s (p + wd))).run P w = .ok () (w.putObj r (.stringIter s (p + wd))) := by simp [setObj, Sem.run, h0, World.putObj]
    obtain ⟨A1, A2, e1, rfl⟩ := hu.put
    have hn : (Instr.next (.pointer (some ⟨r, 0, none⟩)) true ty).run P w = .ok (.tuple #[.bool true, .int .i64 p, .int .i32 c]) (w.putObj r (.stringIter s (p + wd))) := by
      simp [Instr.next, hi, hlt, hdec, hset, goInt]
    simp only [execOp, hF.eval hx, Sem.run_bind, hn, Result.andThen_ok, Sem.run_pure, effPost]
    refine ⟨_, ⟨trivial, rfl⟩, ?_⟩
    subst e1
    have hrlt := lt_of_get h0
    refine hS.put rfl rfl rfl ?_ ?_
    · simp [World.putObj, sit, hrlt]
    · intro n hne
      simp [World.putObj, Array.getElem?_setIfInBounds_ne (Ne.symm hne)]) fun v X ⟨h1, h2⟩ => by rw [h1, h2]; exact k
theorem Ops.nxE {x : Operand} {r p : Nat} {s : ByteArray} (hm : m.eff = true) (hg : gst ops T gd = some true) (hx : ev T x = some (.pointer (some ⟨r, 0, none⟩))) [hr : Has A r (sit s p)] (hlt : ¬ p < s.size) (hd : Nat.blt d N.n = true)
    (hp : Pd P N B ops m T (some d) (fun v X => v = .tuple #[.bool false] ∧ X = A)) (k : Ops P N B Q ops m.tl l ((d, .tuple #[.bool false]) :: T) A) :
    Ops P N B Q ops m (⟨some d, .next x true, ty, pos, af, gd⟩ :: l) T A :=
  Ops.effV hm hp hg hd (fun a w hF hS => by
    have h0 := hS.here _ hr.mem
    simp only [sit] at h0
    have hi : (getObj r).run P w = .ok (.stringIter s p) w := by simp only [getObj, Sem.run, h0]
    have hn : (Instr.next (.pointer (some ⟨r, 0, none⟩)) true ty).run P w = .ok (.tuple #[.bool false]) w := by
      simp [Instr.next, hi, hlt]
    simp only [execOp, hF.eval hx, Sem.run_bind, hn, Result.andThen_ok, Sem.run_pure, effPost]
    exact ⟨_, ⟨trivial, rfl⟩, hS⟩) fun v X ⟨h1, h2⟩ => by rw [h1, h2]; exact k
end
end Go.Sep
/- A field of a struct that lies in a slot. -/
namespace Go.Sep
open Go
section
variable {P : Program} {N : Fi} {B : Base} {Q : Exit → Act → World → Prop} {T : Tm} {A : List Blk} {ops : Array Oper} {l : List Oper}
variable {d : Nat} {ty : TypeId} {pos : String} {af : Array Edge} {m : Md} {gd : Option (Nat × Bool)}
theorem Ops.fld {s f off : Nat} {x : Operand} {vs : List Value} {v : Value} (hf : ∃ (fields : Array Field) (fd : Field) (dd : TypeDesc), P.underlying s = some (.struct fields) ∧ fields[f]? = some fd ∧ P.underlying fd.type = some dd ∧ aggD dd = false ∧ fd.offset = off)
    (hm : m.rd true = true) (hg : gst ops T gd = some true) (hx : ev T x = some (.agg vs.toArray)) (hv : vs[off]? = some v) (hd : Nat.blt d N.n = true)
    (k : Ops P N B Q ops m.tl l ((d, v) :: T) A) : Ops P N B Q ops m (⟨some d, .field s x f, ty, pos, af, gd⟩ :: l) T A :=
  Ops.pureV hm hg hd (fun a w hF => by
    obtain ⟨fields, fd, dd, h1, h2, h3, h4, h5⟩ := hf
    have h6 : (isAgg fd.type).run P w = .ok false w := by
      simp only [isAgg, Sem.run_bind, run_underlying h3 w, Result.andThen_ok]
      cases dd <;> first | rfl | cases h4
    simp [execOp, hF.eval hx, Instr.field, run_underlying h1, h2, part, asAgg, h6, h5, hv]) k
end
section
variable {P : Program}
theorem eqIn_ifaceNil {t : TypeId} {d0 : TypeDesc} [h : TyD P t d0] (hi : ∃ m, d0 = .interface m) {w : World} (d : Nat) : (Op.equalIn (d + 1) t .nilIface .nilIface).run P w = .ok true w := by
  obtain ⟨m, rfl⟩ := hi
  simp [Op.equalIn, h.run_und]
theorem run_eqGuard_iface {t : TypeId} {xo : Operand} {v : Value} {w : World} : (eqGuard .eql t xo (.const v) .nilIface .nilIface).run P w = .ok () w := by
  unfold eqGuard
  simp
variable {N : Fi} {B : Base} {Q : Exit → Act → World → Prop} {T : Tm} {A : List Blk} {ops : Array Oper} {l : List Oper}
variable {d : Nat} {ty : TypeId} {pos : String} {af : Array Edge} {m : Md} {gd : Option (Nat × Bool)}
theorem Ops.eqIfaceNil {t t' : TypeId} {d0 : TypeDesc} {x : Operand} [h : TyD P t d0] (hi : ∃ m, d0 = .interface m) (hm : m.rd true = true) (hg : gst ops T gd = some true) (hx : ev T x = some .nilIface) (hd : Nat.blt d N.n = true)
    (k : Ops P N B Q ops m.tl l ((d, .bool true) :: T) A) : Ops P N B Q ops m (⟨some d, .binOp .eql t x (.const .nilIface) t', ty, pos, af, gd⟩ :: l) T A :=
  Ops.pureV hm hg hd (fun a w hF => by
    have h1 : (binOp .eql t .nilIface .nilIface).run P w = .ok (.bool true) w := run_eql rfl fun d => eqIn_ifaceNil hi d
    have hy : a.eval (.const .nilIface) = .nilIface := rfl
    simp only [execOp, hF.eval hx, hy, Sem.run_bind, run_eqGuard_iface, Result.andThen_ok, h1]
    rfl) k
end
end Go.Sep
namespace Go.Proofs.YtnmjdoaogdaehaaGreat.Se
open Go Go.Sep Go.Proofs
set_option maxRecDepth 10000
set_option maxHeartbeats 1000000
set_option linter.unusedSimpArgs false
set_option linter.unusedVariables false
/-- A table's row. -/
structure Dk where
  slot : Int
  life : Int
  session : Int
  last : Int
  reply : ByteArray
@[reducible] def Dk.row (d : Dk) : List Value := [.int .i64 d.slot, .int .i64 d.life, .int .i64 d.session, .int .i64 d.last, .string d.reply]
@[reducible] def Dk.zero (i : Int) : Dk := ⟨i, 0, 0, 0, ⟨#[]⟩⟩
def dks (rs : List Dk) : List (List Value) := rs.map Dk.row
theorem dks_len (rs : List Dk) : (dks rs).length = rs.length := by simp [dks]
theorem dks_ok (rs : List Dk) : RowsOk 5 (dks rs) := fun r hr => by
  obtain ⟨d, _, rfl⟩ := List.mem_map.1 hr
  exact ⟨rfl, rfl⟩
def OwnK (sv : Value) (rs : List Dk) (G : List Blk) : Prop := Own 247 5 sv (dks rs) G
@[reducible] def TabB (n : Nat) (sv : Value) (G : List Blk) : List Blk := (n, cl [sv] 245) :: G
theorem OwnK.form {sv : Value} {rs : List Dk} {G : List Blk} (h : OwnK sv rs G) : ∃ a c, sv = .slice a rs.length c := by
  obtain ⟨a, c, h⟩ := Own.form h
  exact ⟨a, c, by rw [h, dks_len]⟩
theorem OwnK.some_ {sv : Value} {rs : List Dk} {G : List Blk} (h : OwnK sv rs G) (hn : 0 < rs.length) :
    ∃ g c spare, sv = .slice (some ⟨g, 0, none⟩) rs.length c ∧ G = [(g, cl ((dks rs).flatten ++ spare) 247)] ∧ (dks rs).flatten.length + spare.length = c * 5 ∧ rs.length ≤ c := by
  obtain ⟨g, c, spare, h1, h2, h3, h4⟩ := Own.some_ h (by rw [dks_len]; exact hn)
  rw [dks_len] at h1 h4
  exact ⟨g, c, spare, h1, h2, h3, h4⟩
structure NtS where
  i : Nat
  sv : Value
  G : List Blk
def fresh (k : Nat) : List Dk := (List.range k).map fun i : Nat => Dk.zero (i : Int)
theorem fresh_app (k : Nat) {v : Value} {G : List Blk} (h : Own 247 5 v (dks (fresh k) ++ [[.int .i64 (k : Int), .int .i64 0, .int .i64 0, .int .i64 0, .string ⟨#[]⟩]]) G) : ∃ a c, v = .slice a (k + 1) c ∧ OwnK v (fresh (k + 1)) G := by
  have h' : OwnK v (fresh (k + 1)) G := by
    unfold OwnK
    have : dks (fresh (k + 1)) = dks (fresh k) ++ [[.int .i64 (k : Int), .int .i64 0, .int .i64 0, .int .i64 0, .string ⟨#[]⟩]] := by simp [dks, fresh, List.range_succ]
    rw [this]; exact h
  obtain ⟨a, c, e⟩ := h'.form
  exact ⟨a, c, by rw [e]; simp [fresh], h'⟩
theorem newt_yes (r : Nat) (h1 : 1 ≤ r) (h2 : r ≤ 8) : Con Tryz.prog 79 #[.int .i64 r] [] fun v A => ∃ b sv G, v = .tuple #[ptr b, .int .i64 0] ∧ A = TabB b sv G ∧ OwnK sv (fresh r) G := by
  refine Con.intro (vs := [_]) Tryz.func79 rfl Tryz.ntmps79 rfl (fun B => ?_)
  repeat' (first | refine Cd.seq ?_ | refine Cd.reg ?_ | refine Ops.nil ?_ | refine Ops.mv rfl rfl rfl rfl ?_ | refine Ops.asg rfl rfl rfl rfl ?_ | refine Ops.bin rfl rfl rfl rfl rfl ?_ | refine Ops.pickF rfl rfl rfl rfl rfl ?_ | refine Ops.bld rfl rfl rfl rfl ?_ | refine Ops.box rfl rfl rfl rfl (noPd rfl) (fun b => ?_) | refine Cd.block ?_ | refine Cd.skip (Cd.next ?_) | refine Cd.condF rfl (by first | rfl | assumption | (simp only [decide_eq_true_eq, decide_eq_false_iff_not, Bool.not_eq_true', Bool.not_eq_false', Bool.not_eq_eq_eq_not, Bool.not_true, Bool.not_false, beq_iff_eq, beq_eq_false_iff_ne, ne_eq, decide_eq_decide, eq_self, true_iff, iff_true, not_true_eq_false, not_false_eq_true]; first | done | omega)) ?_ | ((fail_if_success refine Ops.probe rfl ?_); refine Ops.gF rfl rfl (by first | rfl | assumption | (simp only [decide_eq_true_eq, decide_eq_false_iff_not, Bool.not_eq_true', Bool.not_eq_false', Bool.not_eq_eq_eq_not, Bool.not_true, Bool.not_false, beq_iff_eq, beq_eq_false_iff_ne, ne_eq, decide_eq_decide, eq_self, true_iff, iff_true, not_true_eq_false, not_false_eq_true]; first | done | omega)) ?_))
  rename Nat => tb
  refine Cd.loopK (fun s : NtS => s.i ≤ r ∧ OwnK s.sv (fresh s.i) s.G) (fun s => [(4, ptr tb), (14, .int .i64 r), (15, .int .i64 s.i)]) (fun s => TabB tb s.sv s.G) (fun s => r - s.i) ⟨0, .slice none 0 0, []⟩ ⟨Nat.zero_le _, (Own.none : OwnK _ [] _)⟩ ⟨rfl, rfl, rfl, trivial⟩
    (fun w h => (h.split : Sat _ (TabB tb (.slice none 0 0) []) w)) (fun s hI => ?_)
  obtain ⟨i, sv, G⟩ := s
  obtain ⟨hi, hO⟩ := hI
  dsimp only at hi hO ⊢
  by_cases hil : i < r
  · repeat' (first | refine Cd.seq ?_ | refine Cd.reg ?_ | refine Ops.mv rfl rfl rfl rfl ?_ | refine Ops.asg rfl rfl rfl rfl ?_ | refine Ops.nilP rfl rfl rfl rfl ?_ | refine Ops.fa0 rfl rfl rfl rfl ?_ | refine Ops.ld1 rfl rfl rfl rfl rfl ?_ | refine Ops.bin rfl rfl rfl rfl rfl ?_ | refine Ops.bld rfl rfl rfl rfl ?_ | refine Ops.bs1 rfl rfl rfl rfl rfl rfl rfl (noPd rfl) (fun b => ?_) | refine Cd.block ?_ | refine Cd.skip (Cd.next ?_) | refine Cd.condT rfl (by first | rfl | assumption | (simp only [decide_eq_true_eq, decide_eq_false_iff_not, Bool.not_eq_true', Bool.not_eq_false', Bool.not_eq_eq_eq_not, Bool.not_true, Bool.not_false, beq_iff_eq, beq_eq_false_iff_ne, ne_eq, decide_eq_decide, eq_self, true_iff, iff_true, not_true_eq_false, not_false_eq_true]; first | done | omega)) ?_)
    refine Ops.app1 (rows := dks (fresh i)) hO (by rw [dks_len]; simp [fresh]; omega) (by rw [dks_len]; simp [fresh]; omega) rfl rfl rfl rfl (by rfl) (by rfl) rfl (noPd rfl) rfl (fun v G' hG' => ?_)
    obtain ⟨a, c, rfl, hG'⟩ := fresh_app i hG'
    repeat' (first | refine Cd.reg ?_ | refine Ops.mv rfl rfl rfl rfl ?_ | refine Ops.nilP rfl rfl rfl rfl ?_ | refine Ops.fa0 rfl rfl rfl rfl ?_ | refine Ops.addI rfl rfl rfl rfl (by omega) (by omega) rfl ?_ | refine Ops.st1 rfl rfl rfl rfl rfl (noPd rfl) ?_)
    exact Ops.nilN (round_end (⟨i + 1, _, G'⟩ : NtS) ⟨by show i + 1 ≤ r; omega, hG'⟩ (by show r - (i + 1) < r - i; omega) ⟨rfl, rfl, rfl, trivial⟩ (fun w h => (h.split : Sat _ (TabB tb (.slice a (i + 1) c) G') w)))
  · obtain rfl : i = r := by omega
    repeat' (first | refine Cd.seq ?_ | refine Cd.reg ?_ | refine Ops.nil ?_ | refine Ops.mv rfl rfl rfl rfl ?_ | refine Ops.asg rfl rfl rfl rfl ?_ | refine Ops.bin rfl rfl rfl rfl rfl ?_ | refine Cd.exit (Cd.next (Q' := fun _ _ _ => True) ?_) | refine Cd.condF rfl (by first | rfl | assumption | (simp only [decide_eq_true_eq, decide_eq_false_iff_not, Bool.not_eq_true', Bool.not_eq_false', Bool.not_eq_eq_eq_not, Bool.not_true, Bool.not_false, beq_iff_eq, beq_eq_false_iff_ne, ne_eq, decide_eq_decide, eq_self, true_iff, iff_true, not_true_eq_false, not_false_eq_true]; first | done | omega)) ?_)
    exact Cd.ret (ret2 rfl (Res.tmp rfl) (Res.tmp rfl) (fun _ h => h) ⟨_, _, _, rfl, rfl, hO⟩)
def hasB (slot : Int) (k : Nat) : Bool := decide (0 ≤ slot ∧ slot < k)
theorem has_spec (n : Nat) (sv : Value) (rs : List Dk) (G : List Blk) (slot : Int) (hO : OwnK sv rs G) : Con Tryz.prog 168 #[ptr n, .int .i64 slot] (TabB n sv G) fun v A => v = .bool (hasB slot rs.length) ∧ A = TabB n sv G := by
  obtain ⟨a, c, rfl⟩ := hO.form
  refine Con.intro (vs := [_, _]) Tryz.func168 rfl Tryz.ntmps168 rfl (fun B => ?_)
  repeat' (first | refine Cd.seq ?_ | refine Cd.reg ?_ | refine Ops.nil ?_ | refine Ops.mv rfl rfl rfl rfl ?_ | refine Ops.asg rfl rfl rfl rfl ?_ | refine Ops.nilP rfl rfl rfl rfl ?_ | refine Ops.fa0 rfl rfl rfl rfl ?_ | refine Ops.ld1 rfl rfl rfl rfl rfl ?_ | refine Ops.lenS rfl rfl rfl rfl ?_ | refine Ops.bin rfl rfl rfl rfl rfl ?_ | refine Ops.pickT rfl rfl rfl rfl rfl ?_ | refine Ops.pickF rfl rfl rfl rfl rfl ?_ | refine Ops.gSkip rfl rfl rfl ?_ | ((fail_if_success refine Ops.probe rfl ?_); refine Ops.gSplit rfl rfl (fun hc => ?_) (fun hc => ?_) <;> (try simp only [decide_eq_true_eq, decide_eq_false_iff_not, Bool.not_eq_true', Bool.not_eq_false', Bool.not_eq_eq_eq_not, Bool.not_true, Bool.not_false, Int.not_lt, Int.not_le] at hc)))
  all_goals refine Cd.ret (ret1 rfl (Res.tmp rfl) (fun _ h => h) ⟨?_, rfl⟩)
  all_goals (unfold hasB; refine congrArg Value.bool ?_; first | (simp only [decide_eq_decide]; omega) | (symm; simp only [decide_eq_true_eq, decide_eq_false_iff_not]; omega))
def cntB (n : Int) : Bool := decide (1 ≤ n ∧ n ≤ 1099511627776)
theorem counts_spec (x : Int) : Con Tryz.prog 169 #[.int .i64 x] [] fun v A => v = .bool (cntB x) ∧ A = [] := by
  refine Con.intro (vs := [_]) Tryz.func169 rfl Tryz.ntmps169 rfl (fun B => ?_)
  repeat' (first | refine Cd.seq ?_ | refine Cd.reg ?_ | refine Ops.nil ?_ | refine Ops.mv rfl rfl rfl rfl ?_ | refine Ops.asg rfl rfl rfl rfl ?_ | refine Ops.bin rfl rfl rfl rfl rfl ?_ | refine Ops.pickT rfl rfl rfl rfl rfl ?_ | refine Ops.pickF rfl rfl rfl rfl rfl ?_ | refine Ops.gSkip rfl rfl rfl ?_ | ((fail_if_success refine Ops.probe rfl ?_); refine Ops.gSplit rfl rfl (fun hc => ?_) (fun hc => ?_) <;> (try simp only [decide_eq_true_eq, decide_eq_false_iff_not, Bool.not_eq_true', Bool.not_eq_false', Bool.not_eq_eq_eq_not, Bool.not_true, Bool.not_false, Int.not_lt, Int.not_le] at hc)))
  all_goals refine Cd.ret (ret1 rfl (Res.tmp rfl) (fun _ h => h) ⟨?_, rfl⟩)
  all_goals (unfold cntB; refine congrArg Value.bool ?_; first | (simp only [decide_eq_decide]; omega) | (symm; simp only [decide_eq_true_eq, decide_eq_false_iff_not]; omega))
end Go.Proofs.YtnmjdoaogdaehaaGreat.Se
