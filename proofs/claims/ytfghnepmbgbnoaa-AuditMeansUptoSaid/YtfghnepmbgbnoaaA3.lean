import Derived.Test.YtfghnepmbgbnoaaA2
namespace Go.Proofs.Ytfghnepmbgbnoaa
open Go Go.Sep Go.Proofs
set_option maxRecDepth 10000
set_option maxHeartbeats 4000000
set_option synthInstance.maxSize 2000
set_option linter.unusedSimpArgs false
set_option linter.unusedVariables false

/-! texts by their spots -/
theorem is_spec (cm : Nat) (ch : Tx) (b i : Int) (s : ByteArray) : Con Try.prog 47 #[.map (some cm), .int .i64 b, .int .i64 i, .string s] [(cm, pm (tents ch))] fun v A => v = .bool (isT ch b i s) ∧ A = [(cm, pm (tents ch))] := by
  refine Con.intro (vs := [_, _, _, _]) Try.func47 rfl Try.ntmps47 rfl (fun B => ?_)
  unfold isT
  cases hl : lookT ch b i with
  | none =>
    repeat' (first | refine Cd.seq ?_ | refine Cd.reg ?_ | refine Ops.mv rfl rfl rfl rfl ?_ | refine Ops.asg rfl rfl rfl rfl ?_ | refine Ops.bld rfl rfl rfl rfl ?_)
    refine Ops.lkP (i := b) (j := i) rfl rfl rfl rfl rfl ?_
    rw [tget, hl]
    repeat' (first | refine Cd.seq ?_ | refine Cd.reg ?_ | refine Ops.nil ?_ | refine Ops.mv rfl rfl rfl rfl ?_ | refine Ops.asg rfl rfl rfl rfl ?_ | refine Ops.pickF rfl rfl rfl rfl rfl ?_ | refine Ops.ext rfl rfl rfl rfl rfl ?_ | refine Ops.alloc rfl rfl rfl (noPd rfl) (fun b => ?_) | refine Ops.stN rfl rfl rfl rfl rfl rfl (noPd rfl) ?_ | refine Ops.gSkip rfl rfl rfl ?_)
    exact Cd.ret (ret1 (A' := [(cm, pm (tents ch))]) rfl (Res.tmp rfl) (fun _ h => h.split) ⟨by simp, rfl⟩)
  | some u =>
    repeat' (first | refine Cd.seq ?_ | refine Cd.reg ?_ | refine Ops.mv rfl rfl rfl rfl ?_ | refine Ops.asg rfl rfl rfl rfl ?_ | refine Ops.bld rfl rfl rfl rfl ?_)
    refine Ops.lkP (i := b) (j := i) rfl rfl rfl rfl rfl ?_
    rw [tget, hl]
    repeat' (first | refine Cd.seq ?_ | refine Cd.reg ?_ | refine Ops.nil ?_ | refine Ops.mv rfl rfl rfl rfl ?_ | refine Ops.asg rfl rfl rfl rfl ?_ | refine Ops.fa0 rfl rfl rfl rfl ?_ | refine Ops.ld1 rfl rfl rfl rfl rfl ?_ | refine Ops.bin rfl rfl rfl rfl rfl ?_ | refine Ops.pickT rfl rfl rfl rfl rfl ?_ | refine Ops.ext rfl rfl rfl rfl rfl ?_ | refine Ops.alloc rfl rfl rfl (noPd rfl) (fun b => ?_) | refine Ops.stN rfl rfl rfl rfl rfl rfl (noPd rfl) ?_)
    exact Cd.ret (ret1 (A' := [(cm, pm (tents ch))]) rfl (Res.tmp rfl) (fun _ h => h.split) ⟨by simp, rfl⟩)

theorem put_spec (cm : Nat) (ch : Tx) (e : Ev) : Con Try.prog 31 #[.map (some cm), .agg e.row.toArray] [(cm, pm (tents ch))] fun v A => A = [(cm, pm (tents (putT ch e.badge e.index e.text)))] := by
  refine Con.intro (vs := [_, _]) Try.func31 rfl Try.ntmps31 rfl (fun B => ?_)
  cases hl : lookT ch e.badge e.index with
  | none =>
    have hp := tput ch e.badge e.index e.text hl
    repeat' (first | refine Cd.seq ?_ | refine Cd.reg ?_ | refine Ops.mv rfl rfl rfl rfl ?_ | refine Ops.fa0 rfl rfl rfl rfl ?_ | refine Ops.ld1 rfl rfl rfl rfl rfl ?_ | refine Ops.ldN rfl rfl rfl rfl ?_ | refine Ops.bld rfl rfl rfl rfl ?_ | refine Ops.box rfl rfl rfl rfl (noPd rfl) (fun b => ?_) | refine Ops.alloc rfl rfl rfl (noPd rfl) (fun b => ?_) | refine Ops.stN rfl rfl rfl rfl rfl rfl (noPd rfl) ?_)
    refine Ops.lkP (i := e.badge) (j := e.index) rfl rfl rfl rfl rfl ?_
    rw [tget, hl]
    repeat' (first | refine Cd.seq ?_ | refine Cd.reg ?_ | refine Ops.nil ?_ | refine Ops.mv rfl rfl rfl rfl ?_ | refine Ops.asg rfl rfl rfl rfl ?_ | refine Ops.fa0 rfl rfl rfl rfl ?_ | refine Ops.ld1 rfl rfl rfl rfl rfl ?_ | refine Ops.ldN rfl rfl rfl rfl ?_ | refine Ops.un rfl rfl rfl rfl ?_ | refine Ops.ext rfl rfl rfl rfl rfl ?_ | refine Ops.bld rfl rfl rfl rfl ?_ | refine Ops.alloc rfl rfl rfl (noPd rfl) (fun b => ?_) | refine Ops.stN rfl rfl rfl rfl rfl rfl (noPd rfl) ?_ | refine Cd.condT rfl rfl ?_)
    refine Ops.upP (i := e.badge) (j := e.index) rfl rfl rfl rfl rfl (noPd rfl) ?_
    rw [hp]
    exact Ops.nilN (end0 (A' := [(cm, pm (tents (putT ch e.badge e.index e.text)))]) rfl (fun _ h => h.split) rfl)
  | some u =>
    rw [show putT ch e.badge e.index e.text = ch from by unfold putT; rw [hl]; rfl]
    repeat' (first | refine Cd.seq ?_ | refine Cd.reg ?_ | refine Ops.mv rfl rfl rfl rfl ?_ | refine Ops.fa0 rfl rfl rfl rfl ?_ | refine Ops.ld1 rfl rfl rfl rfl rfl ?_ | refine Ops.ldN rfl rfl rfl rfl ?_ | refine Ops.bld rfl rfl rfl rfl ?_ | refine Ops.box rfl rfl rfl rfl (noPd rfl) (fun b => ?_) | refine Ops.alloc rfl rfl rfl (noPd rfl) (fun b => ?_) | refine Ops.stN rfl rfl rfl rfl rfl rfl (noPd rfl) ?_)
    refine Ops.lkP (i := e.badge) (j := e.index) rfl rfl rfl rfl rfl ?_
    rw [tget, hl]
    repeat' (first | refine Cd.seq ?_ | refine Cd.reg ?_ | refine Ops.nil ?_ | refine Ops.mv rfl rfl rfl rfl ?_ | refine Ops.asg rfl rfl rfl rfl ?_ | refine Ops.un rfl rfl rfl rfl ?_ | refine Ops.ext rfl rfl rfl rfl rfl ?_ | refine Ops.alloc rfl rfl rfl (noPd rfl) (fun b => ?_) | refine Ops.stN rfl rfl rfl rfl rfl rfl (noPd rfl) ?_ | refine Cd.condF rfl rfl ?_)
    exact Cd.skip (end0 (A' := [(cm, pm (tents ch))]) rfl (fun _ h => h.split) rfl)

/-- Texts that can be read where they lie. -/
def SIn (B : Base) (a : Option Addr) (l : List ByteArray) : Prop := ∀ (i : Nat) (s : ByteArray), l[i]? = some s → ∃ b off, a = some ⟨b, off, none⟩ ∧ ∀ A, Rd B A b (off + i * 1) (.string s)
theorem SIn.ext {B B2 : Base} {a : Option Addr} {l : List ByteArray} (e : Ext B B2) (h : SIn B a l) : SIn B2 a l := fun i s hs => by
  obtain ⟨b, off, ha, hr⟩ := h i s hs
  exact ⟨b, off, ha, fun A => (hr A).ext e⟩
theorem SIn.reads {B : Base} {a : Option Addr} {l : List ByteArray} (h : SIn B a l) (c : Nat) (A : List Blk) : Reads Try.prog B A 1 (.slice a l.length c) (l.map srow) := by
  refine ⟨rows_map (f := srow) (fun _ => ⟨rfl, rfl⟩) l, ⟨a, c, by rw [List.length_map]⟩, fun w hS => ?_⟩
  rw [List.length_map]
  cases l with
  | nil => exact (Reads.none (P := Try.prog) (B := B) (A := A) (sz := 1) (a := a) (c := c)).2.2 w hS
  | cons s0 l =>
    obtain ⟨b, off, rfl, _⟩ := h 0 s0 rfl
    have hfl : ∀ l : List ByteArray, (l.map srow).flatten = l.map Value.string := fun l => by induction l with
      | nil => rfl
      | cons x l ih => simp [ih]
    rw [hfl]
    have hcell : ∀ j u, ((s0 :: l).map Value.string)[j]? = some u → w.cell? ⟨b, off + j, none⟩ = some u := fun j u hu => by
      rw [List.getElem?_map] at hu
      cases hj : (s0 :: l)[j]? with
      | none => rw [hj] at hu; cases hu
      | some s =>
        rw [hj] at hu
        injection hu with hu
        obtain ⟨b', off', e1, hr⟩ := h j s hj
        injection e1 with e1
        injection e1 with e1 e2
        subst e1; subst e2; subst hu
        have := hr A w hS
        rwa [Nat.mul_one] at this
    have := Go.Sep.run_loadCells (P := Try.prog) (w := w) (b := b) (off := off) (n := (s0 :: l).length) (vs := (s0 :: l).map Value.string) (by simp) hcell
    unfold Builtin.firstCells
    simpa using this

theorem emitted_spec (B0 : Base) (ab : Nat) (ja : Option Addr) (jn jc : Nat) (s : SR) (bv : Value) (ch : Tx) (badge fr : Int) (a : Option Addr) (c : Nat) (l : List ByteArray) (hS : SIn B0 a l) (h0 : 0 ≤ fr) (h1 : fr ≤ 1099511627776) (hl : l.length ≤ 2000000) :
    ConB Try.prog B0 44 #[ptr ab, .int .i64 badge, .int .i64 fr, .slice a l.length c] [AB ab ja jn jc s bv, (s.cm, pm (tents ch))] fun v A => v = .bool (emitB ch badge fr l) ∧ A = [AB ab ja jn jc s bv, (s.cm, pm (tents ch))] := by
  refine ConB.intro (vs := [_, _, _, _]) Try.func44 rfl Try.ntmps44 rfl (fun B hx => ?_)
  have hS := hS.ext hx
  generalize B.plain = B1 at hS ⊢
  clear hx
  repeat' (first | refine Cd.seq ?_ | refine Cd.reg ?_ | refine Ops.nil ?_ | refine Ops.mv rfl rfl rfl rfl ?_ | refine Ops.asg rfl rfl rfl rfl ?_ | refine Ops.lenS rfl rfl rfl rfl ?_ | refine Cd.block ?_)
  refine Cd.loopK (fun i : Nat => i ≤ l.length ∧ emitB ch badge fr l = emitB ch badge (fr + i) (l.drop i)) (fun i => [(0, ptr ab), (1, .int .i64 badge), (2, .int .i64 fr), (3, .slice a l.length c), (11, .slice a l.length c), (12, .int .i64 l.length), (13, .int .i64 i)])
    (fun _ => [AB ab ja jn jc s bv, (s.cm, pm (tents ch))]) (fun i => l.length - i) 0 ⟨Nat.zero_le _, by simp⟩ ⟨rfl, rfl, rfl, rfl, rfl, rfl, rfl, trivial⟩ (fun w h => h) (fun i hI => ?_)
  obtain ⟨hi, hem⟩ := hI
  by_cases hil : i < l.length
  · have hil' : (i : Int) < l.length := by omega
    obtain ⟨x, hx⟩ : ∃ x, l[i]? = some x := ⟨_, List.getElem?_eq_getElem hil⟩
    obtain ⟨b, off, rfl, hrd⟩ := hS i x hx
    have hr0 : ∀ A, Rd B1 A b (off + (i : Int).toNat * 1) (.string x) := fun A => by rw [Int.toNat_natCast]; exact hrd A
    have hdr : l.drop i = x :: l.drop (i + 1) := by
      obtain ⟨h1, rfl⟩ := List.getElem?_eq_some_iff.1 hx
      exact List.drop_eq_getElem_cons h1
    rw [hdr, show emitB ch badge (fr + i) (x :: l.drop (i + 1)) = (isT ch badge (fr + i) x && emitB ch badge (fr + i + 1) (l.drop (i + 1))) from rfl] at hem
    repeat' (first | refine Cd.seq ?_ | refine Cd.reg ?_ | refine Ops.mv rfl rfl rfl rfl ?_ | refine Ops.bin rfl rfl rfl rfl rfl ?_ | refine Cd.block ?_ | refine Cd.skip (Cd.next ?_) | refine Ops.ixa rfl rfl rfl rfl (by omega) (by omega) rfl ?_ | refine Cd.condT rfl (by first | rfl | assumption | (simp only [decide_eq_true_eq, decide_eq_false_iff_not, Bool.not_eq_true', Bool.not_eq_false', Bool.not_eq_eq_eq_not, Bool.not_true, Bool.not_false, beq_iff_eq, beq_eq_false_iff_ne, ne_eq, decide_eq_decide, eq_self, true_iff, iff_true, not_true_eq_false, not_false_eq_true]; first | done | omega)) ?_)
    refine Ops.ldR rfl rfl rfl (hr0 _) rfl ?_
    repeat' (first | refine Cd.seq ?_ | refine Cd.reg ?_ | refine Ops.mv rfl rfl rfl rfl ?_ | refine Ops.asg rfl rfl rfl rfl ?_ | refine Ops.nilP rfl rfl rfl rfl ?_ | refine Ops.fa0 rfl rfl rfl rfl ?_ | refine Ops.ld1 rfl rfl rfl rfl rfl ?_ | refine Ops.addI rfl rfl rfl rfl (by omega) (by omega) rfl ?_)
    refine Ops.call (is_spec s.cm ch badge (fr + i) x) rfl (noPd rfl) rfl rfl rfl (fun v A' hR => ?_)
    obtain ⟨rfl, rfl⟩ := hR
    by_cases hq : isT ch badge (fr + i) x = true
    · rw [hq] at hem ⊢
      repeat' (first | refine Cd.reg ?_ | refine Ops.nil ?_ | refine Ops.mv rfl rfl rfl rfl ?_ | refine Ops.addI rfl rfl rfl rfl (by omega) (by omega) rfl ?_ | refine Ops.un rfl rfl rfl rfl ?_ | refine Cd.condF rfl rfl ?_ | refine Cd.skip (Cd.next (Q' := fun _ _ _ => True) ?_))
      exact Ops.nilN (round_end (i + 1) ⟨by show i + 1 ≤ l.length; omega, by rw [hem, Bool.true_and, show fr + (i : Int) + 1 = fr + ((i + 1 : Nat) : Int) from by omega]⟩ (by show l.length - (i + 1) < l.length - i; omega) ⟨rfl, rfl, rfl, rfl, rfl, rfl, rfl, trivial⟩ (fun w h => h.split))
    · have hq' : isT ch badge (fr + i) x = false := by simpa using hq
      rw [hq'] at hem ⊢
      repeat' (first | refine Cd.seq ?_ | refine Cd.reg ?_ | refine Ops.nil ?_ | refine Ops.asg rfl rfl rfl rfl ?_ | refine Ops.un rfl rfl rfl rfl ?_ | refine Cd.condT rfl rfl ?_)
      exact Cd.ret (ret1 (A' := [AB ab ja jn jc s bv, (s.cm, pm (tents ch))]) rfl (Res.tmp rfl) (fun _ h => h.split) ⟨by rw [hem]; rfl, rfl⟩)
  · obtain rfl : i = l.length := by omega
    rw [List.drop_length] at hem
    have hil' : ¬ ((l.length : Nat) : Int) < l.length := by omega
    repeat' (first | refine Cd.seq ?_ | refine Cd.reg ?_ | refine Ops.nil ?_ | refine Ops.asg rfl rfl rfl rfl ?_ | refine Ops.bin rfl rfl rfl rfl rfl ?_ | refine Cd.exit (Cd.next (Q' := fun _ _ _ => True) ?_) | refine Cd.condF rfl (by first | rfl | assumption | (simp only [decide_eq_true_eq, decide_eq_false_iff_not, Bool.not_eq_true', Bool.not_eq_false', Bool.not_eq_eq_eq_not, Bool.not_true, Bool.not_false, beq_iff_eq, beq_eq_false_iff_ne, ne_eq, decide_eq_decide, eq_self, true_iff, iff_true, not_true_eq_false, not_false_eq_true]; first | done | omega)) ?_)
    exact Cd.ret (ret1 (A' := [AB ab ja jn jc s bv, (s.cm, pm (tents ch))]) rfl (Res.tmp rfl) (fun _ h => h.split) ⟨by rw [hem]; rfl, rfl⟩)
end Go.Proofs.Ytfghnepmbgbnoaa
