import Derived.Test.YtkcmjgjfodipfaaGreatA13
import Derived.Test.YtkcmjgjfodipfaaGreatA06
namespace Go.Proofs.YtkcmjgjfodipfaaGreat
open Go Go.Sep Go.Proofs
set_option maxRecDepth 10000
set_option maxHeartbeats 4000000
set_option synthInstance.maxSize 2000
set_option linter.unusedSimpArgs false
set_option linter.unusedVariables false
/-! builders of texts -/
instance : TyD Tryz.prog 400 .unsafePointer := ⟨Tryz.underlying400⟩
instance : ExtOk Tryz.prog 269 Extern.AbiNoEscape.same := ⟨⟨_, Tryz.func269, by kernel_rfl, by kernel_rfl, by kernel_rfl, by kernel_rfl⟩⟩
instance : ExtOk Tryz.prog 315 (Extern.BytealgMakeNoZero.makeNoZero #[3] #[233]) := ⟨⟨_, Tryz.func315, by kernel_rfl, by kernel_rfl, by kernel_rfl, by kernel_rfl⟩⟩
theorem cells_u8 : Tryz.prog.cellsOf 5 = 1 := by kernel_rfl
theorem lies_bld : liesAt Tryz.prog Tryz.prog.depth 247 (2 / Tryz.prog.cellsOf 247) 0 247 1 = true := by kernel_rfl
instance : PtrSized Tryz.prog 245 := ⟨_, _, _, _, _, inferInstance, inferInstance, by decide⟩
@[reducible] def BuB (bb : Nat) (a0 : Option Addr) (sv : Value) : Blk := (bb, cl [.pointer a0, sv] 247)
theorem cpck_spec (bb : Nat) (a0 : Option Addr) (sv : Value) (ha : a0 = none ∨ a0 = some ⟨bb, 0, none⟩) : Con Tryz.prog 205 #[ptr bb] [BuB bb a0 sv] fun v A => A = [BuB bb (some ⟨bb, 0, none⟩) sv] := by
  refine Con.intro (vs := [_]) Tryz.func205 rfl Tryz.ntmps205 rfl (fun B => ?_)
  rcases ha with rfl | rfl
  · repeat' (first | refine Cd.seq ?_ | refine Cd.reg ?_ | refine Ops.nil ?_ | refine Ops.mv rfl rfl rfl rfl ?_ | refine Ops.nilP rfl rfl rfl rfl ?_ | refine Ops.fa0 rfl rfl rfl rfl ?_ | refine Ops.ld1 rfl rfl rfl rfl rfl ?_ | refine Ops.bin rfl rfl rfl rfl rfl ?_ | refine Cd.condT rfl rfl ?_)
    refine Ops.toU (off := 0) rfl rfl (by decide) rfl (by simp) rfl ?_
    refine Ops.extR (vs := [ptr bb]) rfl rfl rfl (fun w => Lib.run_noEscape w _) rfl (noPd rfl) ?_
    refine Ops.fromU rfl rfl lies_bld rfl rfl ?_
    repeat' (first | refine Ops.nilP rfl rfl rfl rfl ?_ | refine Ops.fa0 rfl rfl rfl rfl ?_ | refine Ops.st1 rfl rfl rfl rfl rfl (noPd rfl) ?_)
    exact Ops.nilN (end0 (A' := [BuB bb (some ⟨bb, 0, none⟩) sv]) rfl (fun _ h => h.split) rfl)
  · repeat' (first | refine Cd.seq ?_ | refine Cd.reg ?_ | refine Ops.nil ?_ | refine Ops.mv rfl rfl rfl rfl ?_ | refine Ops.nilP rfl rfl rfl rfl ?_ | refine Ops.fa0 rfl rfl rfl rfl ?_ | refine Ops.ld1 rfl rfl rfl rfl rfl ?_ | refine Ops.bin rfl rfl rfl rfl rfl ?_ | refine Cd.condF rfl rfl ?_)
    exact Cd.skip (end0 (A' := [BuB bb (some ⟨bb, 0, none⟩) sv]) rfl (fun _ h => h.split) rfl)
/-- A builder that has these bytes. -/
def BuA (bb : Nat) (s : ByteArray) (D : List Blk) : Prop := ∃ a0 sv G, D = BuB bb a0 sv :: G ∧ (a0 = none ∨ a0 = some ⟨bb, 0, none⟩) ∧ BG 5 sv s G
theorem bwrite_spec (bb : Nat) (s u : ByteArray) (D : List Blk) (hD : BuA bb s D) (hsz : s.size + u.size ≤ 1000000000000) : Con Tryz.prog 121 #[ptr bb, .string u] D fun v A => BuA bb (s ++ u) A := by
  obtain ⟨a0, sv, G, rfl, ha, hG⟩ := hD
  refine Con.intro (vs := [_, _]) Tryz.func121 rfl Tryz.ntmps121 rfl (fun B => ?_)
  obtain ⟨a1, c1, rfl⟩ := hG.form
  repeat' (first | refine Cd.seq ?_ | refine Cd.reg ?_ | refine Ops.mv rfl rfl rfl rfl ?_ | refine Ops.asg rfl rfl rfl rfl ?_)
  refine Ops.call (cpck_spec bb a0 (.slice a1 s.size c1) ha) rfl (noPd rfl) rfl rfl rfl (fun v A' hR => ?_)
  subst hR
  repeat' (first | refine Cd.seq ?_ | refine Cd.reg ?_ | refine Ops.mv rfl rfl rfl rfl ?_ | refine Ops.nilP rfl rfl rfl rfl ?_ | refine Ops.fa0 rfl rfl rfl rfl ?_ | refine Ops.ld1 rfl rfl rfl rfl rfl ?_)
  refine Ops.appG hG hsz rfl rfl rfl (by decide) rfl rfl rfl (noPd rfl) (fun v G' hG' => ?_)
  obtain ⟨a2, c2, rfl⟩ := hG'.form
  repeat' (first | refine Cd.seq ?_ | refine Cd.reg ?_ | refine Ops.nil ?_ | refine Ops.mv rfl rfl rfl rfl ?_ | refine Ops.asg rfl rfl rfl rfl ?_ | refine Ops.nilP rfl rfl rfl rfl ?_ | refine Ops.fa0 rfl rfl rfl rfl ?_ | refine Ops.lenStr rfl rfl rfl rfl ?_ | refine Ops.st1 rfl rfl rfl rfl rfl (noPd rfl) ?_)
  exact Cd.ret (ret2 (A' := BuB bb (some ⟨bb, 0, none⟩) _ :: G') rfl (Res.tmp rfl) (Res.tmp rfl) (fun _ h => h.split) ⟨_, _, G', rfl, .inr rfl, hG'⟩)
theorem blen_spec (bb : Nat) (s : ByteArray) (D : List Blk) (hD : BuA bb s D) : Con Tryz.prog 246 #[ptr bb] D fun v A => v = .int .i64 s.size ∧ A = D := by
  obtain ⟨a0, sv, G, rfl, ha, hG⟩ := hD
  refine Con.intro (vs := [_]) Tryz.func246 rfl Tryz.ntmps246 rfl (fun B => ?_)
  obtain ⟨a1, c1, rfl⟩ := hG.form
  repeat' (first | refine Cd.seq ?_ | refine Cd.reg ?_ | refine Ops.nil ?_ | refine Ops.mv rfl rfl rfl rfl ?_ | refine Ops.asg rfl rfl rfl rfl ?_ | refine Ops.nilP rfl rfl rfl rfl ?_ | refine Ops.fa0 rfl rfl rfl rfl ?_ | refine Ops.ld1 rfl rfl rfl rfl rfl ?_ | refine Ops.lenS rfl rfl rfl rfl ?_)
  exact Cd.ret (ret1 (A' := BuB bb a0 _ :: G) rfl (Res.tmp rfl) (fun _ h => h.split) ⟨rfl, rfl⟩)
theorem bstring_spec (bb : Nat) (s : ByteArray) (D : List Blk) (hD : BuA bb s D) (hsz : s.size ≤ 1000000000000) : Con Tryz.prog 126 #[ptr bb] D fun v A => v = .string s ∧ BuA bb s A := by
  obtain ⟨a0, sv, G, rfl, ha, hG⟩ := hD
  refine Con.intro (vs := [_]) Tryz.func126 rfl Tryz.ntmps126 rfl (fun B => ?_)
  obtain ⟨a1, c1, rfl⟩ := hG.form
  have hc : a1 = none ∨ 0 < c1 := by
    rcases hG with ⟨h1, _, _⟩ | ⟨g, c, sp, f, h1, _, _, _, h5⟩
    · injection h1 with h1; exact .inl h1
    · injection h1 with h1 _ h3; subst h3; exact .inr h5
  repeat' (first | refine Cd.seq ?_ | refine Cd.reg ?_ | refine Ops.asg rfl rfl rfl rfl ?_)
  refine Cd.draw [(0, 0, []), (1, 0, []), (2, 0, []), (3, 1, []), (5, 0, []), (6, 0, []), (7, 0, []), (8, 1, []), (9, 1, []), (4, 2, [8, 9]), (10, 2, []), (11, 0, [])] (by kernel_rfl) (by kernel_rfl) (by simp only [picked, nth]; exact rfl) ?_
  repeat' (first | refine Ops.mv rfl rfl rfl rfl ?_ | refine Ops.nilP rfl rfl rfl rfl ?_ | refine Ops.fa0 rfl rfl rfl rfl ?_ | refine Ops.ld1 rfl rfl rfl rfl rfl ?_ | refine Ops.lenS rfl rfl rfl rfl ?_)
  refine Ops.usd rfl rfl rfl hc rfl (by intro v A' hR i hi; obtain ⟨rfl, rfl⟩ := hR; (repeat (rcases List.mem_cons.1 hi with rfl | hi; · (first | exact Still.ld1 rfl rfl rfl rfl rfl | exact Still.ldN rfl rfl rfl rfl | exact Still.len rfl rfl rfl rfl rfl | exact Still.skip rfl rfl rfl | exact Still.ldRow1 rfl rfl rfl (by assumption) (by assumption) rfl rfl | exact Still.ldR rfl rfl rfl (by apply_assumption) rfl))); cases hi) ?_
  skip
  refine Ops.us hG rfl rfl cells_u8 rfl rfl (by omega) rfl (noPd rfl) (fun G' hG' => ?_)
  repeat' (first | refine Ops.nil ?_ | refine Ops.asg rfl rfl rfl rfl ?_)
  exact Cd.ret (ret1 (A' := BuB bb a0 _ :: G') rfl (Res.tmp rfl) (fun _ h => h.split) ⟨rfl, _, _, G', rfl, ha, hG'⟩)
theorem bgrow_in (bb n : Nat) (h1 : n ≤ 100000000) (h2 : 0 < n) (a0 : Option Addr) : Con Tryz.prog 288 #[ptr bb, .int .i64 n] [BuB bb a0 (.slice none 0 0)] fun v A => ∃ sv G, A = BuB bb a0 sv :: G ∧ BG 5 sv .empty G := by
  refine Con.intro (vs := [_, _]) Tryz.func288 rfl Tryz.ntmps288 rfl (fun B => ?_)
  repeat' (first | refine Cd.seq ?_)
  refine Cd.draw [(0, 0, []), (1, 0, []), (2, 0, []), (3, 1, []), (4, 0, []), (5, 0, []), (6, 0, []), (7, 0, []), (9, 0, []), (10, 0, []), (11, 0, []), (12, 1, []), (13, 1, []), (8, 2, [12, 13]), (14, 0, []), (15, 0, [])] (by kernel_rfl) (by kernel_rfl) (by simp only [picked, nth]; exact rfl) ?_
  repeat' (first | refine Ops.mv rfl rfl rfl rfl ?_ | refine Ops.nilP rfl rfl rfl rfl ?_ | refine Ops.fa0 rfl rfl rfl rfl ?_ | refine Ops.ld1 rfl rfl rfl rfl rfl ?_)
  refine Ops.capS rfl rfl rfl rfl ?_
  repeat' (first | refine Ops.mv rfl rfl rfl rfl ?_ | refine Ops.nilP rfl rfl rfl rfl ?_ | refine Ops.fa0 rfl rfl rfl rfl ?_ | refine Ops.ld1 rfl rfl rfl rfl rfl ?_ | refine Ops.lenS rfl rfl rfl rfl ?_ | refine Ops.addI rfl rfl rfl rfl (by omega) (by omega) rfl ?_ | refine Ops.mulI rfl rfl rfl rfl (by omega) (by omega) rfl ?_)
  rw [show (2 * ((0 : Nat) : Int) + (n : Int)) = (n : Int) from by omega]
  refine Ops.mkNZ (n := n) rfl rfl (by rfl) (by omega) rfl (by intro v A' hR i hi; obtain ⟨b2, cs, rfl, _, rfl⟩ := hR; (repeat (rcases List.mem_cons.1 hi with rfl | hi; · (first | exact Still.ld1 rfl rfl rfl rfl rfl | exact Still.ldN rfl rfl rfl rfl | exact Still.len rfl rfl rfl rfl rfl | exact Still.skip rfl rfl rfl | exact Still.ldRow1 rfl rfl rfl (by assumption) (by assumption) rfl rfl | exact Still.ldR rfl rfl rfl (by apply_assumption) rfl))); cases hi) (fun b2 cs hcs => ?_)
  repeat' (first | refine Cd.seq ?_ | refine Cd.reg ?_ | refine Ops.nil ?_ | refine Ops.mv rfl rfl rfl rfl ?_ | refine Ops.asg rfl rfl rfl rfl ?_ | refine Ops.nilP rfl rfl rfl rfl ?_ | refine Ops.fa0 rfl rfl rfl rfl ?_ | refine Ops.ld1 rfl rfl rfl rfl rfl ?_ | refine Ops.slHi rfl rfl rfl rfl (by omega) (by omega) rfl ?_)
  rw [show ((0 : Nat) : Int).toNat = 0 from rfl]
  refine Ops.cpNil rfl rfl rfl rfl rfl ?_
  repeat' (first | refine Cd.reg ?_ | refine Ops.mv rfl rfl rfl rfl ?_ | refine Ops.nilP rfl rfl rfl rfl ?_ | refine Ops.fa0 rfl rfl rfl rfl ?_ | refine Ops.st1 rfl rfl rfl rfl rfl (noPd rfl) ?_)
  exact Ops.nilN (end0 (A' := BuB bb a0 (.slice (some ⟨b2, 0, none⟩) 0 cs.length) :: [(b2, cl cs 5)]) rfl (fun _ h => h.split) ⟨_, [(b2, cl cs 5)], rfl, .inr ⟨b2, cs.length, cs, 0, rfl, rfl, Nat.zero_le _, by simp, by omega⟩⟩)
theorem bgrow_spec (bb n : Nat) (h1 : n ≤ 100000000) (h2 : 0 < n) : Con Tryz.prog 245 #[ptr bb, .int .i64 n] [BuB bb none (.slice none 0 0)] fun v A => BuA bb .empty A := by
  refine Con.intro (vs := [_, _]) Tryz.func245 rfl Tryz.ntmps245 rfl (fun B => ?_)
  repeat' (first | refine Cd.seq ?_ | refine Cd.reg ?_ | refine Ops.mv rfl rfl rfl rfl ?_)
  refine Ops.call (cpck_spec bb none (.slice none 0 0) (.inl rfl)) rfl (noPd rfl) rfl rfl rfl (fun v A' hR => ?_)
  subst hR
  have h3 : ¬ (n : Int) < 0 := by omega
  have h4 : (0 : Int) < n := by omega
  repeat' (first | refine Cd.seq ?_ | refine Cd.reg ?_ | refine Ops.nil ?_ | refine Ops.mv rfl rfl rfl rfl ?_ | refine Ops.bin rfl rfl rfl rfl rfl ?_ | refine Cd.condF rfl rfl ?_ | refine Cd.skip (Cd.next ?_))
  refine Cd.draw [(0, 0, []), (1, 0, []), (2, 0, []), (3, 1, []), (4, 0, []), (5, 0, []), (6, 0, []), (7, 0, []), (8, 1, []), (9, 1, []), (10, 0, []), (11, 0, []), (12, 0, [])] (by kernel_rfl) (by kernel_rfl) (by simp only [picked, nth]; exact rfl) ?_
  repeat' (first | refine Ops.mv rfl rfl rfl rfl ?_ | refine Ops.nilP rfl rfl rfl rfl ?_ | refine Ops.fa0 rfl rfl rfl rfl ?_ | refine Ops.ld1 rfl rfl rfl rfl rfl ?_)
  refine Ops.capS rfl rfl rfl rfl ?_
  repeat' (first | refine Cd.reg ?_ | refine Ops.nil ?_ | refine Ops.mv rfl rfl rfl rfl ?_ | refine Ops.nilP rfl rfl rfl rfl ?_ | refine Ops.fa0 rfl rfl rfl rfl ?_ | refine Ops.ld1 rfl rfl rfl rfl rfl ?_ | refine Ops.lenS rfl rfl rfl rfl ?_ | refine Ops.subI rfl rfl rfl rfl (by omega) (by omega) rfl ?_ | refine Ops.bin rfl rfl rfl rfl rfl ?_ | refine Cd.condT rfl (by first | rfl | assumption | (simp only [decide_eq_true_eq, decide_eq_false_iff_not, Bool.not_eq_true', Bool.not_eq_false', Bool.not_eq_eq_eq_not, Bool.not_true, Bool.not_false, beq_iff_eq, beq_eq_false_iff_ne, ne_eq, decide_eq_decide, eq_self, true_iff, iff_true, not_true_eq_false, not_false_eq_true]; first | done | omega)) ?_)
  refine Ops.call (bgrow_in bb n h1 h2 (some ⟨bb, 0, none⟩)) rfl (noPd rfl) rfl rfl rfl (fun v A' hR => ?_)
  obtain ⟨sv, G, rfl, hG⟩ := hR
  skip
  exact Ops.nilN (end0 (A' := BuB bb (some ⟨bb, 0, none⟩) sv :: G) rfl (fun _ h => h.split) ⟨_, _, G, rfl, .inr rfl, hG⟩)
end Go.Proofs.YtkcmjgjfodipfaaGreat
/- min of three numbers. -/
namespace Go.Sep
open Go
set_option linter.unusedSimpArgs false
section
variable {P : Program} {N : Fi} {B : Base} {Q : Exit → Act → World → Prop} {T : Tm} {A : List Blk} {ops : Array Oper} {l : List Oper}
variable {d : Nat} {ty : TypeId} {pos : String} {af : Array Edge} {m : Md} {gd : Option (Nat × Bool)}
theorem Ops.min3 {t t' t'' : TypeId} {x y z : Operand} {i j q : Int} {k1 k2 k3 : IntKind} (hm : m.rd true = true) (hg : gst ops T gd = some true) (hx : ev T x = some (.int k1 i)) (hy : ev T y = some (.int k2 j)) (hz : ev T z = some (.int k3 q)) (hd : Nat.blt d N.n = true)
    (k : Ops P N B Q ops m.tl l ((d, .int k1 (min (min i j) q)) :: T) A) : Ops P N B Q ops m (⟨some d, .call { callee := .builtin .min, args := #[x, y, z], argTypes := #[t, t', t''] }, ty, pos, af, gd⟩ :: l) T A :=
  Ops.pureV hm hg hd (fun a w hF => by
    have e1 : (if j < i then j else i) = min i j := by split <;> omega
    have e2 : (if q < min i j then q else min i j) = min (min i j) q := by split <;> omega
    simp [execOp, resolve, invoke, builtin, Builtin.min_, Builtin.min2, hF.eval hx, hF.eval hy, hF.eval hz]
    rw [e1, e2]; omega) k
/-- A quotient of numbers that are not below 0. -/
theorem Ops.quoI {t t' : TypeId} {x y : Operand} {a b : Nat} (hm : m.rd true = true) (hg : gst ops T gd = some true) (hx : ev T x = some (.int .i64 a)) (hy : ev T y = some (.int .i64 b)) (ha : a ≤ 9223372036854775807) (hb : b ≠ 0) (hd : Nat.blt d N.n = true)
    (k : Ops P N B Q ops m.tl l ((d, .int .i64 ((a / b : Nat) : Int)) :: T) A) : Ops P N B Q ops m (⟨some d, .binOp .quo t x y t', ty, pos, af, gd⟩ :: l) T A :=
  Ops.pureV hm hg hd (fun a' w hF => by
    have h1 : a / b ≤ a := Nat.div_le_self _ _
    have h2 : ∀ q : Nat, q ≤ 9223372036854775807 → IntKind.i64.wrap (q : Int) = q := by intro q hq; simp [IntKind.wrap, IntKind.bits, IntKind.signed]; omega
    have h4 : IntKind.i64.wrap ((a : Int) / (b : Int)) = (a : Int) / (b : Int) := by have := h2 (a / b) (by omega); push_cast at this; exact this
    have h3 : ((a : Int)).tdiv (b : Int) = (a : Int) / (b : Int) := rfl
    simp [execOp, hF.eval hx, hF.eval hy, eqGuard, binOp, Op.intDiv, hb, h3, h4]) k
end
end Go.Sep
namespace Go.Proofs.YtkcmjgjfodipfaaGreat
open Go Go.Sep Go.Proofs
set_option maxRecDepth 10000
set_option maxHeartbeats 4000000
set_option synthInstance.maxSize 2000
set_option linter.unusedSimpArgs false
set_option linter.unusedVariables false
/-! noughts -/
theorem mul64_spec : Con Tryz.prog 286 #[.int .u64 1, .int .u64 103] [] fun v A => v = .tuple #[.int .u64 0, .int .u64 103] ∧ A = [] := by
  refine Con.intro (vs := [_, _]) Tryz.func286 rfl Tryz.ntmps286 rfl (fun B => ?_)
  repeat' (first | refine Cd.seq ?_ | refine Cd.reg ?_ | refine Ops.mv rfl rfl rfl rfl ?_ | refine Ops.asg rfl rfl rfl rfl ?_ | refine Ops.bin rfl rfl rfl rfl rfl ?_ | fail)
  refine Ops.shrI rfl rfl rfl rfl (by decide) rfl ?_
  repeat' (first | refine Cd.seq ?_ | refine Cd.reg ?_ | refine Ops.mv rfl rfl rfl rfl ?_ | refine Ops.asg rfl rfl rfl rfl ?_ | refine Ops.bin rfl rfl rfl rfl rfl ?_ | fail)
  refine Ops.shrI rfl rfl rfl rfl (by decide) rfl ?_
  repeat' (first | refine Cd.seq ?_ | refine Cd.reg ?_ | refine Ops.mv rfl rfl rfl rfl ?_ | refine Ops.asg rfl rfl rfl rfl ?_ | refine Ops.bin rfl rfl rfl rfl rfl ?_ | fail)
  refine Ops.shrI rfl rfl rfl rfl (by decide) rfl ?_
  repeat' (first | refine Cd.seq ?_ | refine Cd.reg ?_ | refine Ops.mv rfl rfl rfl rfl ?_ | refine Ops.asg rfl rfl rfl rfl ?_ | refine Ops.bin rfl rfl rfl rfl rfl ?_ | fail)
  refine Ops.shrI rfl rfl rfl rfl (by decide) rfl ?_
  repeat' (first | refine Cd.seq ?_ | refine Cd.reg ?_ | refine Ops.mv rfl rfl rfl rfl ?_ | refine Ops.asg rfl rfl rfl rfl ?_ | refine Ops.bin rfl rfl rfl rfl rfl ?_ | fail)
  refine Ops.shrI rfl rfl rfl rfl (by decide) rfl ?_
  repeat' (first | refine Cd.seq ?_ | refine Cd.reg ?_ | refine Ops.nil ?_ | refine Ops.mv rfl rfl rfl rfl ?_ | refine Ops.asg rfl rfl rfl rfl ?_ | refine Ops.bin rfl rfl rfl rfl rfl ?_ | fail)
  exact Cd.ret (ret2 (A' := []) rfl (Res.tmp rfl) (Res.tmp rfl) (fun _ h => h.split) ⟨by rfl, rfl⟩)
theorem mul_spec : Con Tryz.prog 243 #[.int .u64 1, .int .u64 103] [] fun v A => v = .tuple #[.int .u64 0, .int .u64 103] ∧ A = [] := by
  refine Con.intro (vs := [_, _]) Tryz.func243 rfl Tryz.ntmps243 rfl (fun B => ?_)
  repeat' (first | refine Cd.seq ?_ | refine Cd.reg ?_ | refine Ops.mv rfl rfl rfl rfl ?_ | refine Ops.asg rfl rfl rfl rfl ?_ | refine Cd.condF rfl rfl ?_ | refine Cd.skip (Cd.next ?_))
  refine Ops.call mul64_spec rfl (noPd rfl) rfl rfl rfl (fun v A' hR => ?_)
  obtain ⟨rfl, rfl⟩ := hR
  repeat' (first | refine Cd.seq ?_ | refine Cd.reg ?_ | refine Ops.nil ?_ | refine Ops.mv rfl rfl rfl rfl ?_ | refine Ops.asg rfl rfl rfl rfl ?_ | refine Ops.ext rfl rfl rfl rfl rfl ?_)
  exact Cd.ret (ret2 (A' := []) rfl (Res.tmp rfl) (Res.tmp rfl) (fun _ h => h.split) ⟨rfl, rfl⟩)
def zB (n : Nat) : ByteArray := ⟨Array.replicate n 0⟩
theorem zB_size (n : Nat) : (zB n).size = n := by show (Array.replicate n 0).size = n; simp
theorem zB_cut {n k : Nat} (h : k ≤ n) : (zB n).extract 0 k = zB k := by
  apply ByteArray.ext
  rw [ByteArray.data_extract]
  simp [zB, Nat.min_eq_left h]
theorem zB_app (n k : Nat) : zB n ++ zB k = zB (n + k) := by
  apply ByteArray.ext
  rw [ByteArray.data_append]
  simp [zB]
structure RpS where
  m : Nat
  D : List Blk
theorem repeat_spec (s : ByteArray) (hs : s = zB 1) : Con Tryz.prog 191 #[.string s, .int .i64 103] [] fun v A => v = .string (zB 103) ∧ A = [] := by
  have hsz : s.size = 1 := by rw [hs, zB_size]
  have hg : s[(0 : Int).toNat]? = some 0 := by subst hs; decide
  refine Con.intro (vs := [_, _]) Tryz.func191 rfl Tryz.ntmps191 rfl (fun B => ?_)
  repeat' (first | refine Cd.seq ?_ | refine Cd.reg ?_ | refine Ops.nil ?_ | refine Ops.mv rfl rfl rfl rfl ?_ | refine Ops.asg rfl rfl rfl rfl ?_ | refine Ops.lenStr rfl rfl rfl rfl ?_ | refine Ops.bin rfl rfl rfl rfl rfl ?_ | refine Cd.condF rfl rfl ?_ | refine Cd.block ?_ | refine Cd.skip (Cd.next ?_) | refine Cd.skip (Cd.next (Q' := fun _ _ _ => True) ?_))
  refine Ops.cvI rfl rfl rfl rfl ?_
  rw [hsz, show IntKind.wrap .u64 ((1 : Nat) : Int) = 1 from by decide]
  repeat' (first | refine Ops.mv rfl rfl rfl rfl ?_)
  refine Ops.cvI rfl rfl rfl rfl ?_
  rw [show IntKind.wrap .u64 (103 : Int) = 103 from by decide]
  refine Ops.call mul_spec rfl (noPd rfl) rfl rfl rfl (fun v A' hR => ?_)
  obtain ⟨rfl, rfl⟩ := hR
  repeat' (first | refine Cd.seq ?_ | refine Cd.reg ?_ | refine Ops.nil ?_ | refine Ops.mv rfl rfl rfl rfl ?_ | refine Ops.asg rfl rfl rfl rfl ?_ | refine Ops.bin rfl rfl rfl rfl rfl ?_ | refine Ops.pickF rfl rfl rfl rfl rfl ?_ | refine Ops.ext rfl rfl rfl rfl rfl ?_ | refine Cd.condF rfl rfl ?_ | refine Cd.skip (Cd.next ?_))
  refine Ops.cvI rfl rfl rfl rfl ?_
  rw [show IntKind.wrap .i64 (103 : Int) = 103 from by decide]
  repeat' (first | refine Cd.seq ?_ | refine Cd.reg ?_ | refine Ops.nil ?_ | refine Ops.mv rfl rfl rfl rfl ?_ | refine Ops.asg rfl rfl rfl rfl ?_ | refine Ops.lenStr rfl rfl rfl rfl ?_ | refine Ops.bin rfl rfl rfl rfl rfl ?_ | refine Cd.skip (Cd.next ?_) | refine Cd.condF rfl (by first | rfl | assumption | (simp only [decide_eq_true_eq, decide_eq_false_iff_not, Bool.not_eq_true', Bool.not_eq_false', Bool.not_eq_eq_eq_not, Bool.not_true, Bool.not_false, beq_iff_eq, beq_eq_false_iff_ne, ne_eq, decide_eq_decide, eq_self, true_iff, iff_true, not_true_eq_false, not_false_eq_true]; first | done | omega)) ?_)
  rw [hsz]
  skip
  refine Ops.ixS rfl rfl rfl rfl (by decide) hg rfl ?_
  rw [show ((0 : UInt8).toNat : Int) = 0 from rfl]
  repeat' (first | refine Cd.seq ?_ | refine Cd.reg ?_ | refine Ops.nil ?_ | refine Ops.mv rfl rfl rfl rfl ?_ | refine Ops.asg rfl rfl rfl rfl ?_ | refine Ops.bin rfl rfl rfl rfl rfl ?_ | refine Ops.alloc rfl rfl rfl (noPd rfl) (fun b => ?_) | refine Cd.condF rfl rfl ?_ | refine Cd.block ?_ | refine Cd.skip (Cd.next ?_) | refine Cd.skip (Cd.next (Q' := fun _ _ _ => True) ?_))
  rename Nat => bb
  refine Ops.call (bgrow_spec bb 103 (by decide) (by decide)) rfl (noPd rfl) rfl rfl rfl (fun v A' hR => ?_)
  repeat' (first | refine Cd.seq ?_ | refine Cd.reg ?_ | refine Ops.mv rfl rfl rfl rfl ?_)
  refine Ops.call (bwrite_spec bb .empty s _ hR (by rw [hsz]; decide)) rfl (noPd rfl) rfl rfl rfl (fun v A' hR => ?_)
  rw [ByteArray.empty_append, hs] at hR
  repeat' (first | refine Cd.seq ?_ | refine Cd.block ?_)
  refine Cd.loopK (σ := RpS) (fun t => 1 ≤ t.m ∧ t.m ≤ 103 ∧ BuA bb (zB t.m) t.D) (fun t => [(7, .int .i64 103), (8, .int .i64 103), (9, ptr bb)]) (fun t => t.D) (fun t => 103 - t.m) ⟨1, _⟩ ⟨Nat.le_refl _, (by decide : (1 : Nat) ≤ 103), hR⟩ ⟨rfl, rfl, rfl, trivial⟩ (fun w h => h.split) (fun t ht => ?_)
  obtain ⟨k, D⟩ := t
  obtain ⟨h1, h2, hD⟩ := ht
  dsimp only at h1 h2 hD ⊢
  have hk := zB_size k
  by_cases hlt : k < 103
  · have hlt' : (((zB k).size : Nat) : Int) < 103 := by omega
    repeat' (first | refine Cd.seq ?_ | refine Cd.reg ?_)
    refine Ops.call (blen_spec bb (zB k) _ hD) rfl (noPd rfl) rfl rfl rfl (fun v A' hR => ?_)
    obtain ⟨rfl, rfl⟩ := hR
    repeat' (first | refine Cd.seq ?_ | refine Cd.reg ?_ | refine Ops.nil ?_ | refine Ops.mv rfl rfl rfl rfl ?_ | refine Ops.bin rfl rfl rfl rfl rfl ?_ | refine Cd.block ?_ | refine Cd.skip (Cd.next ?_) | refine Cd.condT rfl (by first | rfl | assumption | (simp only [decide_eq_true_eq, decide_eq_false_iff_not, Bool.not_eq_true', Bool.not_eq_false', Bool.not_eq_eq_eq_not, Bool.not_true, Bool.not_false, beq_iff_eq, beq_eq_false_iff_ne, ne_eq, decide_eq_decide, eq_self, true_iff, iff_true, not_true_eq_false, not_false_eq_true]; first | done | omega)) ?_)
    refine Ops.call (blen_spec bb (zB k) _ hD) rfl (noPd rfl) rfl rfl rfl (fun v A' hR => ?_)
    obtain ⟨rfl, rfl⟩ := hR
    repeat' (first | refine Ops.subI rfl rfl rfl rfl (by omega) (by omega) rfl ?_)
    refine Ops.call (blen_spec bb (zB k) _ hD) rfl (noPd rfl) rfl rfl rfl (fun v A' hR => ?_)
    obtain ⟨rfl, rfl⟩ := hR
    repeat' (first | refine Ops.mv rfl rfl rfl rfl ?_)
    refine Ops.min3 rfl rfl rfl rfl rfl rfl ?_
    repeat' (first | refine Cd.reg ?_ | refine Ops.asg rfl rfl rfl rfl ?_)
    refine Ops.call (bstring_spec bb (zB k) _ hD (by omega)) rfl (noPd rfl) rfl rfl rfl (fun v A' hR => ?_)
    obtain ⟨rfl, hD2⟩ := hR
    have hcut : ((min (min ((103 : Int) - (((zB k).size : Nat) : Int)) (((zB k).size : Nat) : Int)) 103).toNat) = min (103 - k) k := by rw [hk]; omega
    repeat' (first | refine Ops.mv rfl rfl rfl rfl ?_)
    refine Ops.slSHi rfl rfl rfl rfl (by omega) (by omega) rfl ?_
    rw [hcut, zB_cut (by omega)]
    refine Ops.call (bwrite_spec bb (zB k) (zB (min (103 - k) k)) _ hD2 (by rw [zB_size, zB_size]; omega)) rfl (noPd rfl) rfl rfl rfl (fun v A' hR => ?_)
    rw [zB_app] at hR
    exact Ops.nilN (inB (round_end (⟨k + min (103 - k) k, _⟩ : RpS) ⟨by show 1 ≤ k + _; omega, by show k + min (103 - k) k ≤ 103; omega, hR⟩ (by show 103 - (k + min (103 - k) k) < 103 - k; omega) ⟨rfl, rfl, rfl, trivial⟩ (fun w h => h.split)))
  · have hke : k = 103 := by omega
    have hlt' : ¬ (((zB k).size : Nat) : Int) < 103 := by omega
    repeat' (first | refine Cd.seq ?_ | refine Cd.reg ?_)
    refine Ops.call (blen_spec bb (zB k) _ hD) rfl (noPd rfl) rfl rfl rfl (fun v A' hR => ?_)
    obtain ⟨rfl, rfl⟩ := hR
    repeat' (first | refine Cd.seq ?_ | refine Cd.reg ?_ | refine Ops.nil ?_ | refine Ops.mv rfl rfl rfl rfl ?_ | refine Ops.bin rfl rfl rfl rfl rfl ?_ | refine Cd.exit (Cd.next (Q' := fun _ _ _ => True) ?_) | refine Cd.condF rfl (by first | rfl | assumption | (simp only [decide_eq_true_eq, decide_eq_false_iff_not, Bool.not_eq_true', Bool.not_eq_false', Bool.not_eq_eq_eq_not, Bool.not_true, Bool.not_false, beq_iff_eq, beq_eq_false_iff_ne, ne_eq, decide_eq_decide, eq_self, true_iff, iff_true, not_true_eq_false, not_false_eq_true]; first | done | omega)) ?_)
    refine Ops.call (bstring_spec bb (zB k) _ hD (by omega)) rfl (noPd rfl) rfl rfl rfl (fun v A' hR => ?_)
    obtain ⟨rfl, hD2⟩ := hR
    repeat' (first | refine Ops.nil ?_ | refine Ops.asg rfl rfl rfl rfl ?_)
    exact Cd.ret (ret1 (A' := []) rfl (Res.tmp rfl) (fun _ h => h.split) ⟨by rw [hke], rfl⟩)
theorem noughts_spec : Con Tryz.prog 114 #[.int .i64 103] [] fun v A => v = .string (zB 103) ∧ A = [] := by
  refine Con.intro (vs := [_]) Tryz.func114 rfl Tryz.ntmps114 rfl (fun B => ?_)
  repeat' (first | refine Cd.seq ?_ | refine Cd.reg ?_ | refine Ops.mv rfl rfl rfl rfl ?_ | refine Ops.asg rfl rfl rfl rfl ?_)
  refine Ops.call (repeat_spec _ (by rfl)) rfl (noPd rfl) rfl rfl rfl (fun v A' hR => ?_)
  obtain ⟨rfl, rfl⟩ := hR
  repeat' (first | refine Ops.nil ?_ | refine Ops.asg rfl rfl rfl rfl ?_)
  exact Cd.ret (ret1 (A' := []) rfl (Res.tmp rfl) (fun _ h => h.split) ⟨rfl, rfl⟩)
end Go.Proofs.YtkcmjgjfodipfaaGreat
namespace Go.Proofs.YtkcmjgjfodipfaaGreat
open Go Go.Sep Go.Proofs
set_option maxRecDepth 10000
set_option maxHeartbeats 4000000
set_option synthInstance.maxSize 2000
set_option linter.unusedSimpArgs false
set_option linter.unusedVariables false
/-! texts that are read -/
theorem slclone_spec (s : ByteArray) (hs : s.size ≤ 1000000) : Con Tryz.prog 290 #[.string s] [] fun v A => v = .string s ∧ A = [] := by
  refine Con.intro (vs := [_]) Tryz.func290 rfl Tryz.ntmps290 rfl (fun B => ?_)
  by_cases h0 : s.size = 0
  · have h0' : (s.size : Int) = 0 := by omega
    have he : s = .empty := ByteArray.size_eq_zero_iff.1 h0
    repeat' (first | refine Cd.seq ?_ | refine Cd.reg ?_ | refine Ops.nil ?_ | refine Ops.mv rfl rfl rfl rfl ?_ | refine Ops.asg rfl rfl rfl rfl ?_ | refine Ops.lenStr rfl rfl rfl rfl ?_ | refine Ops.bin rfl rfl rfl rfl rfl ?_ | refine Cd.condT rfl (by first | rfl | assumption | (simp only [decide_eq_true_eq, decide_eq_false_iff_not, Bool.not_eq_true', Bool.not_eq_false', Bool.not_eq_eq_eq_not, Bool.not_true, Bool.not_false, beq_iff_eq, beq_eq_false_iff_ne, ne_eq, decide_eq_decide, eq_self, true_iff, iff_true, not_true_eq_false, not_false_eq_true]; first | done | omega)) ?_)
    exact Cd.ret (ret1 (A' := []) rfl (Res.tmp rfl) (fun _ h => h.split) ⟨by rw [he]; rfl, rfl⟩)
  · have h0' : ¬ (s.size : Int) = 0 := by omega
    repeat' (first | refine Cd.seq ?_ | refine Cd.reg ?_ | refine Ops.nil ?_ | refine Ops.mv rfl rfl rfl rfl ?_ | refine Ops.asg rfl rfl rfl rfl ?_ | refine Ops.lenStr rfl rfl rfl rfl ?_ | refine Ops.bin rfl rfl rfl rfl rfl ?_ | refine Cd.skip (Cd.next ?_) | refine Cd.condF rfl (by first | rfl | assumption | (simp only [decide_eq_true_eq, decide_eq_false_iff_not, Bool.not_eq_true', Bool.not_eq_false', Bool.not_eq_eq_eq_not, Bool.not_true, Bool.not_false, beq_iff_eq, beq_eq_false_iff_ne, ne_eq, decide_eq_decide, eq_self, true_iff, iff_true, not_true_eq_false, not_false_eq_true]; first | done | omega)) ?_)
    refine Ops.mk1 rfl rfl rfl rfl (by omega) (by omega) (by decide) rfl (noPd rfl) (fun g => ?_)
    rw [show ((s.size : Nat) : Int).toNat = s.size from by omega]
    repeat' (first | refine Cd.seq ?_ | refine Cd.reg ?_ | refine Ops.mv rfl rfl rfl rfl ?_ | refine Ops.asg rfl rfl rfl rfl ?_)
    refine Ops.cpS (L' := bv s) rfl rfl rfl rfl (by simp) (by simp [ins, bv_len]) rfl (noPd rfl) ?_
    repeat' (first | refine Cd.seq ?_ | refine Cd.reg ?_ | refine Ops.mv rfl rfl rfl rfl ?_ | refine Ops.lenS rfl rfl rfl rfl ?_ | refine Ops.ixa0 rfl rfl rfl rfl (by omega) (by omega) rfl ?_)
    refine Ops.us (s := s) (G := [(g, cl (bv s) 5)]) (.inr ⟨g, s.size, [], 0, rfl, by rw [List.append_nil]; rfl, Nat.zero_le _, by simp, by omega⟩) rfl rfl cells_u8 rfl rfl (by omega) rfl (noPd rfl) (fun G' hG' => ?_)
    repeat' (first | refine Ops.nil ?_ | refine Ops.asg rfl rfl rfl rfl ?_)
    exact Cd.ret (ret1 (A' := []) rfl (Res.tmp rfl) (fun _ h => h.split) ⟨rfl, rfl⟩)
theorem sclone_spec (s : ByteArray) (hs : s.size ≤ 1000000) : Con Tryz.prog 250 #[.string s] [] fun v A => v = .string s ∧ A = [] := by
  refine Con.intro (vs := [_]) Tryz.func250 rfl Tryz.ntmps250 rfl (fun B => ?_)
  repeat' (first | refine Cd.seq ?_ | refine Cd.reg ?_ | refine Ops.mv rfl rfl rfl rfl ?_ | refine Ops.asg rfl rfl rfl rfl ?_)
  refine Ops.call (slclone_spec s hs) rfl (noPd rfl) rfl rfl rfl (fun v A' hR => ?_)
  obtain ⟨rfl, rfl⟩ := hR
  repeat' (first | refine Ops.nil ?_ | refine Ops.asg rfl rfl rfl rfl ?_)
  exact Cd.ret (ret1 (A' := []) rfl (Res.tmp rfl) (fun _ h => h.split) ⟨rfl, rfl⟩)
/-- A text that is read: it and the place behind it, or what is wrong. -/
def txR (b : ByteArray) (most p : Nat) : Int ⊕ (ByteArray × Nat) := match numR b most 23 p with
  | .bad er => .inl er
  | .good n q => if q + n ≤ b.size then .inr (b.extract q (q + n), q + n) else .inl 20
theorem text1_spec (B0 : Base) (rb xr mb : Nat) (bs : ByteArray) (p most : Nat) (hp : p ≤ bs.size) (hb : bs.size ≤ 1000000) (hm : most ≤ 1000000) :
    ConX Tryz.prog B0 249 #[ptr xr, ptr mb] (RdB rb bs p 0 :: [(xr, cl [ptr rb] 184), (mb, cl [.int .i64 most] 3)])
      (fun v A => ∃ u q, txR bs most p = .inr (u, q) ∧ v = .string u ∧ A = RdB rb bs (q : Nat) 0 :: [(xr, cl [ptr rb] 184), (mb, cl [.int .i64 most] 3)])
      (fun c A => ∃ er, txR bs most p = .inl er ∧ c = [gave er] ∧ ∃ q : Nat, A = RdB rb bs q 0 :: [(xr, cl [ptr rb] 184), (mb, cl [.int .i64 most] 3)]) := by
  refine ConX.intro (vs := [_, _]) Tryz.func249 rfl Tryz.ntmps249 rfl (fun B hB => ?_)
  repeat' (first | refine Cd.seq ?_ | refine Cd.reg ?_ | refine Ops.asg rfl rfl rfl rfl ?_)
  refine Cd.draw [(0, 1, []), (1, 1, []), (2, 1, []), (3, 2, [0]), (4, 2, []), (5, 2, []), (6, 0, [])] (by kernel_rfl) (by kernel_rfl) (by simp only [picked, nth]; exact rfl) ?_
  repeat' (first | refine Ops.ld1 rfl rfl rfl rfl rfl ?_)
  refine Ops.callXD (list_spec B0 rb bs p most hp hb (by omega)) hB rfl (by intro v A' hR i hi; obtain ⟨A2, hR, rfl⟩ := hR; obtain ⟨u, q, _, _, rfl⟩ := hR; (repeat (rcases List.mem_cons.1 hi with rfl | hi; · (first | exact Still.ld1 rfl rfl rfl rfl rfl | exact Still.ldN rfl rfl rfl rfl | exact Still.len rfl rfl rfl rfl rfl | exact Still.skip rfl rfl rfl | exact Still.ldRow1 rfl rfl rfl (by assumption) (by assumption) rfl rfl | exact Still.ldR rfl rfl rfl (by apply_assumption) rfl))); cases hi) rfl rfl rfl (fun c A' hX => ?_) (fun v A' hR => ?_)
  · obtain ⟨er, hr, rfl, q, rfl⟩ := hX
    have htx : txR bs most p = .inl er := by
      unfold txR
      cases hn : numR bs most 23 p with
      | bad e2 => rw [hn] at hr; injection hr with hr; rw [hr]
      | good n2 q2 => rw [hn] at hr; cases hr
    exact panX (A' := RdB rb bs q 0 :: [(xr, cl [ptr rb] 184), (mb, cl [.int .i64 most] 3)]) (fun _ h => h.split) ⟨er, htx, rfl, q, rfl⟩
  · obtain ⟨n, q, hr, rfl, rfl⟩ := hR
    have hn : numR bs most 23 p = .good n q := by
      cases hn : numR bs most 23 p with
      | bad e2 => rw [hn] at hr; cases hr
      | good n2 q2 => rw [hn] at hr; injection hr with hr; injection hr with h1 h2; rw [h1, h2]
    have hle : n ≤ most := numGo_le _ _ _ _ hn
    have hq : q ≤ bs.size := numGo_at _ _ _ _ hn hp
    skip
    refine Ops.callXD (take_spec B0 rb bs q 0 n hq hb (by omega)) hB rfl (noPd rfl) rfl rfl rfl (fun c A' hX => ?_) (fun v A' hR => ?_)
    · obtain ⟨hlt, rfl, rfl⟩ := hX
      exact panX (A' := RdB rb bs q 0 :: [(xr, cl [ptr rb] 184), (mb, cl [.int .i64 most] 3)]) (fun _ h => h.split) ⟨20, by unfold txR; rw [hn]; exact if_neg hlt, rfl, q, rfl⟩
    · obtain ⟨hlt, rfl, rfl⟩ := hR
      refine Ops.call (sclone_spec (bs.extract q (q + n)) (by rw [ByteArray.size_extract]; omega)) rfl (noPd rfl) rfl rfl rfl (fun v A' hR => ?_)
      obtain ⟨rfl, rfl⟩ := hR
      repeat' (first | refine Ops.nil ?_ | refine Ops.asg rfl rfl rfl rfl ?_)
      exact Cd.ret (retX (ret1 (A' := RdB rb bs ((q + n : Nat) : Int) 0 :: [(xr, cl [ptr rb] 184), (mb, cl [.int .i64 most] 3)]) rfl (Res.tmp rfl) (fun _ h => h.split) ⟨_, q + n, by unfold txR; rw [hn]; exact if_pos hlt, rfl, rfl⟩))
def rdText (b : ByteArray) (most : Nat) (p : Nat) (e : Int) : ByteArray × Nat × Int := if e ≠ 0 then (.empty, p, e) else match txR b most p with
  | .inl er => (.empty, p, er)
  | .inr (u, q) => (u, q, 0)
theorem rtext_spec (B0 : Base) (rb : Nat) (bs : ByteArray) (p most : Nat) (e : Int) (hp : p ≤ bs.size) (hb : bs.size ≤ 1000000) (hm : most ≤ 1000000) :
    ConB Tryz.prog B0 194 #[ptr rb, .int .i64 most] [RdB rb bs p e] fun v A => v = .string (rdText bs most p e).1 ∧ A = [RdB rb bs (((rdText bs most p e).2.1 : Nat) : Int) (rdText bs most p e).2.2] := by
  refine ConB.intro (vs := [_, _]) Tryz.func194 rfl Tryz.ntmps194 rfl (fun B hB => ?_)
  repeat' (first | refine Ops.mkF rfl rfl rfl rfl rfl ?_ | refine Cd.seq ?_ | refine Cd.reg ?_ | refine Ops.asg rfl rfl rfl rfl ?_ | refine Ops.ld1 rfl rfl rfl rfl rfl ?_ | refine Ops.box rfl rfl rfl rfl (noPd rfl) (fun b => ?_))
  rename_i xr
  rename Nat => mb
  by_cases he : e = 0
  · subst he
    refine Ops.callB (facestring_new B0 rb bs p 249 [ptr xr, ptr mb] [(xr, cl [ptr rb] 184), (mb, cl [.int .i64 most] 3)] _ (text1_spec B0 rb xr mb bs p most hp hb hm)) hB rfl (noPd rfl) rfl rfl rfl (fun v A' hR => ?_)
    have hu : rdText bs most p 0 = match txR bs most p with
      | .inl er => (.empty, p, er)
      | .inr (u, q) => (u, q, 0) := if_neg (by simp)
    rcases hR with ⟨u, q, hr, rfl, rfl⟩ | ⟨er, hr, rfl, rfl⟩
    · rw [hr] at hu
      rw [hu]
      repeat' (first | refine Ops.nil ?_ | refine Ops.asg rfl rfl rfl rfl ?_)
      exact Cd.ret (ret1 (A' := [RdB rb bs q 0]) rfl (Res.tmp rfl) (fun _ h => h.split) ⟨rfl, rfl⟩)
    · rw [hr] at hu
      rw [hu]
      repeat' (first | refine Ops.nil ?_ | refine Ops.asg rfl rfl rfl rfl ?_)
      exact Cd.ret (ret1 (A' := [RdB rb bs p er]) rfl (Res.tmp rfl) (fun _ h => h.split) ⟨rfl, rfl⟩)
  · refine Ops.callB (facestring_old B0 rb bs p e 249 [ptr xr, ptr mb] he) hB rfl (noPd rfl) rfl rfl rfl (fun v A' hR => ?_)
    obtain ⟨rfl, rfl⟩ := hR
    rw [show rdText bs most p e = (.empty, p, e) from if_pos he]
    repeat' (first | refine Ops.nil ?_ | refine Ops.asg rfl rfl rfl rfl ?_)
    exact Cd.ret (ret1 (A' := [RdB rb bs p e]) rfl (Res.tmp rfl) (fun _ h => h.split) ⟨rfl, rfl⟩)
end Go.Proofs.YtkcmjgjfodipfaaGreat
