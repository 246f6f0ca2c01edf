import Derived.Test.YtkcmjgjfodipfaaGreatA10
import Derived.Test.YtkcmjgjfodipfaaGreatA08
import Derived.Test.YtkcmjgjfodipfaaGreatA07
import Derived.Test.YtkcmjgjfodipfaaGreatA09
/- Some cells of a row: read, written. -/
namespace Go.Sep
open Go
section
variable {P : Program} {N : Fi} {B : Base} {Q : Exit → Act → World → Prop} {T : Tm} {A : List Blk} {ops : Array Oper} {l : List Oper}
variable {d : Nat} {ty : TypeId} {pos : String} {af : Array Edge} {m : Md} {gd : Option (Nat × Bool)}
theorem rows_setN {sz i o : Nat} {r r' vs : List Value} {rows : List (List Value)} (hr : RowsOk sz rows) (hi : rows[i]? = some r) (hs : SetS r o vs r') (spare : List Value) :
    ins (rows.flatten ++ spare) (i * sz + o) vs = (rows.set i r').flatten ++ spare := by
  have hlt := (List.getElem?_eq_some_iff.1 hi).1
  have hl := rows_mid_len hr (Nat.le_of_lt hlt)
  rw [rows_mid (spare := spare) hi, ← hl, ins_mid hs.eq.2, ← rows_mid_set hlt, hs.eq.1]
  rfl
end
/-- A contract beside other blocks; of blocks in another order. -/
theorem Con.beside {P : Program} {f : FuncId} {args : Array Value} {A F : List Blk} {R : Value → List Blk → Prop} (h : Con P f args A R) : Con P f args (A ++ F) fun v X => ∃ A', R v A' ∧ X = A' ++ F := fun B w hS =>
  (h.frame hS).mono fun _ _ ⟨v, A', he, hR, hS'⟩ => ⟨v, _, he, ⟨A', hR, rfl⟩, hS'⟩
theorem ConB.beside {P : Program} {B0 : Base} {f : FuncId} {args : Array Value} {A F : List Blk} {R : Value → List Blk → Prop} (h : ConB P B0 f args A R) : ConB P B0 f args (A ++ F) fun v X => ∃ A', R v A' ∧ X = A' ++ F := fun B w hx hS =>
  (h.frame hx hS).mono fun _ _ ⟨v, A', he, hR, hS'⟩ => ⟨v, _, he, ⟨A', hR, rfl⟩, hS'⟩
/-- Blocks that a callee only reads go over to its base. -/
def Holds (B0 : Base) (G : List Blk) : Prop := ∀ p ∈ G, B0.h p.1 = some p.2
theorem Con.lend {P : Program} {f : FuncId} {args : Array Value} {A1 G : List Blk} {R : Value → List Blk → Prop} (h : ∀ B0, Holds B0 G → ConB P B0 f args A1 R) : Con P f args (A1 ++ G) fun v X => ∃ A', R v A' ∧ X = A' ++ G := fun B w hS => by
  have hG : Holds (B.with G) G := fun p hp => by simp only [Base.with, find_of_mem hS.right.nodup hp]
  exact ((h (B.with G) hG) (B.with G) w (Ext.refl _) hS.frameIn).mono fun _ _ ⟨v, A', he, hR, hS'⟩ => ⟨v, _, he, ⟨A', hR, rfl⟩, hS.frameOut hS'⟩
theorem ConB.lend {P : Program} {B1 : Base} {f : FuncId} {args : Array Value} {A1 G : List Blk} {R : Value → List Blk → Prop} (h : ∀ B0, Ext B1 B0 → Holds B0 G → ConB P B0 f args A1 R) : ConB P B1 f args (A1 ++ G) fun v X => ∃ A', R v A' ∧ X = A' ++ G := fun B w hx hS => by
  have hG : Holds (B.with G) G := fun p hp => by simp only [Base.with, find_of_mem hS.right.nodup hp]
  exact ((h (B.with G) (hx.trans (Ext.with hS)) hG) (B.with G) w (Ext.refl _) hS.frameIn).mono fun _ _ ⟨v, A', he, hR, hS'⟩ => ⟨v, _, he, ⟨A', hR, rfl⟩, hS.frameOut hS'⟩
theorem Holds.cell {B0 : Base} {G : List Blk} (h : Holds B0 G) {g : Nat} {l : List Value} {E : TypeId} (hm : (g, cl l E) ∈ G) {o : Nat} {v : Value} (hv : l[o]? = some v) (A : List Blk) : Rd B0 A g o v := fun w hS =>
  (cell_of (hS.base g _ (h _ hm)) o).trans hv
theorem Ext.holds {B0 B1 : Base} {G : List Blk} (e : Ext B0 B1) (h : Holds B0 G) : Holds B1 G := fun p hp => e.h _ _ (h p hp)
section
variable {P : Program} {N : Fi} {B : Base} {Q : Exit → Act → World → Prop} {T : Tm} {A : List Blk} {ops : Array Oper} {l : List Oper}
variable {d : Nat} {ty : TypeId} {pos : String} {af : Array Edge} {m : Md} {gd : Option (Nat × Bool)}
end
end Go.Sep
/- Texts: parts of them; bytes as a text; what lies in an interface value. -/
namespace Go.Sep
open Go
/-- A type that is no interface. -/
class NoIf (P : Program) (t : TypeId) : Prop where
  und : ∃ dd, P.underlying t = some dd ∧ (match dd with | .interface _ => false | _ => true) = true
theorem NoIf.get {P : Program} {t : TypeId} (h : NoIf P t) : ∃ dd, (∀ w : World, (underlying t).run P w = .ok dd w) ∧ ∀ ms, dd ≠ .interface ms := by
  obtain ⟨dd, h1, h2⟩ := h.und
  exact ⟨dd, fun w => run_underlying h1 w, fun ms hm => by subst hm; cases h2⟩
theorem run_pushes {P : Program} {w : World} {f : Value → ByteArray → Sem (ForInStep ByteArray)} (hf : ∀ n s, f (.int .u8 n) s = pure (ForInStep.yield (s.push (UInt8.ofNat n.toNat)))) : ∀ (xs : List Int) (s : ByteArray),
    (forIn (xs.map fun n => (Value.int .u8 n)) s f).run P w = .ok (xs.foldl (fun r n => r.push (UInt8.ofNat n.toNat)) s) w
  | [], s => by simp
  | x :: xs, s => by
    simp only [List.map_cons, List.forIn_cons, Sem.run_bind, hf, Sem.run_pure, Result.andThen_ok, List.foldl_cons]
    exact run_pushes hf xs _
def bytesOf (xs : List Int) : ByteArray := xs.foldl (fun r n => r.push (UInt8.ofNat n.toNat)) .empty
section
variable {P : Program} {N : Fi} {B : Base} {Q : Exit → Act → World → Prop} {T : Tm} {A : List Blk} {ops : Array Oper} {l : List Oper}
variable {d : Nat} {ty : TypeId} {pos : String} {af : Array Edge} {m : Md} {gd : Option (Nat × Bool)}
theorem Ops.slS {t : TypeId} {x y z : Operand} {k' k'' : IntKind} {i j : Int} {s : ByteArray} (hm : m.rd true = true) (hg : gst ops T gd = some true) [ht : TyD P t .string]
    (hx : ev T x = some (.string s)) (hy : ev T y = some (.int k' i)) (hz : ev T z = some (.int k'' j)) (h0 : 0 ≤ i) (h1 : i ≤ j) (h2 : j ≤ s.size) (hd : Nat.blt d N.n = true)
    (k : Ops P N B Q ops m.tl l ((d, .string (s.extract i.toNat j.toNat)) :: T) A) : Ops P N B Q ops m (⟨some d, .slice t x (some y) (some z) none, ty, pos, af, gd⟩ :: l) T A :=
  Ops.pureV hm hg hd (fun a w hF => by
    simp only [execOp, hF.eval hx, hF.eval hy, hF.eval hz, Option.map_some, Option.map_none, Instr.sliceAt, Instr.slice, ht.run_und, Instr.sliceBounds, run_bound (show 0 ≤ j by omega) h2, run_bound h0 (show i ≤ (j.toNat : Int) by omega), if_true, Option.isSome_none, Bool.false_eq_true, if_false, Sem.run_bind, Sem.run_pure, Result.andThen_ok]) k
theorem Ops.slSLo {t : TypeId} {x y : Operand} {k' : IntKind} {i : Int} {s : ByteArray} (hm : m.rd true = true) (hg : gst ops T gd = some true) [ht : TyD P t .string]
    (hx : ev T x = some (.string s)) (hy : ev T y = some (.int k' i)) (h0 : 0 ≤ i) (h2 : i ≤ s.size) (hd : Nat.blt d N.n = true)
    (k : Ops P N B Q ops m.tl l ((d, .string (s.extract i.toNat s.size)) :: T) A) : Ops P N B Q ops m (⟨some d, .slice t x (some y) none none, ty, pos, af, gd⟩ :: l) T A :=
  Ops.pureV hm hg hd (fun a w hF => by
    simp only [execOp, hF.eval hx, hF.eval hy, Option.map_some, Option.map_none, Instr.sliceAt, Instr.slice, ht.run_und, Instr.sliceBounds, run_bound h0 h2, if_true, Option.isSome_none, Bool.false_eq_true, if_false, Sem.run_bind, Sem.run_pure, Result.andThen_ok]) k
theorem Ops.slSHi {t : TypeId} {x z : Operand} {k'' : IntKind} {j : Int} {s : ByteArray} (hm : m.rd true = true) (hg : gst ops T gd = some true) [ht : TyD P t .string]
    (hx : ev T x = some (.string s)) (hz : ev T z = some (.int k'' j)) (h0 : 0 ≤ j) (h2 : j ≤ s.size) (hd : Nat.blt d N.n = true)
    (k : Ops P N B Q ops m.tl l ((d, .string (s.extract 0 j.toNat)) :: T) A) : Ops P N B Q ops m (⟨some d, .slice t x none (some z) none, ty, pos, af, gd⟩ :: l) T A :=
  Ops.pureV hm hg hd (fun a w hF => by
    simp only [execOp, hF.eval hx, hF.eval hz, Option.map_some, Option.map_none, Instr.sliceAt, Instr.slice, ht.run_und, Instr.sliceBounds, run_bound h0 h2, if_true, Option.isSome_none, Bool.false_eq_true, if_false, Sem.run_bind, Sem.run_pure, Result.andThen_ok]) k
/-- What lies in an interface value: of the type that is asked for; there is none. -/
theorem Ops.mkJ {t : TypeId} {x : Operand} {v : Value} (hm : m.rd true = true) (hg : gst ops T gd = some true) [ht : NoIf P t] (hx : ev T x = some v) (hd : Nat.blt d N.n = true) (k : Ops P N B Q ops m.tl l ((d, .iface t v) :: T) A) :
    Ops P N B Q ops m (⟨some d, .makeInterface t x, ty, pos, af, gd⟩ :: l) T A := by
  obtain ⟨dd, hu, hi⟩ := ht.get
  exact Ops.pureV hm hg hd (fun a w hF => by
    have : (Instr.makeInterface t v).run P w = .ok (.iface t v) w := by
      unfold Instr.makeInterface
      simp only [Sem.run_bind, hu w, Result.andThen_ok]
      cases dd <;> first | rfl | exact absurd rfl (hi _)
    simp [execOp, hF.eval hx, this]) k
theorem Ops.tAss {t xT : TypeId} {x : Operand} {v : Value} (hm : m.rd true = true) (hg : gst ops T gd = some true) [ht : NoIf P t] (hx : ev T x = some (.iface t v)) (hd : Nat.blt d N.n = true)
    (k : Ops P N B Q ops m.tl l ((d, .tuple #[v, .bool true]) :: T) A) : Ops P N B Q ops m (⟨some d, .typeAssert x xT t true, ty, pos, af, gd⟩ :: l) T A := by
  obtain ⟨dd, hu, hi⟩ := ht.get
  exact Ops.pureV hm hg hd (fun a w hF => by
    have : (Instr.typeAssert (.iface t v) xT t true).run P w = .ok (.tuple #[v, .bool true]) w := by
      unfold Instr.typeAssert
      simp only [Sem.run_bind, hu w, Result.andThen_ok]
      cases dd <;> first | simp | exact absurd rfl (hi _)
    simp [execOp, hF.eval hx, this]) k
theorem Ops.tAssNo {t xT : TypeId} {x : Operand} {z : Value} (hm : m.rd true = true) (hg : gst ops T gd = some true) [ht : NoIf P t] [hz : TyZ P t z] (hx : ev T x = some .nilIface) (hd : Nat.blt d N.n = true)
    (k : Ops P N B Q ops m.tl l ((d, .tuple #[z, .bool false]) :: T) A) : Ops P N B Q ops m (⟨some d, .typeAssert x xT t true, ty, pos, af, gd⟩ :: l) T A := by
  obtain ⟨dd, hu, hi⟩ := ht.get
  exact Ops.pureV hm hg hd (fun a w hF => by
    have : (Instr.typeAssert .nilIface xT t true).run P w = .ok (.tuple #[z, .bool false]) w := by
      unfold Instr.typeAssert
      simp only [Sem.run_bind, hu w, Result.andThen_ok]
      cases dd <;> first | simp [hz.run] | exact absurd rfl (hi _)
    simp [execOp, hF.eval hx, this]) k
end
end Go.Sep
namespace Go.Proofs.YtkcmjgjfodipfaaGreat
open Go Go.Sep Go.Proofs
set_option maxRecDepth 10000
set_option maxHeartbeats 4000000
set_option synthInstance.maxSize 2000
set_option linter.unusedSimpArgs false
set_option linter.unusedVariables false
/-! numbers as bytes -/
@[reducible] def ptr (b : Nat) : Value := .pointer (some ⟨b, 0, none⟩)
def OwnB (sv : Value) (xs : List Int) (G : List Blk) : Prop := Own 5 1 sv (xs.map fun n => [Value.int .u8 n]) G
theorem OwnB.form {sv : Value} {xs : List Int} {G : List Blk} (h : OwnB sv xs G) : ∃ a c, sv = .slice a xs.length c := by
  obtain ⟨a, c, h⟩ := Own.form h
  exact ⟨a, c, by rw [h, List.length_map]⟩
structure NumS where
  xs : List Int
  m : Nat
  sv : Value
  G : List Blk
end Go.Proofs.YtkcmjgjfodipfaaGreat
/- The zeros of this seat's types; maps.clone. By program (wip/gen/inst.py .. J). -/
namespace Go.Proofs.YtkcmjgjfodipfaaGreat
open Go Go.Sep Go.Proofs
instance : TyZ Tryz.prog 199 (.agg #[.int .i64 0, .int .i64 0, .int .i64 0, .int .i64 0, .int .i64 0]) := ⟨by kernel_rfl⟩
instance : TyZ Tryz.prog 371 (.agg #[.int .i64 0]) := ⟨by kernel_rfl⟩
instance : IsMapClone Tryz.prog 175 := ⟨⟨_, Tryz.func175, by kernel_rfl, by kernel_rfl, by kernel_rfl, by kernel_rfl⟩⟩
end Go.Proofs.YtkcmjgjfodipfaaGreat
namespace Go.Proofs.YtkcmjgjfodipfaaGreat
open Go Go.Sep Go.Proofs
set_option maxRecDepth 10000
set_option maxHeartbeats 4000000
set_option synthInstance.maxSize 2000
set_option linter.unusedSimpArgs false
set_option linter.unusedVariables false
/-! a reader of bytes -/
instance : NoIf Tryz.prog 371 := ⟨⟨_, Tryz.underlying371, rfl⟩⟩
@[reducible] def RdB (rb : Nat) (b : ByteArray) (at_ e : Int) : Blk := (rb, cl [.string b, .int .i64 at_, .int .i64 e] 286)
@[reducible] def gave (e : Int) : PanicEntry := ⟨.iface 371 (.agg #[.int .i64 e]), false, false⟩
theorem take_spec (B0 : Base) (rb : Nat) (b : ByteArray) (p : Nat) (e : Int) (n : Nat) (hp : p ≤ b.size) (hb : b.size ≤ 1000000) (hn : n ≤ 1000000) :
    ConX Tryz.prog B0 217 #[ptr rb, .int .i64 n] [RdB rb b p e] (fun v A => p + n ≤ b.size ∧ v = .string (b.extract p (p + n)) ∧ A = [RdB rb b ((p + n : Nat) : Int) e]) (fun c A => ¬ (p + n ≤ b.size) ∧ c = [gave 20] ∧ A = [RdB rb b p e]) := by
  refine ConX.intro (vs := [_, _]) Tryz.func217 rfl Tryz.ntmps217 rfl (fun B hB => ?_)
  by_cases hs : p + n ≤ b.size
  · have hs' : ¬ ((b.size : Int) - (p : Int) < n) := by omega
    repeat' (first | refine Cd.seq ?_ | refine Cd.reg ?_ | refine Ops.asg rfl rfl rfl rfl ?_)
    refine Cd.draw [(0, 0, []), (1, 0, []), (2, 0, []), (3, 0, []), (4, 1, []), (5, 0, []), (6, 0, []), (7, 0, []), (8, 0, []), (9, 1, []), (10, 0, []), (11, 0, [])] (by kernel_rfl) (by kernel_rfl) (by simp only [picked, nth]; exact rfl) ?_
    repeat' (first | refine Cd.seq ?_ | refine Cd.reg ?_ | refine Ops.nil ?_ | refine Ops.mv rfl rfl rfl rfl ?_ | refine Ops.nilP rfl rfl rfl rfl ?_ | refine Ops.fa0 rfl rfl rfl rfl ?_ | refine Ops.ld1 rfl rfl rfl rfl rfl ?_ | refine Ops.lenStr rfl rfl rfl rfl ?_ | refine Ops.addI rfl rfl rfl rfl (by omega) (by omega) rfl ?_ | refine Ops.subI rfl rfl rfl rfl (by omega) (by omega) rfl ?_ | refine Ops.bin rfl rfl rfl rfl rfl ?_ | refine Ops.st1 rfl rfl rfl rfl rfl (noPd rfl) ?_ | refine Cd.skip (Cd.next ?_) | refine Cd.condF rfl (by first | rfl | assumption | (simp only [decide_eq_true_eq, decide_eq_false_iff_not, Bool.not_eq_true', Bool.not_eq_false', Bool.not_eq_eq_eq_not, Bool.not_true, Bool.not_false, beq_iff_eq, beq_eq_false_iff_ne, ne_eq, decide_eq_decide, eq_self, true_iff, iff_true, not_true_eq_false, not_false_eq_true]; first | done | omega)) ?_)
    refine Cd.draw [(0, 0, []), (1, 0, []), (2, 0, []), (3, 1, []), (4, 0, []), (5, 0, []), (6, 0, []), (7, 1, []), (8, 0, []), (9, 0, []), (10, 0, []), (11, 0, []), (12, 0, []), (13, 1, []), (14, 0, []), (15, 0, [])] (by kernel_rfl) (by kernel_rfl) (by simp only [picked, nth]; exact rfl) ?_
    repeat' (first | refine Ops.mv rfl rfl rfl rfl ?_ | refine Ops.nilP rfl rfl rfl rfl ?_ | refine Ops.fa0 rfl rfl rfl rfl ?_ | refine Ops.ld1 rfl rfl rfl rfl rfl ?_ | refine Ops.subI rfl rfl rfl rfl (by omega) (by omega) rfl ?_)
    refine Ops.slS rfl rfl rfl rfl rfl (by omega) (by omega) (by omega) rfl ?_
    rw [show ((p : Int) + n - n).toNat = p from by omega, show ((p : Int) + n).toNat = p + n from by omega, show (p : Int) + n = ((p + n : Nat) : Int) from by omega]
    repeat' (first | refine Ops.nil ?_ | refine Ops.asg rfl rfl rfl rfl ?_)
    exact Cd.ret (retX (ret1 (A' := [RdB rb b ((p + n : Nat) : Int) e]) rfl (Res.tmp rfl) (fun _ h => h.split) ⟨hs, rfl, rfl⟩))
  · have hs' : (b.size : Int) - (p : Int) < n := by omega
    repeat' (first | refine Cd.seq ?_ | refine Cd.reg ?_ | refine Ops.asg rfl rfl rfl rfl ?_)
    refine Cd.draw [(0, 0, []), (1, 0, []), (2, 0, []), (3, 0, []), (4, 1, []), (5, 0, []), (6, 0, []), (7, 0, []), (8, 0, []), (9, 1, []), (10, 0, []), (11, 0, [])] (by kernel_rfl) (by kernel_rfl) (by simp only [picked, nth]; exact rfl) ?_
    repeat' (first | refine Cd.reg ?_ | refine Ops.nil ?_ | refine Ops.mv rfl rfl rfl rfl ?_ | refine Ops.nilP rfl rfl rfl rfl ?_ | refine Ops.fa0 rfl rfl rfl rfl ?_ | refine Ops.ld1 rfl rfl rfl rfl rfl ?_ | refine Ops.lenStr rfl rfl rfl rfl ?_ | refine Ops.subI rfl rfl rfl rfl (by omega) (by omega) rfl ?_ | refine Ops.bin rfl rfl rfl rfl rfl ?_ | refine Ops.bld rfl rfl rfl rfl ?_ | refine Cd.condT rfl (by first | rfl | assumption | (simp only [decide_eq_true_eq, decide_eq_false_iff_not, Bool.not_eq_true', Bool.not_eq_false', Bool.not_eq_eq_eq_not, Bool.not_true, Bool.not_false, beq_iff_eq, beq_eq_false_iff_ne, ne_eq, decide_eq_decide, eq_self, true_iff, iff_true, not_true_eq_false, not_false_eq_true]; first | done | omega)) ?_)
    refine Ops.mkJ rfl rfl rfl rfl ?_
    refine Ops.pan rfl rfl (panX (A' := [RdB rb b p e]) (fun _ h => h.split) ⟨hs, rfl, rfl⟩)
end Go.Proofs.YtkcmjgjfodipfaaGreat
namespace Go.Proofs.YtkcmjgjfodipfaaGreat
open Go Go.Sep Go.Proofs
set_option maxRecDepth 10000
set_option maxHeartbeats 4000000
set_option synthInstance.maxSize 2000
set_option linter.unusedSimpArgs false
set_option linter.unusedVariables false
/-! a number that is read -/
inductive RR where
  | bad (e : Int)
  | good (n at_ : Nat)
def accN (acc c i : Nat) : Nat := acc ||| ((c &&& 127) * 2 ^ (7 * i)) % 18446744073709551616
def numGo (b : ByteArray) (most : Nat) (over : Int) : Nat → Nat → Nat → Nat → RR
  | 0, _, _, _ => .bad 22
  | k + 1, i, p, acc => match b[p]? with
    | none => .bad 20
    | some c => if 127 < c.toNat then numGo b most over k (i + 1) (p + 1) (accN acc c.toNat i)
      else if (0 < i ∧ c.toNat = 0) ∨ (i = 9 ∧ 1 < c.toNat) then .bad 22
      else if most < accN acc c.toNat i then .bad over else .good (accN acc c.toNat i) (p + 1)
def numR (b : ByteArray) (most : Nat) (over : Int) (p : Nat) : RR := numGo b most over 10 0 p 0
theorem and127 (c : UInt8) : andI .u8 (c.toNat : Int) 127 = ((c.toNat &&& 127 : Nat) : Int) := by
  rw [show (127 : Int) = ((127 : Nat) : Int) from rfl, andI_u8 (UInt8.toNat_lt c) (by decide)]
theorem wrap_u64 {n : Nat} (h : n < 18446744073709551616) : IntKind.wrap .u64 (n : Int) = (n : Int) := by
  simp only [IntKind.wrap, IntKind.bits, IntKind.signed, Bool.false_and, Bool.false_eq_true, if_false]
  omega
theorem shl_step {c i : Nat} (hi : i ≤ 9) : IntKind.wrap .u64 (((c : Nat) : Int) * 2 ^ (min (7 * (i : Int)).toNat (IntKind.bits .u64))) = ((c * 2 ^ (7 * i) % 18446744073709551616 : Nat) : Int) := by
  have e1 : min (7 * (i : Int)).toNat (IntKind.bits .u64) = 7 * i := by
    show min _ 64 = _
    omega
  rw [e1]
  simp only [IntKind.wrap, IntKind.bits, IntKind.signed, Bool.false_and, Bool.false_eq_true, if_false]
  rw [show ((c : Nat) : Int) * 2 ^ (7 * i) = ((c * 2 ^ (7 * i) : Nat) : Int) from by push_cast; rfl]
  omega
theorem accN_lt {acc c i : Nat} (h : acc < 18446744073709551616) : accN acc c i < 18446744073709551616 := by
  unfold accN
  exact Nat.or_lt_two_pow (n := 64) h (Nat.mod_lt _ (by decide))
theorem ext1 {b : ByteArray} {p : Nat} {c : UInt8} (h : b[p]? = some c) : (b.extract p (p + 1))[(0 : Int).toNat]? = some c := by
  obtain ⟨h1, h2⟩ := getElem?_eq_some_iff.1 h
  have hs : (0 : Nat) < (b.extract p (p + 1)).size := by rw [ByteArray.size_extract]; omega
  show (b.extract p (p + 1))[0]? = some c
  rw [getElem?_pos (b.extract p (p + 1)) 0 hs, ByteArray.getElem_extract]
  simp [h2]
structure NbS where
  i : Nat
  p : Nat
  acc : Nat
theorem number_spec (B0 : Base) (rb : Nat) (b : ByteArray) (p : Nat) (e : Int) (most : Nat) (over : Int) (hp : p ≤ b.size) (hb : b.size ≤ 1000000) (hmost : most < 18446744073709551616) :
    ConX Tryz.prog B0 153 #[ptr rb, .int .u64 most, .int .i64 over] [RdB rb b p e] (fun v A => ∃ n q, numR b most over p = .good n q ∧ n < 18446744073709551616 ∧ q ≤ b.size ∧ v = .int .u64 n ∧ A = [RdB rb b q e]) (fun c A => ∃ er, numR b most over p = .bad er ∧ c = [gave er] ∧ ∃ q : Nat, A = [RdB rb b q e]) := by
  refine ConX.intro (vs := [_, _, _]) Tryz.func153 rfl Tryz.ntmps153 rfl (fun B hB => ?_)
  repeat' (first | refine Cd.seq ?_ | refine Cd.reg ?_ | refine Ops.nil ?_ | refine Ops.mv rfl rfl rfl rfl ?_ | refine Ops.asg rfl rfl rfl rfl ?_ | refine Cd.block ?_)
  refine Cd.loopK (σ := NbS) (fun s => s.i ≤ 10 ∧ numR b most over p = numGo b most over (10 - s.i) s.i s.p s.acc ∧ s.p ≤ b.size ∧ s.acc < 18446744073709551616) (fun s => [(0, ptr rb), (1, .int .u64 most), (2, .int .i64 over), (7, .int .u64 s.acc), (10, .int .i64 s.i)]) (fun s => [RdB rb b s.p e]) (fun s => 10 - s.i) ⟨0, p, 0⟩ ⟨Nat.zero_le _, rfl, hp, (by decide : (0 : Nat) < 18446744073709551616)⟩ ⟨rfl, rfl, rfl, rfl, rfl, trivial⟩ (fun w h => h) (fun s hs => ?_)
  obtain ⟨i, q, acc⟩ := s
  obtain ⟨hi, hR, hq, hacc⟩ := hs
  dsimp only at hi hR hq hacc ⊢
  by_cases hi10 : i = 10
  · subst hi10
    have hbad : numR b most over p = .bad 22 := hR
    repeat' (first | refine Cd.seq ?_ | refine Cd.reg ?_ | refine Ops.bin rfl rfl rfl rfl rfl ?_ | refine Ops.bld rfl rfl rfl rfl ?_ | refine Cd.condF rfl rfl ?_ | refine Cd.exit (Cd.next (Q' := fun _ _ _ => True) ?_))
    refine Ops.mkJ rfl rfl rfl rfl ?_
    exact Ops.pan rfl rfl (panX (A' := [RdB rb b q e]) (fun _ h => h.split) ⟨22, hbad, rfl, q, rfl⟩)
  have hi9 : i ≤ 9 := by omega
  have hi' : (i : Int) < 10 := by omega
  rw [show 10 - i = (9 - i) + 1 from by omega] at hR
  unfold numGo at hR
  repeat' (first | refine Cd.seq ?_ | refine Cd.reg ?_ | refine Ops.mv rfl rfl rfl rfl ?_ | refine Ops.asg rfl rfl rfl rfl ?_ | refine Ops.bin rfl rfl rfl rfl rfl ?_ | refine Cd.block ?_ | refine Cd.skip (Cd.next ?_) | refine Cd.condT rfl (by first | rfl | assumption | (simp only [decide_eq_true_eq, decide_eq_false_iff_not, Bool.not_eq_true', Bool.not_eq_false', Bool.not_eq_eq_eq_not, Bool.not_true, Bool.not_false, beq_iff_eq, beq_eq_false_iff_ne, ne_eq, decide_eq_decide, eq_self, true_iff, iff_true, not_true_eq_false, not_false_eq_true]; first | done | omega)) ?_)
  refine Ops.callX (take_spec B0 rb b q e 1 hq hb (by decide)) hB rfl rfl rfl (fun c A' hX => ?_) (fun v A' hX => ?_)
  · obtain ⟨hlt, rfl, rfl⟩ := hX
    have hno : b[q]? = none := by rw [getElem?_neg b q (by omega)]
    rw [hno] at hR
    exact panX (A' := [RdB rb b q e]) (fun _ h => h.split) ⟨20, hR, rfl, q, rfl⟩
  · obtain ⟨hle, rfl, rfl⟩ := hX
    obtain ⟨c, hc⟩ : ∃ c, b[q]? = some c := ⟨_, getElem?_pos b q (by omega)⟩
    rw [hc] at hR
    dsimp only at hR
    have hc8 := UInt8.toNat_lt c
    have hc7 : c.toNat &&& 127 < 18446744073709551616 := Nat.lt_of_le_of_lt Nat.and_le_left (by omega)
    have hacc2 : accN acc c.toNat i < 18446744073709551616 := accN_lt hacc
    skip
    refine Ops.ixS rfl rfl rfl rfl (by decide) (ext1 hc) rfl ?_
    repeat' (first | refine Cd.seq ?_ | refine Cd.reg ?_ | refine Ops.mv rfl rfl rfl rfl ?_ | refine Ops.asg rfl rfl rfl rfl ?_ | refine Ops.bin rfl rfl rfl rfl rfl ?_ | fail)
    rw [and127]
    refine Ops.cvI rfl rfl rfl rfl ?_
    rw [wrap_u64 hc7]
    repeat' (first | refine Ops.mv rfl rfl rfl rfl ?_ | refine Ops.mulI rfl rfl rfl rfl (by omega) (by omega) rfl ?_)
    refine Ops.shlI rfl rfl rfl rfl (by omega) rfl ?_
    rw [shl_step hi9]
    refine Ops.bin rfl rfl rfl rfl rfl ?_
    rw [orI_u64 hacc (Nat.mod_lt _ (by decide))]
    rw [show acc ||| (c.toNat &&& 127) * 2 ^ (7 * i) % 18446744073709551616 = accN acc c.toNat i from rfl]
    generalize accN acc c.toNat i = acc2 at hR hacc2 ⊢
    by_cases h127 : 127 < c.toNat
    · rw [if_pos h127] at hR
      have h127' : (127 : Int) < c.toNat := by omega
      repeat' (first | refine Cd.seq ?_ | refine Cd.reg ?_ | refine Ops.nil ?_ | refine Ops.mv rfl rfl rfl rfl ?_ | refine Ops.asg rfl rfl rfl rfl ?_ | refine Ops.addI rfl rfl rfl rfl (by omega) (by omega) rfl ?_ | refine Ops.bin rfl rfl rfl rfl rfl ?_ | refine Cd.exit (Cd.next (Q' := fun _ _ _ => True) ?_) | refine Cd.condT rfl (by first | rfl | assumption | (simp only [decide_eq_true_eq, decide_eq_false_iff_not, Bool.not_eq_true', Bool.not_eq_false', Bool.not_eq_eq_eq_not, Bool.not_true, Bool.not_false, beq_iff_eq, beq_eq_false_iff_ne, ne_eq, decide_eq_decide, eq_self, true_iff, iff_true, not_true_eq_false, not_false_eq_true]; first | done | omega)) ?_)
      exact Ops.nilN (round_end (⟨i + 1, q + 1, acc2⟩ : NbS) ⟨by show i + 1 ≤ 10; omega, by show _ = numGo b most over (10 - (i + 1)) (i + 1) (q + 1) acc2; rw [show 10 - (i + 1) = 9 - i from by omega]; exact hR, hle, hacc2⟩ (by show 10 - (i + 1) < 10 - i; omega) ⟨rfl, rfl, rfl, rfl, rfl, trivial⟩ (fun w h => h.split))
    rw [if_neg h127] at hR
    have h127' : ¬ (127 : Int) < c.toNat := by omega
    by_cases hform : (0 < i ∧ c.toNat = 0) ∨ (i = 9 ∧ 1 < c.toNat)
    · rw [if_pos hform] at hR
      repeat' (first | refine Cd.seq ?_ | refine Cd.reg ?_ | refine Ops.nil ?_ | refine Ops.mv rfl rfl rfl rfl ?_ | refine Ops.asg rfl rfl rfl rfl ?_ | refine Ops.bin rfl rfl rfl rfl rfl ?_ | refine Ops.pickT rfl rfl rfl rfl rfl ?_ | refine Ops.pickF rfl rfl rfl rfl rfl ?_ | refine Ops.bld rfl rfl rfl rfl ?_ | refine Ops.gSkip rfl rfl rfl ?_ | refine Ops.gSkipU rfl rfl rfl rfl ?_ | refine Cd.condT rfl rfl ?_ | refine Cd.skip (Cd.next ?_) | refine Cd.exit (Cd.next (Q' := fun _ _ _ => True) ?_) | refine Cd.condT rfl (by first | rfl | assumption | (simp only [decide_eq_true_eq, decide_eq_false_iff_not, Bool.not_eq_true', Bool.not_eq_false', Bool.not_eq_eq_eq_not, Bool.not_true, Bool.not_false, beq_iff_eq, beq_eq_false_iff_ne, ne_eq, decide_eq_decide, eq_self, true_iff, iff_true, not_true_eq_false, not_false_eq_true]; first | done | omega)) ?_ | refine Cd.condF rfl (by first | rfl | assumption | (simp only [decide_eq_true_eq, decide_eq_false_iff_not, Bool.not_eq_true', Bool.not_eq_false', Bool.not_eq_eq_eq_not, Bool.not_true, Bool.not_false, beq_iff_eq, beq_eq_false_iff_ne, ne_eq, decide_eq_decide, eq_self, true_iff, iff_true, not_true_eq_false, not_false_eq_true]; first | done | omega)) ?_ | ((fail_if_success refine Ops.probe rfl ?_); refine Ops.gT rfl rfl (by first | rfl | assumption | (simp only [decide_eq_true_eq, decide_eq_false_iff_not, Bool.not_eq_true', Bool.not_eq_false', Bool.not_eq_eq_eq_not, Bool.not_true, Bool.not_false, beq_iff_eq, beq_eq_false_iff_ne, ne_eq, decide_eq_decide, eq_self, true_iff, iff_true, not_true_eq_false, not_false_eq_true]; first | done | omega)) ?_) | ((fail_if_success refine Ops.probe rfl ?_); refine Ops.gSplit rfl rfl (fun hc => ?_) (fun hc => ?_) <;> (try simp only [decide_eq_true_eq, decide_eq_false_iff_not, Bool.not_eq_true', Bool.not_eq_false', Bool.not_eq_eq_eq_not, Bool.not_true, Bool.not_false, Int.not_lt, Int.not_le] at hc)))
      all_goals first
        | (refine Ops.mkJ rfl rfl rfl rfl ?_; exact Ops.pan rfl rfl (panX (A' := [RdB rb b ((q + 1 : Nat) : Int) e]) (fun _ h => h.split) ⟨22, hR, rfl, q + 1, rfl⟩))
        | (exfalso; omega)
    · rw [if_neg hform] at hR
      by_cases hov : most < acc2
      · rw [if_pos hov] at hR
        have hov' : (most : Int) < acc2 := by omega
        repeat' (first | refine Cd.seq ?_ | refine Cd.reg ?_ | refine Ops.nil ?_ | refine Ops.mv rfl rfl rfl rfl ?_ | refine Ops.asg rfl rfl rfl rfl ?_ | refine Ops.bin rfl rfl rfl rfl rfl ?_ | refine Ops.pickT rfl rfl rfl rfl rfl ?_ | refine Ops.pickF rfl rfl rfl rfl rfl ?_ | refine Ops.bld rfl rfl rfl rfl ?_ | refine Ops.gSkip rfl rfl rfl ?_ | refine Cd.condF rfl rfl ?_ | refine Cd.skip (Cd.next ?_) | refine Cd.condT rfl (by first | rfl | assumption | (simp only [decide_eq_true_eq, decide_eq_false_iff_not, Bool.not_eq_true', Bool.not_eq_false', Bool.not_eq_eq_eq_not, Bool.not_true, Bool.not_false, beq_iff_eq, beq_eq_false_iff_ne, ne_eq, decide_eq_decide, eq_self, true_iff, iff_true, not_true_eq_false, not_false_eq_true]; first | done | omega)) ?_ | refine Cd.condF rfl (by first | rfl | assumption | (simp only [decide_eq_true_eq, decide_eq_false_iff_not, Bool.not_eq_true', Bool.not_eq_false', Bool.not_eq_eq_eq_not, Bool.not_true, Bool.not_false, beq_iff_eq, beq_eq_false_iff_ne, ne_eq, decide_eq_decide, eq_self, true_iff, iff_true, not_true_eq_false, not_false_eq_true]; first | done | omega)) ?_ | ((fail_if_success refine Ops.probe rfl ?_); refine Ops.gF rfl rfl (by first | rfl | assumption | (simp only [decide_eq_true_eq, decide_eq_false_iff_not, Bool.not_eq_true', Bool.not_eq_false', Bool.not_eq_eq_eq_not, Bool.not_true, Bool.not_false, beq_iff_eq, beq_eq_false_iff_ne, ne_eq, decide_eq_decide, eq_self, true_iff, iff_true, not_true_eq_false, not_false_eq_true]; first | done | omega)) ?_) | ((fail_if_success refine Ops.probe rfl ?_); refine Ops.gSplit rfl rfl (fun hc => ?_) (fun hc => ?_) <;> (try simp only [decide_eq_true_eq, decide_eq_false_iff_not, Bool.not_eq_true', Bool.not_eq_false', Bool.not_eq_eq_eq_not, Bool.not_true, Bool.not_false, Int.not_lt, Int.not_le] at hc)))
        all_goals first
          | (refine Ops.mkJ rfl rfl rfl rfl ?_; exact Ops.pan rfl rfl (panX (A' := [RdB rb b ((q + 1 : Nat) : Int) e]) (fun _ h => h.split) ⟨over, hR, rfl, q + 1, rfl⟩))
          | (exfalso; omega)
      · rw [if_neg hov] at hR
        have hov' : ¬ (most : Int) < acc2 := by omega
        repeat' (first | refine Cd.seq ?_ | refine Cd.reg ?_ | refine Ops.nil ?_ | refine Ops.mv rfl rfl rfl rfl ?_ | refine Ops.asg rfl rfl rfl rfl ?_ | refine Ops.bin rfl rfl rfl rfl rfl ?_ | refine Ops.pickT rfl rfl rfl rfl rfl ?_ | refine Ops.pickF rfl rfl rfl rfl rfl ?_ | refine Ops.gSkip rfl rfl rfl ?_ | refine Cd.condF rfl rfl ?_ | refine Cd.skip (Cd.next ?_) | refine Cd.condF rfl (by first | rfl | assumption | (simp only [decide_eq_true_eq, decide_eq_false_iff_not, Bool.not_eq_true', Bool.not_eq_false', Bool.not_eq_eq_eq_not, Bool.not_true, Bool.not_false, beq_iff_eq, beq_eq_false_iff_ne, ne_eq, decide_eq_decide, eq_self, true_iff, iff_true, not_true_eq_false, not_false_eq_true]; first | done | omega)) ?_ | ((fail_if_success refine Ops.probe rfl ?_); refine Ops.gF rfl rfl (by first | rfl | assumption | (simp only [decide_eq_true_eq, decide_eq_false_iff_not, Bool.not_eq_true', Bool.not_eq_false', Bool.not_eq_eq_eq_not, Bool.not_true, Bool.not_false, beq_iff_eq, beq_eq_false_iff_ne, ne_eq, decide_eq_decide, eq_self, true_iff, iff_true, not_true_eq_false, not_false_eq_true]; first | done | omega)) ?_) | ((fail_if_success refine Ops.probe rfl ?_); refine Ops.gSplit rfl rfl (fun hc => ?_) (fun hc => ?_) <;> (try simp only [decide_eq_true_eq, decide_eq_false_iff_not, Bool.not_eq_true', Bool.not_eq_false', Bool.not_eq_eq_eq_not, Bool.not_true, Bool.not_false, Int.not_lt, Int.not_le] at hc)))
        all_goals first
          | exact Cd.ret (retX (ret1 (A' := [RdB rb b ((q + 1 : Nat) : Int) e]) rfl (Res.tmp rfl) (fun _ h => h.split) ⟨acc2, q + 1, hR, hacc2, hle, rfl, rfl⟩))
          | (exfalso; omega)
end Go.Proofs.YtkcmjgjfodipfaaGreat
namespace Go.Proofs.YtkcmjgjfodipfaaGreat
open Go Go.Sep Go.Proofs
set_option maxRecDepth 10000
set_option maxHeartbeats 4000000
set_option synthInstance.maxSize 2000
set_option linter.unusedSimpArgs false
set_option linter.unusedVariables false
/-! a call that reads: what it gives up with is the reader's fault -/
theorem facestring_pan (B0 : Base) (fb xr xb rb : Nat) (bs : ByteArray) (p0 q e er : Int) (xv : ByteArray) :
    DCon Tryz.prog B0 289 #[ptr fb, ptr xr, ptr xb] (.panicking [gave er]) [(fb, cl [.int .i64 p0] 3), (xr, cl [ptr rb] 184), (xb, cl [(.string xv)] 9), RdB rb bs q e] fun u' A => settle u' = .returning ∧ A = [(fb, cl [.int .i64 p0] 3), (xr, cl [ptr rb] 184), (xb, cl [.string ⟨#[]⟩] 9), RdB rb bs p0 er] := by
  refine DCon.intro (vs := [_, _, _]) Tryz.func289 rfl Tryz.ntmps289 rfl (fun B c₀ cs hx hu => ?_)
  have hrec : recoverD (c₀ :: cs) = some (.iface 371 (.agg #[.int .i64 er]), { c₀ with mode := .panicking [⟨.iface 371 (.agg #[.int .i64 er]), true, false⟩] } :: cs) := by
    simp [recoverD, hu]
  refine CdS.seq ?_
  refine CdS.rec_ rfl hrec rfl rfl ?_
  refine Ops.tAss rfl rfl rfl rfl ?_
  repeat' (first | refine Ops.mv rfl rfl rfl rfl ?_ | refine Ops.asg rfl rfl rfl rfl ?_ | refine Ops.ext rfl rfl rfl rfl rfl ?_ | refine Ops.alloc rfl rfl rfl (noPd rfl) (fun b => ?_) | refine Ops.stN rfl rfl rfl rfl rfl rfl (noPd rfl) ?_)
  refine Ops.nilN (CdS.next ?_)
  refine CdS.of rfl ?_
  repeat' (first | refine Cd.seq ?_ | refine Cd.reg ?_ | refine Ops.nil ?_ | refine Ops.mv rfl rfl rfl rfl ?_ | refine Ops.asg rfl rfl rfl rfl ?_ | refine Cd.condT rfl rfl ?_)
  refine Cd.draw [(0, 1, []), (1, 1, []), (2, 1, []), (3, 0, []), (4, 1, []), (5, 0, []), (6, 0, []), (7, 0, []), (8, 2, [4]), (9, 0, []), (10, 0, []), (11, 2, []), (12, 2, [])] (by kernel_rfl) (by kernel_rfl) (by simp only [picked, nth]; exact rfl) ?_
  repeat' (first | refine Ops.mv rfl rfl rfl rfl ?_ | refine Ops.nilP rfl rfl rfl rfl ?_ | refine Ops.fa0 rfl rfl rfl rfl ?_ | refine Ops.ld1 rfl rfl rfl rfl rfl ?_ | refine Ops.st1 rfl rfl rfl rfl rfl (by first | exact noPd rfl | (intro v A' hR i hi; obtain rfl := hR; (repeat (rcases List.mem_cons.1 hi with rfl | hi; · (first | exact Still.ld1 rfl rfl rfl rfl rfl | exact Still.ldN rfl rfl rfl rfl | exact Still.len rfl rfl rfl rfl rfl | exact Still.skip rfl rfl rfl | exact Still.ldRow1 rfl rfl rfl (by assumption) (by assumption) rfl rfl | exact Still.ldR rfl rfl rfl (by apply_assumption) rfl))); cases hi)) ?_)
  exact Ops.nilN (endS (A' := [(fb, cl [.int .i64 p0] 3), (xr, cl [ptr rb] 184), (xb, cl [.string ⟨#[]⟩] 9), RdB rb bs p0 er]) rfl (fun _ h => h.split) ⟨rfl, rfl⟩)
theorem facestring_ret (B0 : Base) (fb xr xb rb : Nat) (bs : ByteArray) (p0 q e : Int) (xv : ByteArray) :
    DCon Tryz.prog B0 289 #[ptr fb, ptr xr, ptr xb] .returning [(fb, cl [.int .i64 p0] 3), (xr, cl [ptr rb] 184), (xb, cl [(.string xv)] 9), RdB rb bs q e] fun u' A => u' = .returning ∧ A = [(fb, cl [.int .i64 p0] 3), (xr, cl [ptr rb] 184), (xb, cl [(.string xv)] 9), RdB rb bs q e] := by
  refine DCon.intro (vs := [_, _, _]) Tryz.func289 rfl Tryz.ntmps289 rfl (fun B c₀ cs hx hu => ?_)
  have hrec : recoverD (c₀ :: cs) = none := by simp [recoverD, hu]
  have hc0 : c₀ = { c₀ with mode := .returning } := by rw [← hu]
  refine CdS.seq ?_
  refine CdS.rec_no rfl hrec rfl rfl ?_
  refine Ops.tAssNo rfl rfl rfl rfl ?_
  repeat' (first | refine Ops.mv rfl rfl rfl rfl ?_ | refine Ops.asg rfl rfl rfl rfl ?_ | refine Ops.ext rfl rfl rfl rfl rfl ?_ | refine Ops.alloc rfl rfl rfl (noPd rfl) (fun b => ?_) | refine Ops.stN rfl rfl rfl rfl rfl rfl (noPd rfl) ?_)
  refine Ops.nilN (CdS.next ?_)
  refine CdS.of rfl ?_
  rw [hc0]
  repeat' (first | refine Cd.seq ?_ | refine Cd.reg ?_ | refine Ops.nil ?_ | refine Ops.mv rfl rfl rfl rfl ?_ | refine Cd.condF rfl rfl ?_)
  exact Cd.skip (endS (A' := [(fb, cl [.int .i64 p0] 3), (xr, cl [ptr rb] 184), (xb, cl [(.string xv)] 9), RdB rb bs q e]) rfl (fun _ h => h.split) ⟨rfl, rfl⟩)
end Go.Proofs.YtkcmjgjfodipfaaGreat
namespace Go.Proofs.YtkcmjgjfodipfaaGreat
open Go Go.Sep Go.Proofs
set_option maxRecDepth 10000
set_option maxHeartbeats 4000000
set_option synthInstance.maxSize 2000
set_option linter.unusedSimpArgs false
set_option linter.unusedVariables false
/-! face: a call that reads, faults kept -/
theorem facestring_old (B0 : Base) (rb : Nat) (bs : ByteArray) (q e : Int) (g : FuncId) (ca : List Value) (he : e ≠ 0) :
    ConB Tryz.prog B0 248 #[ptr rb, .func (.func g) #[] ca.toArray] [RdB rb bs q e] fun v A => v = .string ⟨#[]⟩ ∧ A = [RdB rb bs q e] := by
  refine ConB.intro (vs := [_, _]) Tryz.func248 rfl Tryz.ntmps248 rfl (fun B hB => ?_)
  repeat' (first | refine Cd.seq ?_ | refine Cd.reg ?_ | refine Ops.nil ?_ | refine Ops.nilP rfl rfl rfl rfl ?_ | refine Ops.fa0 rfl rfl rfl rfl ?_ | refine Ops.ld1 rfl rfl rfl rfl rfl ?_ | refine Ops.bin rfl rfl rfl rfl rfl ?_ | refine Ops.box rfl rfl rfl rfl (noPd rfl) (fun b => ?_) | refine Ops.alloc rfl rfl rfl (noPd rfl) (fun b => ?_) | refine Ops.st1 rfl rfl rfl rfl rfl (noPd rfl) ?_ | refine Cd.condT rfl (by first | rfl | assumption | (simp only [decide_eq_true_eq, decide_eq_false_iff_not, Bool.not_eq_true', Bool.not_eq_false', Bool.not_eq_eq_eq_not, Bool.not_true, Bool.not_false, beq_iff_eq, beq_eq_false_iff_ne, ne_eq, decide_eq_decide, eq_self, true_iff, iff_true, not_true_eq_false, not_false_eq_true]; first | done | omega)) ?_)
  exact Cd.ret (ret1 (A' := [RdB rb bs q e]) rfl (Res.cell1 rfl rfl) (fun _ h => h.split) ⟨rfl, rfl⟩)
theorem facestring_new (B0 : Base) (rb : Nat) (bs : ByteArray) (p : Nat) (g : FuncId) (ca : List Value) (C : List Blk) (res : Int ⊕ (ByteArray × Nat)) [hg : FnOk Tryz.prog g]
    (hread : ConX Tryz.prog B0 g ca.toArray (RdB rb bs p 0 :: C) (fun v A => ∃ u q, res = .inr (u, q) ∧ v = (.string u) ∧ A = RdB rb bs (q : Nat) 0 :: C) (fun c A => ∃ er, res = .inl er ∧ c = [gave er] ∧ ∃ q : Nat, A = RdB rb bs q 0 :: C)) :
    ConB Tryz.prog B0 248 #[ptr rb, .func (.func g) #[] ca.toArray] (RdB rb bs p 0 :: C) fun v A => (∃ u q, res = .inr (u, q) ∧ v = (.string u) ∧ A = RdB rb bs (q : Nat) 0 :: C) ∨ (∃ er, res = .inl er ∧ v = .string ⟨#[]⟩ ∧ A = RdB rb bs p er :: C) := by
  refine ConX.calm (X := fun _ _ => False) (ConX.intro (vs := [_, _]) Tryz.func248 rfl Tryz.ntmps248 rfl (fun B hB => ?_)) (fun _ _ h => h)
  repeat' (first | refine Ops.mkF rfl rfl rfl rfl rfl ?_ | refine Cd.seq ?_ | refine Cd.reg ?_ | refine Ops.nil ?_ | refine Ops.nilP rfl rfl rfl rfl ?_ | refine Ops.fa0 rfl rfl rfl rfl ?_ | refine Ops.ld1 rfl rfl rfl rfl rfl ?_ | refine Ops.bin rfl rfl rfl rfl rfl ?_ | refine Ops.box rfl rfl rfl rfl (noPd rfl) (fun b => ?_) | refine Ops.alloc rfl rfl rfl (noPd rfl) (fun b => ?_) | refine Ops.st1 rfl rfl rfl rfl rfl (noPd rfl) ?_ | refine Cd.condF rfl rfl ?_ | refine Cd.skip (Cd.next ?_))
  rename_i xr xb
  rename Nat => fb
  refine Ops.dfr (fi := []) (ca := [ptr fb, ptr xr, ptr xb]) (vs := []) rfl rfl rfl rfl ?_
  repeat' (first | refine Cd.seq ?_ | refine Cd.reg ?_ | refine Ops.mv rfl rfl rfl rfl ?_)
  refine Ops.callVX (fi := []) (vs := []) hread hB rfl rfl rfl rfl (fun c A' hX => ?_) (fun v A' hR => ?_)
  · obtain ⟨er, hres, rfl, q, rfl⟩ := hX
    refine leaveD_pan (facestring_pan B0 fb xr xb rb bs p q 0 er ⟨#[]⟩) hB (fun u' A' hR => ?_)
    obtain ⟨hs, rfl⟩ := hR
    exact .inl ⟨hs, retX (ret1 (A' := RdB rb bs p er :: C) rfl (Res.cell1 rfl rfl) (fun _ h => h.split) (.inr ⟨er, hres, rfl, rfl⟩))⟩
  · obtain ⟨u, q, hres, rfl, rfl⟩ := hR
    repeat' (first | refine Ops.nil ?_ | refine Ops.st1 rfl rfl rfl rfl rfl (noPd rfl) ?_)
    refine Cd.ret (leaveD_ret (facestring_ret B0 fb xr xb rb bs p q 0 u) hB (fun u' A' hR => ?_))
    obtain ⟨rfl, rfl⟩ := hR
    exact .inl ⟨rfl, retX (ret1 (A' := RdB rb bs q 0 :: C) rfl (Res.cell1 rfl rfl) (fun _ h => h.split) (.inl ⟨u, q, hres, rfl, rfl⟩))⟩
end Go.Proofs.YtkcmjgjfodipfaaGreat
namespace Go.Proofs.YtkcmjgjfodipfaaGreat
open Go Go.Sep Go.Proofs
set_option maxRecDepth 10000
set_option maxHeartbeats 4000000
set_option synthInstance.maxSize 2000
set_option linter.unusedSimpArgs false
set_option linter.unusedVariables false
/-! the reader's calls, as functions of its bytes, its place, its fault -/
def RR.sum : RR → Int ⊕ (Nat × Nat)
  | .bad e => .inl e
  | .good n q => .inr (n, q)
theorem numGo_le {b : ByteArray} {most : Nat} {over : Int} : ∀ (k i p acc : Nat) {n q : Nat}, numGo b most over k i p acc = .good n q → n ≤ most
  | 0, _, _, _, n, q, h => by cases h
  | k + 1, i, p, acc, n, q, h => by
    unfold numGo at h
    split at h
    · cases h
    · split at h
      · exact numGo_le k _ _ _ h
      · split at h
        · cases h
        · split at h
          · cases h
          · injection h with h1 h2
            omega
theorem numGo_at {b : ByteArray} {most : Nat} {over : Int} : ∀ (k i p acc : Nat) {n q : Nat}, numGo b most over k i p acc = .good n q → p ≤ b.size → q ≤ b.size
  | 0, _, _, _, n, q, h, _ => by cases h
  | k + 1, i, p, acc, n, q, h, hp => by
    unfold numGo at h
    split at h
    · cases h
    · rename_i c hc
      have hlt := (getElem?_eq_some_iff.1 hc).1
      have hlt : p + 1 ≤ b.size := hlt
      split at h
      · exact numGo_at k _ _ _ h hlt
      · split at h
        · cases h
        · split at h
          · cases h
          · injection h with h1 h2
            omega
end Go.Proofs.YtkcmjgjfodipfaaGreat
