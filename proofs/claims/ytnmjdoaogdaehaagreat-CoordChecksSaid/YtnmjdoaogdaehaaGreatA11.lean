import Derived.Test.YtnmjdoaogdaehaaGreatA10
import Derived.Test.YtnmjdoaogdaehaaGreatA09
import Derived.Test.YtnmjdoaogdaehaaGreatA08
import Derived.Test.YtnmjdoaogdaehaaGreatA07
/- Maps by pairs of whole numbers: look-ups, updates, an entry that is written in place. -/
namespace Go.Sep
open Go
set_option linter.unusedSimpArgs false
/-- An entry: its key's two numbers, its element. -/
structure PE where
  a : Int
  b : Int
  v : Value
@[reducible] def pkey (a b : Int) : Value := .agg #[.int .i64 a, .int .i64 b]
def PE.ent (i : Nat) (e : PE) : MapEntry := { key := pkey e.a e.b, val := e.v, born := i }
/-- A key of two whole numbers. -/
class PairK (P : Program) (kt : TypeId) : Prop where
  und : ∃ fs, P.underlying kt = some (.struct fs)
  check : ∀ (c : Bool) (x y : Int) (w : World), (Instr.checkKey c 10000 kt (pkey x y)).run P w = .ok () w
  eq : ∀ (x y z u : Int) (w : World), (Op.equal kt (pkey x y) (pkey z u)).run P w = .ok (decide (x = z ∧ y = u)) w
instance PairK.of {P : Program} {kt t1 : TypeId} {q : IntKind} {bs : Nat} {zc : List Value} [h : Flds P kt [(t1, 0), (t1, 1)]] [h1 : TyD P t1 (.int q)] [h2 : Ty P t1 false 1 bs zc] : PairK P kt where
  und := by obtain ⟨fs, hu, _⟩ := h.get; exact ⟨fs, hu⟩
  check := fun c x y w => by
    obtain ⟨⟨fs⟩, hu, hn, hs, _, hfl⟩ := h.get
    obtain ⟨f1, f2, rfl⟩ : ∃ f1 f2, fs = [f1, f2] := by
      cases fs with
      | nil => cases hfl
      | cons f1 fs =>
        cases fs with
        | nil => simp at hfl
        | cons f2 fs =>
          cases fs with
          | nil => exact ⟨f1, f2, rfl⟩
          | cons f3 fs => simp at hfl
    · simp only [List.map_cons, List.map_nil, List.cons.injEq, Prod.mk.injEq, and_true] at hfl
      obtain ⟨⟨e1, e2⟩, e3, e4⟩ := hfl
      have n1 := hn f1 (by simp)
      have n2 := hn f2 (by simp)
      have hc : ∀ (n : Nat) (z : Int) (w : World), (Instr.checkKey c (n + 1) t1 (.int .i64 z)).run P w = .ok () w := fun n z w => by
        simp only [Instr.checkKey, Sem.run_bind, h1.run_und, Result.andThen_ok]
        rfl
      have p1 : (part t1 #[.int .i64 x, .int .i64 y] 0).run P w = .ok (.int .i64 x) w := run_part (xs := [.int .i64 x, .int .i64 y]) h2 ⟨(fun e => nomatch e), fun _ => rfl⟩ w
      have p2 : (part t1 #[.int .i64 x, .int .i64 y] 1).run P w = .ok (.int .i64 y) w := run_part (xs := [.int .i64 x, .int .i64 y]) h2 ⟨(fun e => nomatch e), fun _ => rfl⟩ w
      show (Instr.checkKey c (9999 + 1) kt (.agg #[.int .i64 x, .int .i64 y])).run P w = .ok () w
      unfold Instr.checkKey
      simp only [Sem.run_bind, run_underlying hu w, Result.andThen_ok]
      simp [n1, n2, ← e1, ← e2, ← e3, ← e4, p1, p2, hc 9998]
  eq := fun x y z u w => by
    have hx : EqV P 8 kt (.agg [.int .i64 x, .int .i64 y].toArray) (.agg [.int .i64 z, .int .i64 u].toArray) (decide (x = z) && (decide (y = u) && true)) := inferInstance
    have := hx.run 9992 w
    rw [show (decide (x = z ∧ y = u)) = (decide (x = z) && (decide (y = u) && true)) from by simp]
    exact this
section
variable {P : Program} {kt : TypeId} {w : World}
end
section
variable {P : Program} {N : Fi} {B : Base} {Q : Exit → Act → World → Prop} {T : Tm} {A : List Blk} {ops : Array Oper} {l : List Oper}
variable {d : Nat} {ty : TypeId} {pos : String} {af : Array Edge} {m : Md} {gd : Option (Nat × Bool)}
end
end Go.Sep
/- Some cells of a row: read, written. -/
namespace Go.Sep
open Go
section
variable {P : Program} {N : Fi} {B : Base} {Q : Exit → Act → World → Prop} {T : Tm} {A : List Blk} {ops : Array Oper} {l : List Oper}
variable {d : Nat} {ty : TypeId} {pos : String} {af : Array Edge} {m : Md} {gd : Option (Nat × Bool)}
theorem rows_get {sz i o n : Nat} {r r' : List Value} {rows : List (List Value)} (hr : RowsOk sz rows) (hi : rows[i]? = some r) (hg : GetS r o n r') (spare : List Value) : ∀ (j : Nat) (u : Value), r'[j]? = some u → (rows.flatten ++ spare)[i * sz + o + j]? = some u := fun j u hu => by
  have h1 := getS_at hg j u hu
  have hl := (hr r (List.mem_of_getElem? hi)).1
  have ho : o + j < sz := by rw [← hl]; exact (List.getElem?_eq_some_iff.1 h1).1
  have h2 := hr.at_ hi ho
  rw [Nat.add_assoc, List.getElem?_append_left (List.getElem?_eq_some_iff.1 (h2.trans h1)).1, h2, h1]
theorem Ops.ldRowN {t : TypeId} {x : Operand} {b i o : Nat} {sz sz' bs : Nat} {zc r r' : List Value} {rows : List (List Value)} {spare : List Value} {E : TypeId} (hm : m.rd false = true) (hg : gst ops T gd = some true) [ht : Ty P t true sz' bs zc]
    (hx : ev T x = some (.pointer (some ⟨b, i * sz + o, none⟩))) [hb : Has A b (cl (rows.flatten ++ spare) E)] (hr : RowsOk sz rows) (hi : rows[i]? = some r) [hs : GetS r o sz' r'] (hd : Nat.blt d N.n = true)
    (k : Ops P N B Q ops m.tl l ((d, .agg r'.toArray) :: T) A) : Ops P N B Q ops m (⟨some d, .load t x, ty, pos, af, gd⟩ :: l) T A :=
  Ops.readV hm hg hd (fun a w hF hS => by
    have hc : ∀ (j : Nat) (u : Value), r'[j]? = some u → w.cell? ⟨b, i * sz + o + j, none⟩ = some u := fun j u hu => (cell_of (hS.here _ hb.mem) _).trans (rows_get hr hi hs spare j u hu)
    simp [execOp, hF.eval hx, run_loadAtN ht (getS_len hs) hc]) k
theorem rows_setN {sz i o : Nat} {r r' vs : List Value} {rows : List (List Value)} (hr : RowsOk sz rows) (hi : rows[i]? = some r) (hs : SetS r o vs r') (spare : List Value) :
    ins (rows.flatten ++ spare) (i * sz + o) vs = (rows.set i r').flatten ++ spare := by
  have hlt := (List.getElem?_eq_some_iff.1 hi).1
  have hl := rows_mid_len hr (Nat.le_of_lt hlt)
  rw [rows_mid (spare := spare) hi, ← hl, ins_mid hs.eq.2, ← rows_mid_set hlt, hs.eq.1]
  rfl
end
/-- A contract beside other blocks; of blocks in another order. -/
theorem Con.beside {P : Program} {f : FuncId} {args : Array Value} {A F : List Blk} {R : Value → List Blk → Prop} (h : Con P f args A R) : Con P f args (A ++ F) fun v X => ∃ A', R v A' ∧ X = A' ++ F := fun B w hS =>
  (h.frame hS).mono fun _ _ ⟨v, A', he, hR, hS'⟩ => ⟨v, _, he, ⟨A', hR, rfl⟩, hS'⟩
theorem Con.permIn {P : Program} {f : FuncId} {args : Array Value} {A A2 : List Blk} {R : Value → List Blk → Prop} (h : Con P f args A R) (hp : A2.Perm A) : Con P f args A2 R := fun B w hS => h B w (hS.perm hp)
theorem Con.permOut {P : Program} {f : FuncId} {args : Array Value} {A : List Blk} {R R' : Value → List Blk → Prop} (h : Con P f args A R) (hr : ∀ v A', R v A' → ∃ A2, R' v A2 ∧ A'.Perm A2) : Con P f args A R' := fun B w hS =>
  (h B w hS).mono fun _ _ ⟨v, A', he, hR, hS'⟩ => by
    obtain ⟨A2, h2, hp⟩ := hr _ _ hR
    exact ⟨v, A2, he, h2, hS'.perm hp⟩
theorem ConB.beside {P : Program} {B0 : Base} {f : FuncId} {args : Array Value} {A F : List Blk} {R : Value → List Blk → Prop} (h : ConB P B0 f args A R) : ConB P B0 f args (A ++ F) fun v X => ∃ A', R v A' ∧ X = A' ++ F := fun B w hx hS =>
  (h.frame hx hS).mono fun _ _ ⟨v, A', he, hR, hS'⟩ => ⟨v, _, he, ⟨A', hR, rfl⟩, hS'⟩
theorem ConB.permIn {P : Program} {B0 : Base} {f : FuncId} {args : Array Value} {A A2 : List Blk} {R : Value → List Blk → Prop} (h : ConB P B0 f args A R) (hp : A2.Perm A) : ConB P B0 f args A2 R := fun B w hx hS => h B w hx (hS.perm hp)
theorem ConB.permOut {P : Program} {B0 : Base} {f : FuncId} {args : Array Value} {A : List Blk} {R R' : Value → List Blk → Prop} (h : ConB P B0 f args A R) (hr : ∀ v A', R v A' → ∃ A2, R' v A2 ∧ A'.Perm A2) : ConB P B0 f args A R' := fun B w hx hS =>
  (h B w hx hS).mono fun _ _ ⟨v, A', he, hR, hS'⟩ => by
    obtain ⟨A2, h2, hp⟩ := hr _ _ hR
    exact ⟨v, A2, he, h2, hS'.perm hp⟩
/-- Blocks that a callee only reads go over to its base. -/
def Holds (B0 : Base) (G : List Blk) : Prop := ∀ p ∈ G, B0.h p.1 = some p.2
theorem Con.lend {P : Program} {f : FuncId} {args : Array Value} {A1 G : List Blk} {R : Value → List Blk → Prop} (h : ∀ B0, Holds B0 G → ConB P B0 f args A1 R) : Con P f args (A1 ++ G) fun v X => ∃ A', R v A' ∧ X = A' ++ G := fun B w hS => by
  have hG : Holds (B.with G) G := fun p hp => by simp only [Base.with, find_of_mem hS.right.nodup hp]
  exact ((h (B.with G) hG) (B.with G) w (Ext.refl _) hS.frameIn).mono fun _ _ ⟨v, A', he, hR, hS'⟩ => ⟨v, _, he, ⟨A', hR, rfl⟩, hS.frameOut hS'⟩
theorem ConB.lend {P : Program} {B1 : Base} {f : FuncId} {args : Array Value} {A1 G : List Blk} {R : Value → List Blk → Prop} (h : ∀ B0, Ext B1 B0 → Holds B0 G → ConB P B0 f args A1 R) : ConB P B1 f args (A1 ++ G) fun v X => ∃ A', R v A' ∧ X = A' ++ G := fun B w hx hS => by
  have hG : Holds (B.with G) G := fun p hp => by simp only [Base.with, find_of_mem hS.right.nodup hp]
  exact ((h (B.with G) (hx.trans (Ext.with hS)) hG) (B.with G) w (Ext.refl _) hS.frameIn).mono fun _ _ ⟨v, A', he, hR, hS'⟩ => ⟨v, _, he, ⟨A', hR, rfl⟩, hS.frameOut hS'⟩
theorem Holds.cell {B0 : Base} {G : List Blk} (h : Holds B0 G) {g : Nat} {l : List Value} {E : TypeId} (hm : (g, cl l E) ∈ G) {o : Nat} {v : Value} (hv : l[o]? = some v) (A : List Blk) : Rd B0 A g o v := fun w hS =>
  (cell_of (hS.base g _ (h _ hm)) o).trans hv
theorem Ext.holds {B0 B1 : Base} {G : List Blk} (e : Ext B0 B1) (h : Holds B0 G) : Holds B1 G := fun p hp => e.h _ _ (h p hp)
section
variable {P : Program} {N : Fi} {B : Base} {Q : Exit → Act → World → Prop} {T : Tm} {A : List Blk} {ops : Array Oper} {l : List Oper}
variable {d : Nat} {ty : TypeId} {pos : String} {af : Array Edge} {m : Md} {gd : Option (Nat × Bool)}
/-- A call of a function value, where the contract speaks of a base. -/
theorem Ops.callVB {B0 : Base} {f : FuncId} {c : Operand} {fi ca : List Value} {xs : List Operand} {ats : Array TypeId} {vs : List Value} {A1 F : List Blk} {R : Value → List Blk → Prop} (h : ConB P B0 f (fi ++ vs ++ ca).toArray A1 R) (hx0 : Ext B0 B) (hm : m.eff = true) [hs : Split A A1 F] (hp : Pd P N B ops m T (some d) (CallR R F)) (hg : gst ops T gd = some true)
    (hc : ev T c = some (.func (.func f) fi.toArray ca.toArray)) [hf : FnOk P f] (hx : evs T xs = some vs) (hd : Nat.blt d N.n = true) (k : ∀ v A', R v A' → Ops P N B Q ops m.tl l ((d, v) :: T) (A' ++ F)) :
    Ops P N B Q ops m (⟨some d, .call { callee := .value c, args := xs.toArray, argTypes := ats }, ty, pos, af, gd⟩ :: l) T A :=
  Ops.effV hm hp hg hd (fun a w hF hS => by
    have : (execOp a.eval ⟨some d, .call { callee := .value c, args := xs.toArray, argTypes := ats }, ty, pos, af, gd⟩).run P w = .ok (.enter f (fi ++ vs ++ ca).toArray) w := by
      simp [execOp, resolve, hF.eval hc, Deferred.ofValue, invoke, run_callFunc hf, hF.evals hx]
    rw [this]
    exact (h.frame hx0 (hS.perm hs.perm)).mono fun e w' ⟨v, A', he, hR, hS'⟩ => ⟨v, _, he, ⟨A', hR, rfl⟩, hS'⟩) fun v X ⟨A', hR, hX⟩ => by rw [hX]; exact k v A' hR
end
end Go.Sep
/- Texts: parts of them; bytes as a text; what lies in an interface value. -/
namespace Go.Sep
open Go
/-- A type that is no interface. -/
class NoIf (P : Program) (t : TypeId) : Prop where
  und : ∃ dd, P.underlying t = some dd ∧ (match dd with | .interface _ => false | _ => true) = true
theorem NoIf.get {P : Program} {t : TypeId} (h : NoIf P t) : ∃ dd, (∀ w : World, (underlying t).run P w = .ok dd w) ∧ ∀ ms, dd ≠ .interface ms := by
  obtain ⟨dd, h1, h2⟩ := h.und
  exact ⟨dd, fun w => run_underlying h1 w, fun ms hm => by subst hm; cases h2⟩
theorem run_pushes {P : Program} {w : World} {f : Value → ByteArray → Sem (ForInStep ByteArray)} (hf : ∀ n s, f (.int .u8 n) s = pure (ForInStep.yield (s.push (UInt8.ofNat n.toNat)))) : ∀ (xs : List Int) (s : ByteArray),
    (forIn (xs.map fun n => (Value.int .u8 n)) s f).run P w = .ok (xs.foldl (fun r n => r.push (UInt8.ofNat n.toNat)) s) w
  | [], s => by simp
  | x :: xs, s => by
    simp only [List.map_cons, List.forIn_cons, Sem.run_bind, hf, Sem.run_pure, Result.andThen_ok, List.foldl_cons]
    exact run_pushes hf xs _
theorem flat_bytes (xs : List Int) : (xs.map fun n => [Value.int .u8 n]).flatten = xs.map fun n => Value.int .u8 n := by
  induction xs with
  | nil => rfl
  | cons y ys ih => rw [List.map_cons, List.flatten_cons, ih]; rfl
def bytesOf (xs : List Int) : ByteArray := xs.foldl (fun r n => r.push (UInt8.ofNat n.toNat)) .empty
section
variable {P : Program} {N : Fi} {B : Base} {Q : Exit → Act → World → Prop} {T : Tm} {A : List Blk} {ops : Array Oper} {l : List Oper}
variable {d : Nat} {ty : TypeId} {pos : String} {af : Array Edge} {m : Md} {gd : Option (Nat × Bool)}
theorem Ops.slS {t : TypeId} {x y z : Operand} {k' k'' : IntKind} {i j : Int} {s : ByteArray} (hm : m.rd true = true) (hg : gst ops T gd = some true) [ht : TyD P t .string]
    (hx : ev T x = some (.string s)) (hy : ev T y = some (.int k' i)) (hz : ev T z = some (.int k'' j)) (h0 : 0 ≤ i) (h1 : i ≤ j) (h2 : j ≤ s.size) (hd : Nat.blt d N.n = true)
    (k : Ops P N B Q ops m.tl l ((d, .string (s.extract i.toNat j.toNat)) :: T) A) : Ops P N B Q ops m (⟨some d, .slice t x (some y) (some z) none, ty, pos, af, gd⟩ :: l) T A :=
  Ops.pureV hm hg hd (fun a w hF => by
    simp only [execOp, hF.eval hx, hF.eval hy, hF.eval hz, Option.map_some, Option.map_none, Instr.sliceAt, Instr.slice, ht.run_und, Instr.sliceBounds, run_bound (show 0 ≤ j by omega) h2, run_bound h0 (show i ≤ (j.toNat : Int) by omega), if_true, Option.isSome_none, Bool.false_eq_true, if_false, Sem.run_bind, Sem.run_pure, Result.andThen_ok]) k
theorem Ops.slSLo {t : TypeId} {x y : Operand} {k' : IntKind} {i : Int} {s : ByteArray} (hm : m.rd true = true) (hg : gst ops T gd = some true) [ht : TyD P t .string]
    (hx : ev T x = some (.string s)) (hy : ev T y = some (.int k' i)) (h0 : 0 ≤ i) (h2 : i ≤ s.size) (hd : Nat.blt d N.n = true)
    (k : Ops P N B Q ops m.tl l ((d, .string (s.extract i.toNat s.size)) :: T) A) : Ops P N B Q ops m (⟨some d, .slice t x (some y) none none, ty, pos, af, gd⟩ :: l) T A :=
  Ops.pureV hm hg hd (fun a w hF => by
    simp only [execOp, hF.eval hx, hF.eval hy, Option.map_some, Option.map_none, Instr.sliceAt, Instr.slice, ht.run_und, Instr.sliceBounds, run_bound h0 h2, if_true, Option.isSome_none, Bool.false_eq_true, if_false, Sem.run_bind, Sem.run_pure, Result.andThen_ok]) k
theorem Ops.slSHi {t : TypeId} {x z : Operand} {k'' : IntKind} {j : Int} {s : ByteArray} (hm : m.rd true = true) (hg : gst ops T gd = some true) [ht : TyD P t .string]
    (hx : ev T x = some (.string s)) (hz : ev T z = some (.int k'' j)) (h0 : 0 ≤ j) (h2 : j ≤ s.size) (hd : Nat.blt d N.n = true)
    (k : Ops P N B Q ops m.tl l ((d, .string (s.extract 0 j.toNat)) :: T) A) : Ops P N B Q ops m (⟨some d, .slice t x none (some z) none, ty, pos, af, gd⟩ :: l) T A :=
  Ops.pureV hm hg hd (fun a w hF => by
    simp only [execOp, hF.eval hx, hF.eval hz, Option.map_some, Option.map_none, Instr.sliceAt, Instr.slice, ht.run_und, Instr.sliceBounds, run_bound h0 h2, if_true, Option.isSome_none, Bool.false_eq_true, if_false, Sem.run_bind, Sem.run_pure, Result.andThen_ok]) k
/-- What lies in an interface value: of the type that is asked for; there is none. -/
theorem Ops.mkJ {t : TypeId} {x : Operand} {v : Value} (hm : m.rd true = true) (hg : gst ops T gd = some true) [ht : NoIf P t] (hx : ev T x = some v) (hd : Nat.blt d N.n = true) (k : Ops P N B Q ops m.tl l ((d, .iface t v) :: T) A) :
    Ops P N B Q ops m (⟨some d, .makeInterface t x, ty, pos, af, gd⟩ :: l) T A := by
  obtain ⟨dd, hu, hi⟩ := ht.get
  exact Ops.pureV hm hg hd (fun a w hF => by
    have : (Instr.makeInterface t v).run P w = .ok (.iface t v) w := by
      unfold Instr.makeInterface
      simp only [Sem.run_bind, hu w, Result.andThen_ok]
      cases dd <;> first | rfl | exact absurd rfl (hi _)
    simp [execOp, hF.eval hx, this]) k
theorem Ops.tAss {t xT : TypeId} {x : Operand} {v : Value} (hm : m.rd true = true) (hg : gst ops T gd = some true) [ht : NoIf P t] (hx : ev T x = some (.iface t v)) (hd : Nat.blt d N.n = true)
    (k : Ops P N B Q ops m.tl l ((d, .tuple #[v, .bool true]) :: T) A) : Ops P N B Q ops m (⟨some d, .typeAssert x xT t true, ty, pos, af, gd⟩ :: l) T A := by
  obtain ⟨dd, hu, hi⟩ := ht.get
  exact Ops.pureV hm hg hd (fun a w hF => by
    have : (Instr.typeAssert (.iface t v) xT t true).run P w = .ok (.tuple #[v, .bool true]) w := by
      unfold Instr.typeAssert
      simp only [Sem.run_bind, hu w, Result.andThen_ok]
      cases dd <;> first | simp | exact absurd rfl (hi _)
    simp [execOp, hF.eval hx, this]) k
theorem Ops.tAssNo {t xT : TypeId} {x : Operand} {z : Value} (hm : m.rd true = true) (hg : gst ops T gd = some true) [ht : NoIf P t] [hz : TyZ P t z] (hx : ev T x = some .nilIface) (hd : Nat.blt d N.n = true)
    (k : Ops P N B Q ops m.tl l ((d, .tuple #[z, .bool false]) :: T) A) : Ops P N B Q ops m (⟨some d, .typeAssert x xT t true, ty, pos, af, gd⟩ :: l) T A := by
  obtain ⟨dd, hu, hi⟩ := ht.get
  exact Ops.pureV hm hg hd (fun a w hF => by
    have : (Instr.typeAssert .nilIface xT t true).run P w = .ok (.tuple #[z, .bool false]) w := by
      unfold Instr.typeAssert
      simp only [Sem.run_bind, hu w, Result.andThen_ok]
      cases dd <;> first | simp [hz.run] | exact absurd rfl (hi _)
    simp [execOp, hF.eval hx, this]) k
/-- Bytes that one owns, as a text. -/
theorem Ops.cvBS {s t e : TypeId} {x : Operand} {sv : Value} {xs : List Int} {G F : List Blk} (hown : Own e 1 sv (xs.map fun n => [Value.int .u8 n]) G) (hm : m.rd false = true) (hg : gst ops T gd = some true) [hs : TyD P s (.slice e)] [he : TyD P e (.int .u8)] [ht : TyD P t .string] (hx : ev T x = some sv) [hsp : Split A G F] (hd : Nat.blt d N.n = true)
    (k : Ops P N B Q ops m.tl l ((d, .string (bytesOf xs)) :: T) A) : Ops P N B Q ops m (⟨some d, .convert s t x, ty, pos, af, gd⟩ :: l) T A :=
  Ops.readV hm hg hd (fun a w hF hS => by
    have hconv : (convert s t sv).run P w = (Conv.bytesToString sv).run P w := by
      rcases hown.2 with ⟨rfl, _, _⟩ | ⟨g, c, spare, rfl, _⟩
      · simp [convert, hs.run_und, ht.run_und, he.run_und]
      · simp [convert, hs.run_und, ht.run_und, he.run_und]
    have hb : (Conv.bytesToString sv).run P w = .ok (.string (bytesOf xs)) w := by
      rcases hown.2 with ⟨rfl, h0, _⟩ | ⟨g, c, spare, rfl, hG, _, _⟩
      · have : xs = [] := List.map_eq_nil_iff.1 h0
        subst this; simp [Conv.bytesToString, bytesOf]
      · have hfl := flat_bytes xs
        have hrd : (loadCells ⟨g, 0, none⟩ (xs.map fun n => [Value.int .u8 n]).length).run P w = .ok (xs.map fun n => Value.int .u8 n).toArray w := by
          refine run_loadCells (by simp) fun j u hu => ?_
          have hS2 := hS.perm hsp.perm
          have hmem : (g, cl ((xs.map fun n => [Value.int .u8 n]).flatten ++ spare) e) ∈ G ++ F := by rw [hG]; simp
          rw [Nat.zero_add, cell_of (hS2.here _ hmem), List.getElem?_append_left (by rw [hfl]; exact (List.getElem?_eq_some_iff.1 hu).1), hfl, hu]
        unfold Conv.bytesToString
        simp only [Sem.run_bind, hrd, Result.andThen_ok]
        rw [List.forIn_toArray]
        rw [run_pushes (fun _ _ => rfl)]
        rfl
    simp [execOp, hF.eval hx, hconv, hb]) k
end
end Go.Sep
namespace Go.Proofs.YtnmjdoaogdaehaaGreat
open Go Go.Sep Go.Proofs
set_option maxRecDepth 10000
set_option maxHeartbeats 4000000
set_option synthInstance.maxSize 2000
set_option linter.unusedSimpArgs false
set_option linter.unusedVariables false
/-! numbers as bytes -/
@[reducible] def ptr (b : Nat) : Value := .pointer (some ⟨b, 0, none⟩)
def numL (n : Nat) : List Int := if n < 128 then [(n : Int)] else ((n % 128 + 128 : Nat) : Int) :: numL (n / 128)
termination_by n
decreasing_by omega
def numB (n : Nat) : ByteArray := bytesOf (numL n)
theorem numL_small {n : Nat} (h : n < 128) : numL n = [(n : Int)] := by unfold numL; rw [if_pos h]
theorem numL_big {n : Nat} (h : ¬ n < 128) : numL n = ((n % 128 + 128 : Nat) : Int) :: numL (n / 128) := by rw [numL, if_neg h]
theorem numL_len : ∀ (k n : Nat), n < 128 ^ (k + 1) → (numL n).length ≤ k + 1
  | 0, n, h => by rw [numL_small (by simpa using h)]; simp
  | k + 1, n, h => by
    by_cases hs : n < 128
    · rw [numL_small hs]; simp
    · rw [numL_big hs, List.length_cons]
      have h2 : n / 128 < 128 ^ (k + 1) := by
        rw [Nat.div_lt_iff_lt_mul (by decide), ← Nat.pow_succ]; exact h
      have := numL_len k (n / 128) h2
      omega
def OwnB (sv : Value) (xs : List Int) (G : List Blk) : Prop := Own 5 1 sv (xs.map fun n => [Value.int .u8 n]) G
theorem OwnB.form {sv : Value} {xs : List Int} {G : List Blk} (h : OwnB sv xs G) : ∃ a c, sv = .slice a xs.length c := by
  obtain ⟨a, c, h⟩ := Own.form h
  exact ⟨a, c, by rw [h, List.length_map]⟩
theorem or_128 : ∀ a : Nat, a < 256 → a ||| 128 = a % 128 + 128 := by decide
theorem low_byte (m : Nat) : orI .u8 (IntKind.wrap .u8 (m : Int)) 128 = ((m % 128 + 128 : Nat) : Int) := by
  have h1 : IntKind.wrap .u8 (m : Int) = ((m % 256 : Nat) : Int) := by
    simp only [IntKind.wrap, IntKind.bits, IntKind.signed, Bool.false_and, Bool.false_eq_true, if_false]
    omega
  rw [h1, show (128 : Int) = ((128 : Nat) : Int) from rfl, orI_u8 (by omega) (by decide), or_128 _ (by omega)]
  congr 2
  omega
theorem last_byte {m : Nat} (h : m < 128) : IntKind.wrap .u8 (m : Int) = (m : Int) := by
  simp only [IntKind.wrap, IntKind.bits, IntKind.signed, Bool.false_and, Bool.false_eq_true, if_false]
  omega
theorem shr7 (m : Nat) : ((m : Int).fdiv (2 ^ (min (Int.toNat 7) (IntKind.bits .u64)))) = ((m / 128 : Nat) : Int) := by
  show (m : Int).fdiv 128 = _
  rw [Int.fdiv_eq_ediv_of_nonneg _ (by decide)]
  rfl
structure NumS where
  xs : List Int
  m : Nat
  sv : Value
  G : List Blk
theorem num_spec (n : Nat) (hn : n < 18446744073709551616) : Con Tryz.prog 124 #[.int .u64 n] [] fun v A => v = .string (numB n) ∧ A = [] := by
  have hlen : (numL n).length ≤ 10 := numL_len 9 n (by omega)
  refine Con.intro (vs := [_]) Tryz.func124 rfl Tryz.ntmps124 rfl (fun B => ?_)
  repeat' (first | refine Cd.seq ?_ | refine Cd.reg ?_ | refine Ops.asg rfl rfl rfl rfl ?_ | refine Cd.block ?_)
  refine Cd.loopK (σ := NumS) (fun s => numL n = s.xs ++ numL s.m ∧ OwnB s.sv s.xs s.G) (fun s => [(0, .int .u64 s.m), (3, s.sv)]) (fun s => s.G) (fun s => s.m) ⟨[], n, .slice none 0 0, []⟩ ⟨rfl, Own.none⟩ ⟨rfl, rfl, trivial⟩ (fun w h => h) (fun s hs => ?_)
  obtain ⟨xs, m, sv, G⟩ := s
  obtain ⟨hx, hO⟩ := hs
  dsimp only at hx hO ⊢
  obtain ⟨a, c, rfl⟩ := hO.form
  have hll : (xs.map fun n => [Value.int .u8 n]).length = xs.length := List.length_map _
  have hxl : xs.length ≤ 10 := by
    have : (xs ++ numL m).length ≤ 10 := by rw [← hx]; exact hlen
    rw [List.length_append] at this; omega
  by_cases hm : m < 128
  · have hm' : ¬ (127 : Int) < m := by omega
    repeat' (first | refine Cd.seq ?_ | refine Cd.reg ?_ | refine Ops.nil ?_ | refine Ops.mv rfl rfl rfl rfl ?_ | refine Ops.bin rfl rfl rfl rfl rfl ?_ | refine Cd.exit (Cd.next (Q' := fun _ _ _ => True) ?_) | refine Cd.condF rfl (by first | rfl | assumption | (simp only [decide_eq_true_eq, decide_eq_false_iff_not, Bool.not_eq_true', Bool.not_eq_false', Bool.not_eq_eq_eq_not, Bool.not_true, Bool.not_false, beq_iff_eq, beq_eq_false_iff_ne, ne_eq, decide_eq_decide, eq_self, true_iff, iff_true, not_true_eq_false, not_false_eq_true]; first | done | omega)) ?_)
    refine Ops.cvI rfl rfl rfl rfl ?_
    rw [last_byte hm]
    repeat' (first | refine Ops.bs1 rfl rfl rfl rfl rfl rfl rfl (noPd rfl) (fun b => ?_))
    refine Ops.app1 (rows := xs.map fun n => [Value.int .u8 n]) hO (by rw [hll]; omega) (by rw [hll]; omega) rfl rfl rfl rfl (by rfl) (by rfl) rfl (noPd rfl) rfl (fun v G' hG' => ?_)
    have hG2 : OwnB v (xs ++ [(m : Int)]) G' := by
      unfold OwnB; rw [List.map_append]; exact hG'
    clear hG'
    skip
    refine Ops.cvBS hG2 rfl rfl rfl rfl ?_
    repeat' (first | refine Ops.nil ?_ | refine Ops.asg rfl rfl rfl rfl ?_)
    exact Cd.ret (ret1 (A' := []) rfl (Res.tmp rfl) (fun _ h => h.split) ⟨by rw [numB, hx, numL_small hm], rfl⟩)
  · have hm' : (127 : Int) < m := by omega
    repeat' (first | refine Cd.seq ?_ | refine Cd.reg ?_ | refine Ops.nil ?_ | refine Ops.mv rfl rfl rfl rfl ?_ | refine Ops.bin rfl rfl rfl rfl rfl ?_ | refine Cd.block ?_ | refine Cd.skip (Cd.next ?_) | refine Cd.condT rfl (by first | rfl | assumption | (simp only [decide_eq_true_eq, decide_eq_false_iff_not, Bool.not_eq_true', Bool.not_eq_false', Bool.not_eq_eq_eq_not, Bool.not_true, Bool.not_false, beq_iff_eq, beq_eq_false_iff_ne, ne_eq, decide_eq_decide, eq_self, true_iff, iff_true, not_true_eq_false, not_false_eq_true]; first | done | omega)) ?_)
    refine Ops.cvI rfl rfl rfl rfl ?_
    repeat' (first | refine Ops.bin rfl rfl rfl rfl rfl ?_ | refine Ops.bs1 rfl rfl rfl rfl rfl rfl rfl (noPd rfl) (fun b => ?_))
    rw [low_byte]
    skip
    refine Ops.app1 (rows := xs.map fun n => [Value.int .u8 n]) hO (by rw [hll]; omega) (by rw [hll]; omega) rfl rfl rfl rfl (by rfl) (by rfl) rfl (noPd rfl) rfl (fun v G' hG' => ?_)
    have hG2 : OwnB v (xs ++ [((m % 128 + 128 : Nat) : Int)]) G' := by
      unfold OwnB; rw [List.map_append]; exact hG'
    clear hG'
    repeat' (first | refine Ops.nilN (inB (Cd.next ?_)) | refine Cd.reg ?_ | refine Ops.mv rfl rfl rfl rfl ?_ | refine Ops.asg rfl rfl rfl rfl ?_)
    refine Ops.shrI rfl rfl rfl rfl (by decide) rfl ?_
    rw [shr7]
    repeat' (first | refine Ops.asg rfl rfl rfl rfl ?_)
    exact Ops.nilN (round_end (⟨xs ++ [((m % 128 + 128 : Nat) : Int)], m / 128, v, G'⟩ : NumS) ⟨by show numL n = (xs ++ [_]) ++ numL (m / 128); rw [hx, numL_big hm]; simp, hG2⟩ (by show m / 128 < m; omega) ⟨rfl, rfl, trivial⟩ (fun w h => h.split))
end Go.Proofs.YtnmjdoaogdaehaaGreat
/- The zeros of this seat's types; maps.clone. By program (wip/gen/inst.py .. J). -/
namespace Go.Proofs.YtnmjdoaogdaehaaGreat
open Go Go.Sep Go.Proofs
instance : TyZ Tryz.prog 83 (.agg #[.int .i64 0, .int .i64 0, .int .i64 0, .int .i64 0, .int .i64 0]) := ⟨by kernel_rfl⟩
instance : TyZ Tryz.prog 254 (.agg #[.int .i64 0]) := ⟨by kernel_rfl⟩
instance : IsMapClone Tryz.prog 116 := ⟨⟨_, Tryz.func116, by kernel_rfl, by kernel_rfl, by kernel_rfl, by kernel_rfl⟩⟩
end Go.Proofs.YtnmjdoaogdaehaaGreat
namespace Go.Proofs.YtnmjdoaogdaehaaGreat
open Go Go.Sep Go.Proofs
set_option maxRecDepth 10000
set_option maxHeartbeats 4000000
set_option synthInstance.maxSize 2000
set_option linter.unusedSimpArgs false
set_option linter.unusedVariables false
/-! a reader of bytes -/
instance : NoIf Tryz.prog 254 := ⟨⟨_, Tryz.underlying254, rfl⟩⟩
@[reducible] def RdB (rb : Nat) (b : ByteArray) (at_ e : Int) : Blk := (rb, cl [.string b, .int .i64 at_, .int .i64 e] 183)
@[reducible] def gave (e : Int) : PanicEntry := ⟨.iface 254 (.agg #[.int .i64 e]), false, false⟩
theorem take_spec (B0 : Base) (rb : Nat) (b : ByteArray) (p : Nat) (e : Int) (n : Nat) (hp : p ≤ b.size) (hb : b.size ≤ 1000000) (hn : n ≤ 1000000) :
    ConX Tryz.prog B0 147 #[ptr rb, .int .i64 n] [RdB rb b p e] (fun v A => p + n ≤ b.size ∧ v = .string (b.extract p (p + n)) ∧ A = [RdB rb b ((p + n : Nat) : Int) e]) (fun c A => ¬ (p + n ≤ b.size) ∧ c = [gave 20] ∧ A = [RdB rb b p e]) := by
  refine ConX.intro (vs := [_, _]) Tryz.func147 rfl Tryz.ntmps147 rfl (fun B hB => ?_)
  by_cases hs : p + n ≤ b.size
  · have hs' : ¬ ((b.size : Int) - (p : Int) < n) := by omega
    repeat' (first | refine Cd.seq ?_ | refine Cd.reg ?_ | refine Ops.asg rfl rfl rfl rfl ?_)
    refine Cd.draw [(0, 0, []), (1, 0, []), (2, 0, []), (3, 0, []), (4, 1, []), (5, 0, []), (6, 0, []), (7, 0, []), (8, 0, []), (9, 1, []), (10, 0, []), (11, 0, [])] (by kernel_rfl) (by kernel_rfl) (by simp only [picked, nth]; exact rfl) ?_
    repeat' (first | refine Cd.seq ?_ | refine Cd.reg ?_ | refine Ops.nil ?_ | refine Ops.mv rfl rfl rfl rfl ?_ | refine Ops.nilP rfl rfl rfl rfl ?_ | refine Ops.fa0 rfl rfl rfl rfl ?_ | refine Ops.ld1 rfl rfl rfl rfl rfl ?_ | refine Ops.lenStr rfl rfl rfl rfl ?_ | refine Ops.addI rfl rfl rfl rfl (by omega) (by omega) rfl ?_ | refine Ops.subI rfl rfl rfl rfl (by omega) (by omega) rfl ?_ | refine Ops.bin rfl rfl rfl rfl rfl ?_ | refine Ops.st1 rfl rfl rfl rfl rfl (noPd rfl) ?_ | refine Cd.skip (Cd.next ?_) | refine Cd.condF rfl (by first | rfl | assumption | (simp only [decide_eq_true_eq, decide_eq_false_iff_not, Bool.not_eq_true', Bool.not_eq_false', Bool.not_eq_eq_eq_not, Bool.not_true, Bool.not_false, beq_iff_eq, beq_eq_false_iff_ne, ne_eq, decide_eq_decide, eq_self, true_iff, iff_true, not_true_eq_false, not_false_eq_true]; first | done | omega)) ?_)
    refine Cd.draw [(0, 0, []), (1, 0, []), (2, 0, []), (3, 1, []), (4, 0, []), (5, 0, []), (6, 0, []), (7, 1, []), (8, 0, []), (9, 0, []), (10, 0, []), (11, 0, []), (12, 0, []), (13, 1, []), (14, 0, []), (15, 0, [])] (by kernel_rfl) (by kernel_rfl) (by simp only [picked, nth]; exact rfl) ?_
    repeat' (first | refine Ops.mv rfl rfl rfl rfl ?_ | refine Ops.nilP rfl rfl rfl rfl ?_ | refine Ops.fa0 rfl rfl rfl rfl ?_ | refine Ops.ld1 rfl rfl rfl rfl rfl ?_ | refine Ops.subI rfl rfl rfl rfl (by omega) (by omega) rfl ?_)
    refine Ops.slS rfl rfl rfl rfl rfl (by omega) (by omega) (by omega) rfl ?_
    rw [show ((p : Int) + n - n).toNat = p from by omega, show ((p : Int) + n).toNat = p + n from by omega, show (p : Int) + n = ((p + n : Nat) : Int) from by omega]
    repeat' (first | refine Ops.nil ?_ | refine Ops.asg rfl rfl rfl rfl ?_)
    exact Cd.ret (retX (ret1 (A' := [RdB rb b ((p + n : Nat) : Int) e]) rfl (Res.tmp rfl) (fun _ h => h.split) ⟨hs, rfl, rfl⟩))
  · have hs' : (b.size : Int) - (p : Int) < n := by omega
    repeat' (first | refine Cd.seq ?_ | refine Cd.reg ?_ | refine Ops.asg rfl rfl rfl rfl ?_)
    refine Cd.draw [(0, 0, []), (1, 0, []), (2, 0, []), (3, 0, []), (4, 1, []), (5, 0, []), (6, 0, []), (7, 0, []), (8, 0, []), (9, 1, []), (10, 0, []), (11, 0, [])] (by kernel_rfl) (by kernel_rfl) (by simp only [picked, nth]; exact rfl) ?_
    repeat' (first | refine Cd.reg ?_ | refine Ops.nil ?_ | refine Ops.mv rfl rfl rfl rfl ?_ | refine Ops.nilP rfl rfl rfl rfl ?_ | refine Ops.fa0 rfl rfl rfl rfl ?_ | refine Ops.ld1 rfl rfl rfl rfl rfl ?_ | refine Ops.lenStr rfl rfl rfl rfl ?_ | refine Ops.subI rfl rfl rfl rfl (by omega) (by omega) rfl ?_ | refine Ops.bin rfl rfl rfl rfl rfl ?_ | refine Ops.bld rfl rfl rfl rfl ?_ | refine Cd.condT rfl (by first | rfl | assumption | (simp only [decide_eq_true_eq, decide_eq_false_iff_not, Bool.not_eq_true', Bool.not_eq_false', Bool.not_eq_eq_eq_not, Bool.not_true, Bool.not_false, beq_iff_eq, beq_eq_false_iff_ne, ne_eq, decide_eq_decide, eq_self, true_iff, iff_true, not_true_eq_false, not_false_eq_true]; first | done | omega)) ?_)
    refine Ops.mkJ rfl rfl rfl rfl ?_
    refine Ops.pan rfl rfl (panX (A' := [RdB rb b p e]) (fun _ h => h.split) ⟨hs, rfl, rfl⟩)
end Go.Proofs.YtnmjdoaogdaehaaGreat
