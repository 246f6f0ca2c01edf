import Derived.Test.YtfghnepmbgbnoaaSep1
namespace Go.Sep
open Go

/-- A block of plain cells, none of them frozen. -/
def cl (l : List Value) (E : TypeId) : Obj := .cells l.toArray E (0, 0)

def aggD : TypeDesc → Bool
  | .struct _ | .array _ _ => true
  | _ => false

/-- What the tables say of a type: is it a struct or an array, its cells, its bytes, its zero. -/
class Ty (P : Program) (t : TypeId) (g : outParam Bool) (sz bs : outParam Nat) (zc : outParam (List Value)) : Prop where
  und : ∃ d, P.underlying t = some d ∧ aggD d = g
  info : (P.info? t).map (fun i => (i.zero.map Value.cells, i.size, i.bytes)) = some (some zc.toArray, sz, bs)

/-- What kind of type it is. -/
class TyD (P : Program) (t : TypeId) (d : outParam TypeDesc) : Prop where
  und : P.underlying t = some d

theorem Ty.get {P : Program} {t : TypeId} {g : Bool} {sz bs : Nat} {zc : List Value} (h : Ty P t g sz bs zc) :
    ∃ i z, P.info? t = some i ∧ i.zero = some z ∧ z.cells = zc.toArray ∧ i.size = sz ∧ i.bytes = bs := by
  have h1 := h.info
  cases hi : P.info? t with
  | none => rw [hi] at h1; cases h1
  | some i =>
    rw [hi] at h1
    simp only [Option.map_some, Option.some.injEq, Prod.mk.injEq] at h1
    cases hz : i.zero with
    | none => rw [hz] at h1; simp at h1
    | some z =>
      rw [hz] at h1
      simp only [Option.map_some, Option.some.injEq] at h1
      exact ⟨i, z, rfl, hz, h1.1, h1.2.1, h1.2.2⟩

section
variable {P : Program} {w : World} {t : TypeId} {g : Bool} {sz bs : Nat} {zc : List Value}
theorem TyD.run_und {d : TypeDesc} (h : TyD P t d) : (underlying t).run P w = .ok d w := run_underlying h.und w
theorem Ty.run_size (h : Ty P t g sz bs zc) : (sizeOf t).run P w = .ok sz w := by
  obtain ⟨i, z, hi, hz, hc, hs, hb⟩ := h.get
  simp [sizeOf, typeInfo, hi, hs]
theorem Ty.run_info (h : Ty P t g sz bs zc) : ∃ i : TypeInfo, (typeInfo t).run P w = .ok i w ∧ i.size = sz ∧ i.bytes = bs := by
  obtain ⟨i, z, hi, hz, hc, hs, hb⟩ := h.get
  exact ⟨i, by simp [typeInfo, hi], hs, hb⟩
theorem Ty.run_zero (h : Ty P t g sz bs zc) : ∃ z : Value, (zeroValue t).run P w = .ok z w ∧ z.cells = zc.toArray := by
  obtain ⟨i, z, hi, hz, hc, hs, hb⟩ := h.get
  exact ⟨z, by simp [zeroValue, typeInfo, hi, hz], hc⟩
theorem Ty.run_isAgg (h : Ty P t g sz bs zc) : (isAgg t).run P w = .ok g w := by
  obtain ⟨d, hd, hg⟩ := h.und
  simp only [isAgg, Sem.run_bind, run_underlying hd w, Result.andThen_ok]
  subst hg
  cases d <;> rfl
end

/-! Where a block is in the list. -/
class Has (A : List Blk) (b : Nat) (o : outParam Obj) : Prop where
  mem : (b, o) ∈ A
instance Has.head {A : List Blk} {b : Nat} {o : Obj} : Has ((b, o) :: A) b o := ⟨List.mem_cons_self ..⟩
instance (priority := 900) Has.tail {A : List Blk} {p : Blk} {b : Nat} {o : Obj} [h : Has A b o] : Has (p :: A) b o := ⟨List.mem_cons_of_mem _ h.mem⟩
instance (priority := 800) Has.right {A G : List Blk} {b : Nat} {o : Obj} [h : Has A b o] : Has (G ++ A) b o := ⟨List.mem_append_right _ h.mem⟩
instance (priority := 850) Has.left {A G : List Blk} {b : Nat} {o : Obj} [h : Has G b o] : Has (G ++ A) b o := ⟨List.mem_append_left _ h.mem⟩

/-- A' is A with another content at b. -/
class Upd (A : List Blk) (b : Nat) (o o' : Obj) (A' : outParam (List Blk)) : Prop where
  put : ∃ A1 A2, A = A1 ++ (b, o) :: A2 ∧ A' = A1 ++ (b, o') :: A2
instance Upd.head {A : List Blk} {b : Nat} {o o' : Obj} : Upd ((b, o) :: A) b o o' ((b, o') :: A) := ⟨[], A, rfl, rfl⟩
instance (priority := 900) Upd.tail {A A' : List Blk} {p : Blk} {b : Nat} {o o' : Obj} [h : Upd A b o o' A'] : Upd (p :: A) b o o' (p :: A') := by
  obtain ⟨A1, A2, e1, e2⟩ := h.put
  exact ⟨p :: A1, A2, by rw [e1]; rfl, by rw [e2]; rfl⟩
instance (priority := 800) Upd.right {A A' G : List Blk} {b : Nat} {o o' : Obj} [h : Upd A b o o' A'] : Upd (G ++ A) b o o' (G ++ A') := by
  obtain ⟨A1, A2, e1, e2⟩ := h.put
  exact ⟨G ++ A1, A2, by rw [e1, List.append_assoc], by rw [e2, List.append_assoc]⟩
instance (priority := 850) Upd.left {A G G' : List Blk} {b : Nat} {o o' : Obj} [h : Upd G b o o' G'] : Upd (G ++ A) b o o' (G' ++ A) := by
  obtain ⟨A1, A2, e1, e2⟩ := h.put
  exact ⟨A1, A2 ++ A, by rw [e1, List.append_assoc]; rfl, by rw [e2, List.append_assoc]; rfl⟩

/-- A without the blocks A1. -/
class Rem (A : List Blk) (p : Blk) (A' : outParam (List Blk)) : Prop where
  perm : A.Perm (p :: A')
instance Rem.head {A : List Blk} {p : Blk} : Rem (p :: A) p A := ⟨.refl _⟩
instance (priority := 900) Rem.tail {A A' : List Blk} {p q : Blk} [h : Rem A p A'] : Rem (q :: A) p (q :: A') := ⟨(h.perm.cons q).trans (.swap ..)⟩
instance (priority := 800) Rem.right {A A' G : List Blk} {p : Blk} [h : Rem A p A'] : Rem (G ++ A) p (G ++ A') :=
  ⟨(h.perm.append_left G).trans List.perm_middle⟩
/-- A without the block b, whatever it holds. -/
class Pop (A : List Blk) (b : Nat) (o : outParam Obj) (A' : outParam (List Blk)) : Prop where
  perm : A.Perm ((b, o) :: A')
instance Pop.head {A : List Blk} {b : Nat} {o : Obj} : Pop ((b, o) :: A) b o A := ⟨.refl _⟩
instance (priority := 900) Pop.tail {A A' : List Blk} {b : Nat} {o : Obj} {q : Blk} [h : Pop A b o A'] : Pop (q :: A) b o (q :: A') := ⟨(h.perm.cons q).trans (.swap ..)⟩
instance (priority := 800) Pop.right {A A' G : List Blk} {b : Nat} {o : Obj} [h : Pop A b o A'] : Pop (G ++ A) b o (G ++ A') :=
  ⟨(h.perm.append_left G).trans List.perm_middle⟩
instance (priority := 850) Rem.left {A G G' : List Blk} {p : Blk} [h : Rem G p G'] : Rem (G ++ A) p (G' ++ A) := ⟨h.perm.append_right A⟩
instance (priority := 850) Pop.left {A G G' : List Blk} {b : Nat} {o : Obj} [h : Pop G b o G'] : Pop (G ++ A) b o (G' ++ A) := ⟨h.perm.append_right A⟩
class RemL (A G : List Blk) (A' : outParam (List Blk)) : Prop where
  perm : A.Perm (G ++ A')
instance RemL.head {A G : List Blk} : RemL (G ++ A) G A := ⟨.refl _⟩
instance (priority := 950) RemL.all {G : List Blk} : RemL G G [] := ⟨by rw [List.append_nil]⟩
instance (priority := 900) RemL.tail {A A' G : List Blk} {q : Blk} [h : RemL A G A'] : RemL (q :: A) G (q :: A') := ⟨(h.perm.cons q).trans List.perm_middle.symm⟩
instance (priority := 800) RemL.right {A A' G H : List Blk} [h : RemL A G A'] : RemL (H ++ A) G (H ++ A') :=
  ⟨(h.perm.append_left H).trans (by rw [← List.append_assoc, ← List.append_assoc]; exact List.perm_append_comm.append_right A')⟩
instance (priority := 850) RemL.left {A G H H' : List Blk} [h : RemL H G H'] : RemL (H ++ A) G (H' ++ A) := ⟨by rw [← List.append_assoc]; exact h.perm.append_right A⟩
class Split (A A1 : List Blk) (F : outParam (List Blk)) : Prop where
  perm : A.Perm (A1 ++ F)
instance Split.nil {A : List Blk} : Split A [] A := ⟨.refl _⟩
instance Split.cons {A A' A1 F : List Blk} {p : Blk} [h : Rem A p A'] [k : Split A' A1 F] : Split A (p :: A1) F := ⟨h.perm.trans (k.perm.cons p)⟩
instance (priority := 900) Split.app {A A' A1 G F : List Blk} [h : RemL A G A'] [k : Split A' A1 F] : Split A (G ++ A1) F :=
  ⟨h.perm.trans ((k.perm.append_left G).trans (by rw [List.append_assoc]))⟩
instance (priority := 800) Split.one {A A' G : List Blk} [h : RemL A G A'] : Split A G A' := ⟨h.perm⟩

/-- cells from a place on. -/
class SetL (l : List Value) (i : Nat) (v : Value) (l' : outParam (List Value)) : Prop where
  eq : l' = l.set i v ∧ i < l.length
instance SetL.z {x v : Value} {l : List Value} : SetL (x :: l) 0 v (v :: l) := ⟨rfl, by simp⟩
instance SetL.s {x v : Value} {l l' : List Value} {i : Nat} [h : SetL l i v l'] : SetL (x :: l) (i + 1) v (x :: l') := ⟨by rw [h.eq.1]; rfl, by have := h.eq.2; simp; omega⟩
class SetS (l : List Value) (i : Nat) (vs : List Value) (l' : outParam (List Value)) : Prop where
  eq : l' = l.take i ++ vs ++ l.drop (i + vs.length) ∧ i + vs.length ≤ l.length
instance SetS.nil {l : List Value} : SetS l 0 [] l := ⟨by simp, by simp⟩
instance SetS.z {x v : Value} {l l' vs : List Value} [h : SetS l 0 vs l'] : SetS (x :: l) 0 (v :: vs) (v :: l') :=
  ⟨by rw [h.eq.1]; simp, by have := h.eq.2; simp at this ⊢; omega⟩
instance SetS.s {x : Value} {l l' vs : List Value} {i : Nat} [h : SetS l i vs l'] : SetS (x :: l) (i + 1) vs (x :: l') :=
  ⟨by rw [h.eq.1, show i + 1 + vs.length = (i + vs.length) + 1 from by omega]; simp, by have := h.eq.2; simp; omega⟩
class GetS (l : List Value) (i n : Nat) (r : outParam (List Value)) : Prop where
  eq : r = (l.drop i).take n ∧ i + n ≤ l.length
instance GetS.nil {l : List Value} : GetS l 0 0 [] := ⟨by simp, by simp⟩
instance GetS.z {x : Value} {l r : List Value} {n : Nat} [h : GetS l 0 n r] : GetS (x :: l) 0 (n + 1) (x :: r) :=
  ⟨by rw [h.eq.1]; simp, by have := h.eq.2; simp at this ⊢; omega⟩
instance GetS.s {x : Value} {l r : List Value} {i n : Nat} [h : GetS l i n r] : GetS (x :: l) (i + 1) n r :=
  ⟨by rw [h.eq.1]; simp, by have := h.eq.2; simp; omega⟩

/-- The cells of a value. -/
class Cells (v : Value) (l : outParam (List Value)) : Prop where
  eq : v.cells = l.toArray
instance Cells.agg {l : List Value} : Cells (.agg l.toArray) l := ⟨rfl⟩
instance (priority := 500) Cells.int {k : IntKind} {n : Int} : Cells (.int k n) [.int k n] := ⟨rfl⟩
instance (priority := 500) Cells.bool {b : Bool} : Cells (.bool b) [.bool b] := ⟨rfl⟩
instance (priority := 500) Cells.string {b : ByteArray} : Cells (.string b) [.string b] := ⟨rfl⟩
instance (priority := 500) Cells.pointer {a : Option Addr} : Cells (.pointer a) [.pointer a] := ⟨rfl⟩
instance (priority := 500) Cells.slice {a : Option Addr} {n c : Nat} : Cells (.slice a n c) [.slice a n c] := ⟨rfl⟩
instance (priority := 500) Cells.map {a : Option Nat} : Cells (.map a) [.map a] := ⟨rfl⟩
instance (priority := 500) Cells.func {f : Fn} {x y : Array Value} : Cells (.func f x y) [.func f x y] := ⟨rfl⟩
instance (priority := 500) Cells.nilFunc : Cells .nilFunc [.nilFunc] := ⟨rfl⟩
instance (priority := 500) Cells.iface {t : TypeId} {v : Value} : Cells (.iface t v) [.iface t v] := ⟨rfl⟩
instance (priority := 500) Cells.nilIface : Cells .nilIface [.nilIface] := ⟨rfl⟩

/-- A slot's value, by search. -/
class Slot (T : Tm) (i : Nat) (v : outParam Value) : Prop where
  eq : look T i = some v
instance Slot.head {T : Tm} {i : Nat} {v : Value} : Slot ((i, v) :: T) i v := ⟨by simp [look]⟩
theorem Slot.mk' {T : Tm} {i : Nat} {v : Value} (h : look T i = some v) : Slot T i v := ⟨h⟩

class FOff (P : Program) (s : TypeId) (f : Nat) (off n : outParam Nat) : Prop where
  has : ∃ (fields : Array Field) (fd : Field), P.underlying s = some (.struct fields) ∧ fields[f]? = some fd ∧ (P.info? fd.type).map (·.size) = some n ∧ n ≠ 0 ∧ fd.offset = off

theorem FOff.run {P : Program} {s : TypeId} {f off n : Nat} (h : FOff P s f off n) (a : Addr) (w : World) :
    (Instr.fieldAt s (.pointer (some a)) f).run P w = .ok (.pointer (some (a.add off))) w := by
  obtain ⟨fields, fd, hu, hf, hn, hn0, ho⟩ := h.has
  cases hi : P.info? fd.type with
  | none => rw [hi] at hn; cases hn
  | some i =>
    rw [hi] at hn
    simp only [Option.map_some, Option.some.injEq] at hn
    simp [Instr.fieldAt, run_underlying hu, hf, Instr.sureAddr, fieldPlace, sizeOf, typeInfo, hi, hn, hn0, ho]

end Go.Sep
