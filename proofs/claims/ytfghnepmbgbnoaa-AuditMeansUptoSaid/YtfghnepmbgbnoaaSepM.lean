import Derived.Test.YtfghnepmbgbnoaaSepN
/- Reads that are owed: of what lay ahead of the call; of what a guard leaves out. -/
namespace Go.Sep
open Go
set_option linter.unusedVariables false
section
variable {P : Program} {N : Fi} {B : Base} {Q : Exit → Act → World → Prop} {T : Tm} {A : List Blk} {ops : Array Oper} {l : List Oper}
variable {d : Nat} {ty : TypeId} {pos : String} {af : Array Edge} {m : Md} {gd : Option (Nat × Bool)}
theorem Still.ldR {i dd t : Nat} {x : Operand} {b off : Nat} {sz bs : Nat} {zc : List Value} {v : Value} (ho : ops[i]? = some ⟨some dd, .load t x, ty, pos, af, gd⟩) (hg : gst ops T gd = some true) (hx : ev T x = some (.pointer (some ⟨b, off, none⟩)))
    [ht : Ty P t false sz bs zc] (hv : Rd B A b off v) (hl : look T dd = some v) : Still P N B ops T A i :=
  ⟨_, dd, v, ho, rfl, hl, fun a w hF hS => .inl ⟨gst_wanted (o := ⟨some dd, .load t x, ty, pos, af, gd⟩) hF hg, by simp [execOp, hF.eval hx, run_loadAt1 ht (hv w hS)]⟩⟩
theorem Still.ldRow1 {i' dd t : Nat} {x : Operand} {b i o : Nat} {sz sz' bs : Nat} {zc r : List Value} {rows : List (List Value)} {spare : List Value} {E : TypeId} {v : Value} (ho : ops[i']? = some ⟨some dd, .load t x, ty, pos, af, gd⟩) (hg : gst ops T gd = some true) [ht : Ty P t false sz' bs zc]
    (hx : ev T x = some (.pointer (some ⟨b, i * sz + o, none⟩))) [hb : Has A b (cl (rows.flatten ++ spare) E)] (hr : RowsOk sz rows) (hi : rows[i]? = some r) (hv : r[o]? = some v) (hl : look T dd = some v) : Still P N B ops T A i' :=
  ⟨_, dd, v, ho, rfl, hl, fun a w hF hS => .inl ⟨gst_wanted (o := ⟨some dd, .load t x, ty, pos, af, gd⟩) hF hg, by
    have hl := (hr r (List.mem_of_getElem? hi)).1
    have ho : o < sz := by rw [← hl]; exact (List.getElem?_eq_some_iff.1 hv).1
    have h1 := hr.at_ hi ho
    have hc : w.cell? ⟨b, i * sz + o, none⟩ = some v := by
      rw [cell_of (hS.here _ hb.mem), List.getElem?_append_left (List.getElem?_eq_some_iff.1 (h1.trans hv)).1, h1, hv]
    simp [execOp, hF.eval hx, run_loadAt1 ht hc]⟩⟩
theorem Still.skip {i dd j : Nat} {want : Bool} {op : Op} (ho : ops[i]? = some ⟨some dd, op, ty, pos, af, some (j, want)⟩) (hg : gst ops T (some (j, want)) = some false) (hl : look T dd = some undef) : Still P N B ops T A i :=
  ⟨_, dd, undef, ho, rfl, hl, fun a w hF hS => .inr ⟨gst_wanted (o := ⟨some dd, op, ty, pos, af, some (j, want)⟩) hF hg, rfl⟩⟩
end
end Go.Sep
/- One cell of a row is written; the blocks in another order. -/
namespace Go.Sep
open Go
set_option linter.unusedVariables false

theorem rows_set1 {sz : Nat} {v : Value} : ∀ {rows : List (List Value)}, RowsOk sz rows → ∀ {i o : Nat} {r : List Value}, rows[i]? = some r → o < sz → rows.flatten.set (i * sz + o) v = (rows.set i (r.set o v)).flatten
  | [], _, i, o, r, hi, _ => by simp at hi
  | x :: rows, h, 0, o, r, hi, ho => by
    simp only [List.getElem?_cons_zero, Option.some.injEq] at hi
    subst hi
    have hx := (h x (List.mem_cons_self ..)).1
    simp only [List.flatten_cons, List.set_cons_zero, Nat.zero_mul, Nat.zero_add]
    rw [List.set_append_left _ _ (by omega)]
  | x :: rows, h, i + 1, o, r, hi, ho => by
    have hx := (h x (List.mem_cons_self ..)).1
    have ih := rows_set1 (rows := rows) (v := v) (fun y hy => h y (List.mem_cons_of_mem _ hy)) (i := i) (o := o) (r := r) (by simpa using hi) ho
    simp only [List.flatten_cons, List.set_cons_succ]
    rw [List.set_append_right _ _ (by rw [hx, Nat.add_mul]; omega), hx, show (i + 1) * sz + o - sz = i * sz + o from by rw [Nat.add_mul]; omega, ih]

section
variable {P : Program} {N : Fi} {B : Base} {Q : Exit → Act → World → Prop} {T : Tm} {A : List Blk} {ops : Array Oper} {l : List Oper}
variable {d : Nat} {ty : TypeId} {pos : String} {af : Array Edge} {m : Md} {gd : Option (Nat × Bool)}

/-- One cell of a row is written. -/
theorem Ops.stRow1 {t : TypeId} {x y : Operand} {b i o : Nat} {gt : Bool} {sz bs : Nat} {zc r : List Value} {rows : List (List Value)} {spare : List Value} {E : TypeId} {v : Value} {A' : List Blk} (hm : m.eff = true) (hg : gst ops T gd = some true) [ht : Ty P t gt 1 bs zc]
    (hx : ev T x = some (.pointer (some ⟨b, i * sz + o, none⟩))) (hy : ev T y = some v) (h1 : v.oneCell' = true) [hb : Has A b (cl (rows.flatten ++ spare) E)] (hr : RowsOk sz rows) (hi : rows[i]? = some r) (ho : Nat.blt o sz = true)
    [hu : Upd A b (cl (rows.flatten ++ spare) E) (cl ((rows.set i (r.set o v)).flatten ++ spare) E) A'] (hp : Pd P N B ops m T none (fun _ X => X = A'))
    (k : Ops P N B Q ops m.tl l T A') : Ops P N B Q ops m (⟨none, .store t x y, ty, pos, af, gd⟩ :: l) T A :=
  Ops.unit hm hp hg (fun a w hF hS => by
    obtain ⟨A1, A2, rfl, rfl⟩ := hu.put
    have ho' : o < sz := by simpa [Nat.blt_eq] using ho
    have hc : v.cells = [v].toArray := by cases v <;> first | rfl | cases h1
    have hl := (hr r (List.mem_of_getElem? hi)).1
    have hlt := (List.getElem?_eq_some_iff.1 hi).1
    have hfit : i * sz + o < rows.flatten.length := by
      rw [hr.len]
      have : (i + 1) * sz ≤ rows.length * sz := Nat.mul_le_mul_right _ hlt
      rw [Nat.add_mul] at this
      omega
    obtain ⟨w', hrun, hS'⟩ := run_storeAt (P := P) hS ht hc rfl (off := i * sz + o) (by simpa using h1) (by rw [List.length_append, List.length_singleton]; omega)
    refine ⟨w', by simp [execOp, hF.eval hx, hF.eval hy, hrun], ?_⟩
    rw [ins_cons (by rw [List.length_append]; omega), ins_nil, List.set_append_left _ _ hfit, rows_set1 hr hi ho'] at hS'
    exact hS') k

/-- Other blocks that hold where these hold. -/
theorem Ops.blk {A' : List Blk} (k : Ops P N B Q ops none l T A') (hA : ∀ w, Sat B A w → Sat B A' w) : Ops P N B Q ops none l T A :=
  fun a w hF hS => k a w hF (hA w hS)
theorem Cd.blk {c : Code} {A' : List Blk} (k : Cd P N B Q c T A') (hA : ∀ w, Sat B A w → Sat B A' w) : Cd P N B Q c T A :=
  fun a w hF hS => k a w hF (hA w hS)
end
end Go.Sep
/- A guard whose test was itself left out. -/
namespace Go.Sep
open Go
section
variable {P : Program} {N : Fi} {B : Base} {Q : Exit → Act → World → Prop} {T : Tm} {A : List Blk} {ops : Array Oper} {l : List Oper}
variable {d : Nat} {op : Op} {ty : TypeId} {pos : String} {af : Array Edge} {m : Md} {gd : Option (Nat × Bool)}
theorem unwanted {j dj : Nat} {want : Bool} {dst : Option Nat} {a : Act} (hF : Fr N T a) (hj : (ops[j]?).bind (·.dst) = some dj) (hu : look T dj = some undef) : Region.wanted ⟨dst, op, ty, pos, af, some (j, want)⟩ (yielded ops a.tmps) = false := by
  unfold Region.wanted
  have : yielded ops a.tmps j = none := by
    unfold yielded
    rw [hj]
    simp [hF.get _ _ hu, undef]
  simp [this]
theorem Ops.gSkipU {j dj : Nat} {want : Bool} (hm : m.rd true = true) (hj : (ops[j]?).bind (·.dst) = some dj) (hu : look T dj = some undef) (hd : Nat.blt d N.n = true) (k : Ops P N B Q ops m.tl l ((d, undef) :: T) A) :
    Ops P N B Q ops m (⟨some d, op, ty, pos, af, some (j, want)⟩ :: l) T A :=
  Ops.rdG true hm rfl hd (fun _ _ hF _ => .inr ⟨unwanted hF hj hu, rfl⟩) k
theorem Ops.gSkipUE {j dj : Nat} {want : Bool} (hm : m.eff = true) (hp : Pd P N B ops m T (some d) (fun u X => u = undef ∧ X = A)) (hj : (ops[j]?).bind (·.dst) = some dj) (hu : look T dj = some undef) (hd : Nat.blt d N.n = true) (k : Ops P N B Q ops m.tl l ((d, undef) :: T) A) :
    Ops P N B Q ops m (⟨some d, op, ty, pos, af, some (j, want)⟩ :: l) T A :=
  Ops.effG hm (fun d' h => by injection h with h; rw [← h]; exact hd) (fun _ _ hF hS => .inr ⟨unwanted hF hj hu, A, ⟨rfl, rfl⟩, hS⟩) hp fun u X ⟨h1, h2⟩ => by rw [h1, h2]; exact k
end
end Go.Sep
/- A product. -/
namespace Go.Sep
open Go
section
variable {P : Program} {N : Fi} {B : Base} {Q : Exit → Act → World → Prop} {T : Tm} {A : List Blk} {ops : Array Oper} {l : List Oper}
variable {d : Nat} {op : Op} {ty : TypeId} {pos : String} {af : Array Edge} {m : Md} {gd : Option (Nat × Bool)}
theorem Ops.mulI {t t' : TypeId} {x y : Operand} {a b : Int} (hm : m.rd true = true) (hg : gst ops T gd = some true) (hx : ev T x = some (.int .i64 a)) (hy : ev T y = some (.int .i64 b)) (h0 : -9223372036854775808 ≤ a * b) (h1 : a * b ≤ 9223372036854775807) (hd : Nat.blt d N.n = true)
    (k : Ops P N B Q ops m.tl l ((d, .int .i64 (a * b)) :: T) A) : Ops P N B Q ops m (⟨some d, .binOp .mul t x y t', ty, pos, af, gd⟩ :: l) T A :=
  Ops.pureV hm hg hd (fun a w hF => by
    simp [execOp, hF.eval hx, hF.eval hy, eqGuard, binOp, Op.intArith, IntWalk.i64_in _ ⟨h0, h1⟩]) k
end
end Go.Sep
/- A remainder. -/
namespace Go.Sep
open Go
section
variable {P : Program} {N : Fi} {B : Base} {Q : Exit → Act → World → Prop} {T : Tm} {A : List Blk} {ops : Array Oper} {l : List Oper}
variable {d : Nat} {op : Op} {ty : TypeId} {pos : String} {af : Array Edge} {m : Md} {gd : Option (Nat × Bool)}
theorem Ops.remI {t t' : TypeId} {x y : Operand} {a b : Int} (hm : m.rd true = true) (hg : gst ops T gd = some true) (hx : ev T x = some (.int .i64 a)) (hy : ev T y = some (.int .i64 b)) (hb : b ≠ 0) (hd : Nat.blt d N.n = true)
    (k : Ops P N B Q ops m.tl l ((d, .int .i64 (a.tmod b)) :: T) A) : Ops P N B Q ops m (⟨some d, .binOp .rem t x y t', ty, pos, af, gd⟩ :: l) T A :=
  Ops.pureV hm hg hd (fun a w hF => by
    simp [execOp, hF.eval hx, hF.eval hy, eqGuard, binOp, Op.intDiv, hb]) k
theorem tmod_in (a : Int) {b : Int} (hb : 0 < b) : -b < a.tmod b ∧ a.tmod b < b := ⟨Int.lt_tmod_of_pos a hb, Int.tmod_lt_of_pos a hb⟩
end
end Go.Sep
