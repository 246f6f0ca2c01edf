import Derived.Test.YtfghnepmbgbnoaaSep12
/- One cell of a row is written; the blocks in another order. -/
namespace Go.Sep
open Go
set_option linter.unusedVariables false

theorem rows_set1 {sz : Nat} {v : Value} : ∀ {rows : List (List Value)}, RowsOk sz rows → ∀ {i o : Nat} {r : List Value}, rows[i]? = some r → o < sz → rows.flatten.set (i * sz + o) v = (rows.set i (r.set o v)).flatten
  | [], _, i, o, r, hi, _ => by simp at hi
  | x :: rows, h, 0, o, r, hi, ho => by
    simp only [List.getElem?_cons_zero, Option.some.injEq] at hi
    subst hi
    have hx := (h x (List.mem_cons_self ..)).1
    simp only [List.flatten_cons, List.set_cons_zero, Nat.zero_mul, Nat.zero_add]
    rw [List.set_append_left _ _ (by omega)]
  | x :: rows, h, i + 1, o, r, hi, ho => by
    have hx := (h x (List.mem_cons_self ..)).1
    have ih := rows_set1 (rows := rows) (v := v) (fun y hy => h y (List.mem_cons_of_mem _ hy)) (i := i) (o := o) (r := r) (by simpa using hi) ho
    simp only [List.flatten_cons, List.set_cons_succ]
    rw [List.set_append_right _ _ (by rw [hx, Nat.add_mul]; omega), hx, show (i + 1) * sz + o - sz = i * sz + o from by rw [Nat.add_mul]; omega, ih]

section
variable {P : Program} {N : Fi} {B : Base} {Q : Exit → Act → World → Prop} {T : Tm} {A : List Blk} {ops : Array Oper} {l : List Oper}
variable {d : Nat} {ty : TypeId} {pos : String} {af : Array Edge} {m : Md} {gd : Option (Nat × Bool)}

/-- One cell of a row is written. -/
theorem Ops.stRow1 {t : TypeId} {x y : Operand} {b i o : Nat} {gt : Bool} {sz bs : Nat} {zc r : List Value} {rows : List (List Value)} {spare : List Value} {E : TypeId} {v : Value} {A' : List Blk} (hm : m.eff = true) (hg : gst ops T gd = some true) [ht : Ty P t gt 1 bs zc]
    (hx : ev T x = some (.pointer (some ⟨b, i * sz + o, none⟩))) (hy : ev T y = some v) (h1 : v.oneCell' = true) [hb : Has A b (cl (rows.flatten ++ spare) E)] (hr : RowsOk sz rows) (hi : rows[i]? = some r) (ho : Nat.blt o sz = true)
    [hu : Upd A b (cl (rows.flatten ++ spare) E) (cl ((rows.set i (r.set o v)).flatten ++ spare) E) A'] (hp : Pd P N B ops m T none (fun _ X => X = A'))
    (k : Ops P N B Q ops m.tl l T A') : Ops P N B Q ops m (⟨none, .store t x y, ty, pos, af, gd⟩ :: l) T A :=
  Ops.unit hm hp hg (fun a w hF hS => by
    obtain ⟨A1, A2, rfl, rfl⟩ := hu.put
    have ho' : o < sz := by simpa [Nat.blt_eq] using ho
    have hc : v.cells = [v].toArray := by cases v <;> first | rfl | cases h1
    have hl := (hr r (List.mem_of_getElem? hi)).1
    have hlt := (List.getElem?_eq_some_iff.1 hi).1
    have hfit : i * sz + o < rows.flatten.length := by
      rw [hr.len]
      have : (i + 1) * sz ≤ rows.length * sz := Nat.mul_le_mul_right _ hlt
      rw [Nat.add_mul] at this
      omega
    obtain ⟨w', hrun, hS'⟩ := run_storeAt (P := P) hS ht hc rfl (off := i * sz + o) (by simpa using h1) (by rw [List.length_append, List.length_singleton]; omega)
    refine ⟨w', by simp [execOp, hF.eval hx, hF.eval hy, hrun], ?_⟩
    rw [ins_cons (by rw [List.length_append]; omega), ins_nil, List.set_append_left _ _ hfit, rows_set1 hr hi ho'] at hS'
    exact hS') k

/-- Other blocks that hold where these hold. -/
theorem Ops.blk {A' : List Blk} (k : Ops P N B Q ops none l T A') (hA : ∀ w, Sat B A w → Sat B A' w) : Ops P N B Q ops none l T A :=
  fun a w hF hS => k a w hF (hA w hS)
theorem Cd.blk {c : Code} {A' : List Blk} (k : Cd P N B Q c T A') (hA : ∀ w, Sat B A w → Sat B A' w) : Cd P N B Q c T A :=
  fun a w hF hS => k a w hF (hA w hS)
end
end Go.Sep
