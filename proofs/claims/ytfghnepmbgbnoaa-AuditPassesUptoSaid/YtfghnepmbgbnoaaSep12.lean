import Derived.Test.YtfghnepmbgbnoaaSep11
/- Reads that are owed: of what lay ahead of the call; of what a guard leaves out. -/
namespace Go.Sep
open Go
set_option linter.unusedVariables false
section
variable {P : Program} {N : Fi} {B : Base} {Q : Exit → Act → World → Prop} {T : Tm} {A : List Blk} {ops : Array Oper} {l : List Oper}
variable {d : Nat} {ty : TypeId} {pos : String} {af : Array Edge} {m : Md} {gd : Option (Nat × Bool)}
theorem Still.ldR {i dd t : Nat} {x : Operand} {b off : Nat} {sz bs : Nat} {zc : List Value} {v : Value} (ho : ops[i]? = some ⟨some dd, .load t x, ty, pos, af, gd⟩) (hg : gst ops T gd = some true) (hx : ev T x = some (.pointer (some ⟨b, off, none⟩)))
    [ht : Ty P t false sz bs zc] (hv : Rd B A b off v) (hl : look T dd = some v) : Still P N B ops T A i :=
  ⟨_, dd, v, ho, rfl, hl, fun a w hF hS => .inl ⟨gst_wanted (o := ⟨some dd, .load t x, ty, pos, af, gd⟩) hF hg, by simp [execOp, hF.eval hx, run_loadAt1 ht (hv w hS)]⟩⟩
theorem Still.ldRow1 {i' dd t : Nat} {x : Operand} {b i o : Nat} {sz sz' bs : Nat} {zc r : List Value} {rows : List (List Value)} {spare : List Value} {E : TypeId} {v : Value} (ho : ops[i']? = some ⟨some dd, .load t x, ty, pos, af, gd⟩) (hg : gst ops T gd = some true) [ht : Ty P t false sz' bs zc]
    (hx : ev T x = some (.pointer (some ⟨b, i * sz + o, none⟩))) [hb : Has A b (cl (rows.flatten ++ spare) E)] (hr : RowsOk sz rows) (hi : rows[i]? = some r) (hv : r[o]? = some v) (hl : look T dd = some v) : Still P N B ops T A i' :=
  ⟨_, dd, v, ho, rfl, hl, fun a w hF hS => .inl ⟨gst_wanted (o := ⟨some dd, .load t x, ty, pos, af, gd⟩) hF hg, by
    have hl := (hr r (List.mem_of_getElem? hi)).1
    have ho : o < sz := by rw [← hl]; exact (List.getElem?_eq_some_iff.1 hv).1
    have h1 := hr.at_ hi ho
    have hc : w.cell? ⟨b, i * sz + o, none⟩ = some v := by
      rw [cell_of (hS.here _ hb.mem), List.getElem?_append_left (List.getElem?_eq_some_iff.1 (h1.trans hv)).1, h1, hv]
    simp [execOp, hF.eval hx, run_loadAt1 ht hc]⟩⟩
theorem Still.skip {i dd j : Nat} {want : Bool} {op : Op} (ho : ops[i]? = some ⟨some dd, op, ty, pos, af, some (j, want)⟩) (hg : gst ops T (some (j, want)) = some false) (hl : look T dd = some undef) : Still P N B ops T A i :=
  ⟨_, dd, undef, ho, rfl, hl, fun a w hF hS => .inr ⟨gst_wanted (o := ⟨some dd, op, ty, pos, af, some (j, want)⟩) hF hg, rfl⟩⟩
end
end Go.Sep
