import Derived.Test.YtfghnepmbgbnoaaSep15
/- A remainder. -/
namespace Go.Sep
open Go
section
variable {P : Program} {N : Fi} {B : Base} {Q : Exit → Act → World → Prop} {T : Tm} {A : List Blk} {ops : Array Oper} {l : List Oper}
variable {d : Nat} {op : Op} {ty : TypeId} {pos : String} {af : Array Edge} {m : Md} {gd : Option (Nat × Bool)}
theorem Ops.remI {t t' : TypeId} {x y : Operand} {a b : Int} (hm : m.rd true = true) (hg : gst ops T gd = some true) (hx : ev T x = some (.int .i64 a)) (hy : ev T y = some (.int .i64 b)) (hb : b ≠ 0) (hd : Nat.blt d N.n = true)
    (k : Ops P N B Q ops m.tl l ((d, .int .i64 (a.tmod b)) :: T) A) : Ops P N B Q ops m (⟨some d, .binOp .rem t x y t', ty, pos, af, gd⟩ :: l) T A :=
  Ops.pureV hm hg hd (fun a w hF => by
    simp [execOp, hF.eval hx, hF.eval hy, eqGuard, binOp, Op.intDiv, hb]) k
theorem tmod_in (a : Int) {b : Int} (hb : 0 < b) : -b < a.tmod b ∧ a.tmod b < b := ⟨Int.lt_tmod_of_pos a hb, Int.tmod_lt_of_pos a hb⟩
end
end Go.Sep
