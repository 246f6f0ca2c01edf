import Derived.Test.YtfghnepmbgbnoaaSep14
/- A product. -/
namespace Go.Sep
open Go
section
variable {P : Program} {N : Fi} {B : Base} {Q : Exit → Act → World → Prop} {T : Tm} {A : List Blk} {ops : Array Oper} {l : List Oper}
variable {d : Nat} {op : Op} {ty : TypeId} {pos : String} {af : Array Edge} {m : Md} {gd : Option (Nat × Bool)}
theorem Ops.mulI {t t' : TypeId} {x y : Operand} {a b : Int} (hm : m.rd true = true) (hg : gst ops T gd = some true) (hx : ev T x = some (.int .i64 a)) (hy : ev T y = some (.int .i64 b)) (h0 : -9223372036854775808 ≤ a * b) (h1 : a * b ≤ 9223372036854775807) (hd : Nat.blt d N.n = true)
    (k : Ops P N B Q ops m.tl l ((d, .int .i64 (a * b)) :: T) A) : Ops P N B Q ops m (⟨some d, .binOp .mul t x y t', ty, pos, af, gd⟩ :: l) T A :=
  Ops.pureV hm hg hd (fun a w hF => by
    simp [execOp, hF.eval hx, hF.eval hy, eqGuard, binOp, Op.intArith, IntWalk.i64_in _ ⟨h0, h1⟩]) k
end
end Go.Sep
