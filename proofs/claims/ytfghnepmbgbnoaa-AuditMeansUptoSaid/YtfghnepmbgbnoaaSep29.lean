import Derived.Test.YtfghnepmbgbnoaaSep28
/- A slice from a place on, wherever it lies. -/
namespace Go.Sep
open Go
def slAny (a : Option Addr) (cap l sz : Nat) : Option Addr := if cap = l then a else a.map (·.add (l * sz))
section
variable {P : Program} {N : Fi} {B : Base} {Q : Exit → Act → World → Prop} {T : Tm} {A : List Blk} {ops : Array Oper} {l : List Oper}
variable {d : Nat} {ty : TypeId} {pos : String} {af : Array Edge} {m : Md} {gd : Option (Nat × Bool)}
theorem Ops.slLoA {t e : TypeId} {ge : Bool} {x y : Operand} {sz bs n c : Nat} {a0 : Option Addr} {zc : List Value} {k' : IntKind} {i : Int} (hm : m.rd true = true) (hg : gst ops T gd = some true) [ht : TyD P t (.slice e)] [he : Ty P e ge sz bs zc]
    (hx : ev T x = some (.slice a0 n c)) (hy : ev T y = some (.int k' i)) (h0 : 0 ≤ i) (h1 : i ≤ n) (hd : Nat.blt d N.n = true)
    (k : Ops P N B Q ops m.tl l ((d, .slice (slAny a0 c i.toNat sz) (n - i.toNat) (c - i.toNat)) :: T) A) : Ops P N B Q ops m (⟨some d, .slice t x (some y) none none, ty, pos, af, gd⟩ :: l) T A :=
  Ops.pureV hm hg hd (fun a w hF => by
    simp only [execOp, hF.eval hx, hF.eval hy, Option.map_some, Option.map_none, Instr.sliceAt, Instr.slice, ht.run_und, Instr.sliceBounds, run_bound h0 h1, he.run_size, Sem.run_bind, Sem.run_pure, Result.andThen_ok, Option.isSome_none, Bool.false_eq_true, if_false, slAny]) k
end
end Go.Sep
