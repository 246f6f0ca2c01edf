import Derived.Test.YtfghnepmbgbnoaaSep22
/- Arrays within structures. -/
namespace Go.Sep
open Go
section
variable {P : Program} {N : Fi} {B : Base} {Q : Exit → Act → World → Prop} {T : Tm} {A : List Blk} {ops : Array Oper} {l : List Oper}
variable {d : Nat} {ty : TypeId} {pos : String} {af : Array Edge} {m : Md} {gd : Option (Nat × Bool)}
theorem Ops.ixA {t e : TypeId} {ge : Bool} {x y : Operand} {n sz' bs' : Nat} {zc' : List Value} {b o : Nat} {k' : IntKind} {i : Int} (hm : m.rd true = true) (hg : gst ops T gd = some true) [ht : TyD P t (.array n e)] [he : Ty P e ge sz' bs' zc']
    (hx : ev T x = some (.pointer (some ⟨b, o, none⟩))) (hy : ev T y = some (.int k' i)) (h0 : 0 ≤ i) (h1 : i < n) (hd : Nat.blt d N.n = true)
    (k : Ops P N B Q ops m.tl l ((d, .pointer (some ⟨b, o + i.toNat * sz', none⟩)) :: T) A) : Ops P N B Q ops m (⟨some d, .indexAddr t x y, ty, pos, af, gd⟩ :: l) T A :=
  Ops.pureV hm hg hd (fun a w hF => by
    simp [execOp, hF.eval hx, hF.eval hy, Instr.indexAt, Instr.sureAddr, asIntOf, ht.run_und, he.run_size, h0, h1, add_none]) k
end
theorem SetL.at {l : List Value} {i : Nat} {v : Value} {l' : List Value} (h : l' = l.set i v) (h2 : i < l.length) : SetL l i v l' := ⟨h, h2⟩
theorem GetS.all {l : List Value} {n : Nat} (h : l.length = n) : GetS l 0 n l := ⟨by subst h; simp, by omega⟩
theorem SetS.all {l l' : List Value} (h : l.length = l'.length) : SetS l 0 l' l' := ⟨by simp [← h], by omega⟩
end Go.Sep
