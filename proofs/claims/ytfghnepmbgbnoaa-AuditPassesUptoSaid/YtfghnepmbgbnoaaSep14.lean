import Derived.Test.YtfghnepmbgbnoaaSep13
/- A guard whose test was itself left out. -/
namespace Go.Sep
open Go
section
variable {P : Program} {N : Fi} {B : Base} {Q : Exit → Act → World → Prop} {T : Tm} {A : List Blk} {ops : Array Oper} {l : List Oper}
variable {d : Nat} {op : Op} {ty : TypeId} {pos : String} {af : Array Edge} {m : Md} {gd : Option (Nat × Bool)}
theorem unwanted {j dj : Nat} {want : Bool} {dst : Option Nat} {a : Act} (hF : Fr N T a) (hj : (ops[j]?).bind (·.dst) = some dj) (hu : look T dj = some undef) : Region.wanted ⟨dst, op, ty, pos, af, some (j, want)⟩ (yielded ops a.tmps) = false := by
  unfold Region.wanted
  have : yielded ops a.tmps j = none := by
    unfold yielded
    rw [hj]
    simp [hF.get _ _ hu, undef]
  simp [this]
theorem Ops.gSkipU {j dj : Nat} {want : Bool} (hm : m.rd true = true) (hj : (ops[j]?).bind (·.dst) = some dj) (hu : look T dj = some undef) (hd : Nat.blt d N.n = true) (k : Ops P N B Q ops m.tl l ((d, undef) :: T) A) :
    Ops P N B Q ops m (⟨some d, op, ty, pos, af, some (j, want)⟩ :: l) T A :=
  Ops.rdG true hm rfl hd (fun _ _ hF _ => .inr ⟨unwanted hF hj hu, rfl⟩) k
theorem Ops.gSkipUE {j dj : Nat} {want : Bool} (hm : m.eff = true) (hp : Pd P N B ops m T (some d) (fun u X => u = undef ∧ X = A)) (hj : (ops[j]?).bind (·.dst) = some dj) (hu : look T dj = some undef) (hd : Nat.blt d N.n = true) (k : Ops P N B Q ops m.tl l ((d, undef) :: T) A) :
    Ops P N B Q ops m (⟨some d, op, ty, pos, af, some (j, want)⟩ :: l) T A :=
  Ops.effG hm (fun d' h => by injection h with h; rw [← h]; exact hd) (fun _ _ hF hS => .inr ⟨unwanted hF hj hu, A, ⟨rfl, rfl⟩, hS⟩) hp fun u X ⟨h1, h2⟩ => by rw [h1, h2]; exact k
end
end Go.Sep
