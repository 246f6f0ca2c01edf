import Derived.Test.YtfghnepmbgbnoaaSep21
/- Conversions between whole numbers; a byte of a text. -/
namespace Go.Sep
open Go
section
variable {P : Program} {N : Fi} {B : Base} {Q : Exit → Act → World → Prop} {T : Tm} {A : List Blk} {ops : Array Oper} {l : List Oper}
variable {d : Nat} {ty : TypeId} {pos : String} {af : Array Edge} {m : Md} {gd : Option (Nat × Bool)}
theorem Ops.cvI {s t : TypeId} {k1 k2 k3 : IntKind} {x : Operand} {i : Int} (hm : m.rd true = true) (hg : gst ops T gd = some true) [hs : TyD P s (.int k1)] [ht : TyD P t (.int k2)] (hx : ev T x = some (.int k3 i)) (hd : Nat.blt d N.n = true)
    (k : Ops P N B Q ops m.tl l ((d, .int k2 (k2.wrap i)) :: T) A) : Ops P N B Q ops m (⟨some d, .convert s t x, ty, pos, af, gd⟩ :: l) T A :=
  Ops.pureV hm hg hd (fun a w hF => by
    have : (convert s t (.int k3 i)).run P w = .ok (.int k2 (k2.wrap i)) w := by
      unfold convert
      simp [hs.run_und, ht.run_und]
      rfl
    simp [execOp, hF.eval hx, this]) k
theorem Ops.ixS {t : TypeId} {x y : Operand} {s : ByteArray} {k1 : IntKind} {i : Int} {b : UInt8} (hm : m.rd true = true) (hg : gst ops T gd = some true) [ht : TyD P t .string] (hx : ev T x = some (.string s)) (hy : ev T y = some (.int k1 i)) (h0 : 0 ≤ i) (hb : s[i.toNat]? = some b) (hd : Nat.blt d N.n = true)
    (k : Ops P N B Q ops m.tl l ((d, .int .u8 b.toNat) :: T) A) : Ops P N B Q ops m (⟨some d, .index t x y, ty, pos, af, gd⟩ :: l) T A :=
  Ops.pureV hm hg hd (fun a w hF => by
    simp [execOp, hF.eval hx, hF.eval hy, Instr.index, asIntOf, ht.run_und, h0, hb]) k
theorem Ops.ixE {t : TypeId} {x y : Operand} {s : ByteArray} {k1 : IntKind} {i : Int} (hm : m.rd true = true) (hg : gst ops T gd = some true) [ht : TyD P t .string] (hx : ev T x = some (.string s)) (hy : ev T y = some (.int k1 i)) (h0 : 0 ≤ i) (hlt : i.toNat < s.size) (hd : Nat.blt d N.n = true)
    (k : ∀ b : UInt8, s[i.toNat]? = some b → Ops P N B Q ops m.tl l ((d, .int .u8 b.toNat) :: T) A) : Ops P N B Q ops m (⟨some d, .index t x y, ty, pos, af, gd⟩ :: l) T A :=
  Ops.ixS (b := s[i.toNat]) hm hg hx hy h0 (getElem?_pos s i.toNat hlt) hd (k _ (getElem?_pos s i.toNat hlt))
end
end Go.Sep
