import Derived.Test.YtfghnepmbgbnoaaSep22
/- Shift to the right; a slice of three one-cell values; a text of bytes. -/
namespace Go.Sep
open Go
theorem run_forIn_bytes {P : Program} {f : Value → ByteArray → Sem (ForInStep ByteArray)} (hf : ∀ n s w, (f (.int .u8 n) s).run P w = .ok (.yield (s.push (UInt8.ofNat n.toNat))) w) :
    ∀ (l : List Int) (s : ByteArray) (w : World), (forIn (l.map (Value.int .u8)) s f : Sem ByteArray).run P w = .ok (l.foldl (fun s n => s.push (UInt8.ofNat n.toNat)) s) w
  | [], s, w => rfl
  | n :: l, s, w => by
    rw [List.map_cons, List.forIn_cons, Sem.run_bind, hf, Result.andThen_ok]
    exact run_forIn_bytes hf l _ w
section
variable {P : Program} {N : Fi} {B : Base} {Q : Exit → Act → World → Prop} {T : Tm} {A : List Blk} {ops : Array Oper} {l : List Oper}
variable {d : Nat} {ty : TypeId} {pos : String} {af : Array Edge} {m : Md} {gd : Option (Nat × Bool)}
theorem Ops.shrI {t t' : TypeId} {x y : Operand} {k1 k2 : IntKind} {i j : Int} (hm : m.rd true = true) (hg : gst ops T gd = some true) (hx : ev T x = some (.int k1 i)) (hy : ev T y = some (.int k2 j)) (h0 : 0 ≤ j) (hd : Nat.blt d N.n = true)
    (k : Ops P N B Q ops m.tl l ((d, .int k1 (i.fdiv (2 ^ min j.toNat k1.bits))) :: T) A) : Ops P N B Q ops m (⟨some d, .binOp .shr t x y t', ty, pos, af, gd⟩ :: l) T A :=
  Ops.pureV hm hg hd (fun a w hF => by
    have h1 : ¬ j < 0 := by omega
    simp [execOp, hF.eval hx, hF.eval hy, eqGuard, binOp, Op.shift, h1]) k

theorem Ops.bs3 {t e : TypeId} {ge : Bool} {x y z : Operand} {bs' : Nat} {zc' : List Value} {u v q : Value} (hm : m.eff = true) (hg : gst ops T gd = some true) [ht : TyD P t (.slice e)] [he : Ty P e ge 1 bs' zc']
    (hx : ev T x = some u) (hy : ev T y = some v) (hz : ev T z = some q) (h1 : u.cells = #[u]) (h2 : v.cells = #[v]) (h3 : q.cells = #[q]) (hd : Nat.blt d N.n = true)
    (hp : Pd P N B ops m T (some d) (NewR (fun b => .slice (some ⟨b, 0, none⟩) 3 3) (cl [u, v, q] e) A)) (k : ∀ b, Ops P N B Q ops m.tl l ((d, .slice (some ⟨b, 0, none⟩) 3 3) :: T) ((b, cl [u, v, q] e) :: A)) : Ops P N B Q ops m (⟨some d, .buildSlice t 3 #[(0, x), (1, y), (2, z)], ty, pos, af, gd⟩ :: l) T A :=
  Ops.new (v := fun b => .slice (some ⟨b, 0, none⟩) 3 3) hm hp hg hd (fun a w hF hS => by
    obtain ⟨z0, hz0, hzc⟩ := he.run_zero (w := w)
    simp only [execOp, Instr.buildSlice, ht.run_und, he.run_size, Sem.run_bind, Result.andThen_ok, Sem.run_pure, Sem.run_ite, hz0, List.map_toArray, List.map_cons, List.map_nil, hF.eval hx, hF.eval hy, hF.eval hz]
    have e1 : ∀ f : Nat → Value, (((Array.map f (Array.range 3)).setIfInBounds 0 u).setIfInBounds 1 v).setIfInBounds 2 q = #[u, v, q] := fun f => by
      rw [show Array.range 3 = #[0, 1, 2] from rfl, List.map_toArray]; simp
    simp [Instr.fill, h1, h2, h3, newRow, cl, e1]) k

/-- The text of a slice of bytes. -/
def bytesS (l : List Int) : ByteArray := l.foldl (fun s n => s.push (UInt8.ofNat n.toNat)) ByteArray.empty
theorem Ops.b2s {s t e : TypeId} {x : Operand} {b c : Nat} {vs : List Value} (bs : List Int) (hvs : vs = bs.map (Value.int .u8)) (hm : m.rd false = true) (hg : gst ops T gd = some true) [hs : TyD P s (.slice e)] [he : TyD P e (.int .u8)] [ht : TyD P t .string]
    (hx : ev T x = some (.slice (some ⟨b, 0, none⟩) bs.length c)) [hb : Has A b (cl vs e)] (hd : Nat.blt d N.n = true)
    (k : Ops P N B Q ops m.tl l ((d, .string (bytesS bs)) :: T) A) : Ops P N B Q ops m (⟨some d, .convert s t x, ty, pos, af, gd⟩ :: l) T A :=
  Ops.readV hm hg hd (fun a w hF hS => by
    subst hvs
    have hc := hS.here _ hb.mem
    have h1 : (loadCells ⟨b, 0, none⟩ bs.length).run P w = .ok (bs.map (Value.int .u8)).toArray w := run_loadCells (by simp) fun j u hu => by rw [Nat.zero_add, cell_of hc]; exact hu
    have h2 : (Conv.bytesToString (.slice (some ⟨b, 0, none⟩) bs.length c)).run P w = .ok (.string (bytesS bs)) w := by
      simp only [Conv.bytesToString, Sem.run_bind, h1, Result.andThen_ok]
      rw [show forIn (bs.map (Value.int .u8)).toArray ByteArray.empty _ = forIn (bs.map (Value.int .u8)) ByteArray.empty _ from List.forIn_toArray .., run_forIn_bytes (fun n s w => rfl)]
      rfl
    have h3 : (convert s t (.slice (some ⟨b, 0, none⟩) bs.length c)).run P w = .ok (.string (bytesS bs)) w := by
      unfold convert
      simp [hs.run_und, ht.run_und, he.run_und, h2]
    simp [execOp, hF.eval hx, h3]) k
end
end Go.Sep
