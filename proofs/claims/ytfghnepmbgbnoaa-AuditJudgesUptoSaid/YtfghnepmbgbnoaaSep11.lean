import Derived.Test.YtfghnepmbgbnoaaSep10
/- min and max of two numbers; make of a slice; a slice that looks into another's rows. -/
namespace Go.Sep
open Go
set_option linter.unusedSimpArgs false

section
variable {P : Program} {N : Fi} {B : Base} {Q : Exit → Act → World → Prop} {T : Tm} {A : List Blk} {ops : Array Oper} {l : List Oper}
variable {d : Nat} {ty : TypeId} {pos : String} {af : Array Edge} {m : Md} {gd : Option (Nat × Bool)}

theorem Ops.maxI {t t' : TypeId} {x y : Operand} {i j : Int} {k1 k2 : IntKind} (hm : m.rd true = true) (hg : gst ops T gd = some true) (hx : ev T x = some (.int k1 i)) (hy : ev T y = some (.int k2 j)) (hd : Nat.blt d N.n = true)
    (k : Ops P N B Q ops m.tl l ((d, .int k1 (max i j)) :: T) A) : Ops P N B Q ops m (⟨some d, .call { callee := .builtin .max, args := #[x, y], argTypes := #[t, t'] }, ty, pos, af, gd⟩ :: l) T A :=
  Ops.pureV hm hg hd (fun a w hF => by
    have e : (if j > i then j else i) = max i j := by split <;> omega
    simp [execOp, resolve, invoke, builtin, Builtin.max_, Builtin.max2, hF.eval hx, hF.eval hy, ← e]) k

theorem Ops.minI {t t' : TypeId} {x y : Operand} {i j : Int} {k1 k2 : IntKind} (hm : m.rd true = true) (hg : gst ops T gd = some true) (hx : ev T x = some (.int k1 i)) (hy : ev T y = some (.int k2 j)) (hd : Nat.blt d N.n = true)
    (k : Ops P N B Q ops m.tl l ((d, .int k1 (min i j)) :: T) A) : Ops P N B Q ops m (⟨some d, .call { callee := .builtin .min, args := #[x, y], argTypes := #[t, t'] }, ty, pos, af, gd⟩ :: l) T A :=
  Ops.pureV hm hg hd (fun a w hF => by
    have e : (if j < i then j else i) = min i j := by split <;> omega
    simp [execOp, resolve, invoke, builtin, Builtin.min_, Builtin.min2, hF.eval hx, hF.eval hy, ← e]) k

/-- make of a slice of one-cell elements, of a small number. -/
theorem Ops.mk1 {t e : TypeId} {ge : Bool} {x y : Operand} {bs : Nat} {z : Value} {i : Int} {k1 k2 : IntKind} (hm : m.eff = true) (hg : gst ops T gd = some true) [ht : TyD P t (.slice e)] [he : Ty P e ge 1 bs [z]] (hx : ev T x = some (.int k1 i)) (hy : ev T y = some (.int k2 i)) (h0 : 0 ≤ i) (h1 : i ≤ 1048576) (hb : bs ≤ 65536) (hd : Nat.blt d N.n = true)
    (hp : Pd P N B ops m T (some d) (NewR (fun b => .slice (some ⟨b, 0, none⟩) i.toNat i.toNat) (cl (List.replicate i.toNat z) e) A)) (k : ∀ b, Ops P N B Q ops m.tl l ((d, .slice (some ⟨b, 0, none⟩) i.toNat i.toNat) :: T) ((b, cl (List.replicate i.toNat z) e) :: A)) : Ops P N B Q ops m (⟨some d, .makeSlice t x y, ty, pos, af, gd⟩ :: l) T A :=
  Ops.new (v := fun b => .slice (some ⟨b, 0, none⟩) i.toNat i.toNat) hm hp hg hd (fun a w hF hS => by
    obtain ⟨zv, hz, hzc⟩ := he.run_zero (w := w)
    obtain ⟨i3, hi3, his3, hib3⟩ := he.run_info (w := w)
    obtain ⟨n, rfl⟩ : ∃ n : Nat, i = n := ⟨i.toNat, by omega⟩
    have wl : IntKind.i64.wrap (n : Int) = n := by simp [IntKind.wrap, IntKind.bits, IntKind.signed]; omega
    have hnb : n * bs ≤ 1048576 * 65536 := Nat.mul_le_mul (by omega) hb
    have hnb' : (bs : Int) * (n : Int) ≤ 68719476736 := by
      have : ((n * bs : Nat) : Int) ≤ ((1048576 * 65536 : Nat) : Int) := by exact_mod_cast hnb
      rw [Int.natCast_mul, Int.mul_comm] at this
      omega
    have n1 : ¬ ((n : Int) < 0) := by omega
    have n2 : ¬ (281474976710656 < (bs : Int) * (n : Int)) := by omega
    have n3 : ¬ (140737488355328 < n * bs) := by omega
    rcases Nat.eq_zero_or_pos n with rfl | hn
    · have w0 : IntKind.i64.wrap 0 = 0 := by decide
      simp [execOp, hF.eval hx, hF.eval hy, Instr.makeSlice, ht.run_und, asInt, asIntOf, hi3, his3, hib3, he.run_size, w0, newRow, askRoom, roomBytes, cl]
      congr 2
      apply Array.ext <;> simp
    · have hn0 : n ≠ 0 := by omega
      simp [execOp, hF.eval hx, hF.eval hy, Instr.makeSlice, ht.run_und, asInt, asIntOf, hi3, his3, hib3, he.run_size, wl, n1, n2, n3, newRow, askRoom, roomBytes, cl, hn0, hz, hzc]
      congr 2
      apply Array.ext
      · simp
      · intro q h1 h2; simp [Nat.mod_one]) k

/-- A row of one cell, at an address that is reckoned otherwise. -/
theorem Ops.ldCellAt {t : TypeId} {x : Operand} {b o : Nat} (i : Nat) {bs : Nat} {zc : List Value} {rows : List (List Value)} {spare : List Value} {E : TypeId} {v : Value} (hm : m.rd false = true) (hg : gst ops T gd = some true) [ht : Ty P t false 1 bs zc]
    (hx : ev T x = some (.pointer (some ⟨b, o, none⟩))) (ho : o = i) [hb : Has A b (cl (rows.flatten ++ spare) E)] (hr : RowsOk 1 rows) (hi : rows[i]? = some [v]) (hd : Nat.blt d N.n = true)
    (k : Ops P N B Q ops m.tl l ((d, v) :: T) A) : Ops P N B Q ops m (⟨some d, .load t x, ty, pos, af, gd⟩ :: l) T A :=
  Ops.ldRow1 (sz := 1) (i := i) (o := 0) hm hg (by subst ho; simpa using hx) hr hi rfl hd k
end
end Go.Sep
