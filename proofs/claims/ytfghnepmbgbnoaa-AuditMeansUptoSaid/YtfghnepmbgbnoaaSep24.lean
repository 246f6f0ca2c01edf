import Derived.Test.YtfghnepmbgbnoaaSep23
/- Slices that are only read; a slice cut to its length. -/
namespace Go.Sep
open Go
/-- A slice whose rows may be read. -/
def Rs (E sz : Nat) (sv : Value) (rows : List (List Value)) (G : List Blk) : Prop :=
  RowsOk sz rows ∧ ((sv = .slice none 0 0 ∧ rows = [] ∧ G = []) ∨ ∃ g c spare, sv = .slice (some ⟨g, 0, none⟩) rows.length c ∧ G = [(g, cl (rows.flatten ++ spare) E)])
theorem Own.rs {E sz : Nat} {sv : Value} {rows : List (List Value)} {G : List Blk} (h : Own E sz sv rows G) : Rs E sz sv rows G := by
  refine ⟨h.1, ?_⟩
  rcases h.2 with h | ⟨g, c, sp, h1, h2, _, _⟩
  · exact .inl h
  · exact .inr ⟨g, c, sp, h1, h2⟩
theorem Rs.form {E sz : Nat} {sv : Value} {rows : List (List Value)} {G : List Blk} (h : Rs E sz sv rows G) : ∃ a c, sv = .slice a rows.length c := by
  rcases h.2 with ⟨rfl, rfl, _⟩ | ⟨g, c, _, rfl, _⟩
  · exact ⟨_, _, rfl⟩
  · exact ⟨_, _, rfl⟩
theorem Rs.some_ {E sz : Nat} {sv : Value} {rows : List (List Value)} {G : List Blk} (h : Rs E sz sv rows G) (hn : 0 < rows.length) :
    ∃ g c spare, sv = .slice (some ⟨g, 0, .none⟩) rows.length c ∧ G = [(g, cl (rows.flatten ++ spare) E)] := by
  rcases h.2 with ⟨_, rfl, _⟩ | h
  · simp at hn
  · exact h
section
variable {P : Program} {N : Fi} {B : Base} {Q : Exit → Act → World → Prop} {T : Tm} {A : List Blk} {ops : Array Oper} {l : List Oper}
variable {d : Nat} {ty : TypeId} {pos : String} {af : Array Edge} {m : Md} {gd : Option (Nat × Bool)}
theorem Ops.slHM {t e : TypeId} {ge : Bool} {x z u : Operand} {sz bs n c : Nat} {a0 : Option Addr} {zc : List Value} {k2 k3 : IntKind} {j q : Int} (hm : m.rd true = true) (hg : gst ops T gd = some true) [ht : TyD P t (.slice e)] [he : Ty P e ge sz bs zc]
    (hx : ev T x = some (.slice a0 n c)) (hz : ev T z = some (.int k2 j)) (hu : ev T u = some (.int k3 q)) (h1 : 0 ≤ j) (h2 : j ≤ q) (h3 : q ≤ c) (hd : Nat.blt d N.n = true)
    (k : Ops P N B Q ops m.tl l ((d, .slice a0 j.toNat q.toNat) :: T) A) : Ops P N B Q ops m (⟨some d, .slice t x none (some z) (some u), ty, pos, af, gd⟩ :: l) T A :=
  Ops.pureV hm hg hd (fun a w hF => by
    have e0 : (if q.toNat = 0 then a0 else a0.map (·.add (0 * sz))) = a0 := by
      split
      · rfl
      · cases a0 <;> simp [Addr.add]
    simp only [execOp, hF.eval hx, hF.eval hz, hF.eval hu, Option.map_some, Option.map_none, Instr.sliceAt, Instr.slice, ht.run_und, Instr.sliceBounds, run_bound (show 0 ≤ q by omega) h3, run_bound h1 (show j ≤ (q.toNat : Int) by omega), if_true, Option.isSome_some, he.run_size, Sem.run_bind, Sem.run_pure, Result.andThen_ok, e0, Nat.sub_zero]) k
theorem eqIn_funcNil {t : TypeId} {ps rs : Array TypeId} {vr : Bool} [h : TyD P t (.func ps rs vr)] {f : Fn} {x y : Array Value} {w : World} (d : Nat) : (Op.equalIn (d + 1) t (.func f x y) .nilFunc).run P w = .ok false w := by
  simp [Op.equalIn, h.run_und]
theorem run_eqGuard_func {t : TypeId} {op : BinOp} {xo yo : Operand} {f : Fn} {x y : Array Value} {w : World} : (eqGuard op t xo yo (.func f x y) .nilFunc).run P w = .ok () w := by
  unfold eqGuard; cases op <;> rfl
instance BinRun.eqFuncNil {t : TypeId} {ps rs : Array TypeId} {vr : Bool} [h : TyD P t (.func ps rs vr)] {f : Fn} {x y : Array Value} : BinRun P .eql t (.func f x y) .nilFunc (.bool false) := ⟨fun xo yo w => by
  rw [Sem.run_bind, run_eqGuard_func, Result.andThen_ok]
  exact run_eql rfl fun d => eqIn_funcNil d⟩
end
end Go.Sep
