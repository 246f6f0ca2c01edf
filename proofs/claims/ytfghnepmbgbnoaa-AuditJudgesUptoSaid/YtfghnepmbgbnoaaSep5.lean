import Derived.Test.YtfghnepmbgbnoaaSep4
namespace Go.Sep
open Go

/-! A struct's value, built of parts. -/
def placesB (P : Program) (t : TypeId) : Option (List (Nat × Nat)) :=
  match P.underlying t with
  | some (.struct fields) => fields.toList.mapM fun f => (P.info? f.type).map fun i => (f.offset, i.size)
  | _ => none

class Places (P : Program) (t : TypeId) (pl : outParam (List (Nat × Nat))) : Prop where
  eq : placesB P t = some pl

theorem run_places {P : Program} {w : World} : ∀ (fs : List Field) (pl : List (Nat × Nat)), (fs.mapM fun f => (P.info? f.type).map fun i => (f.offset, i.size)) = some pl →
    (fs.mapM (fun f => do pure (f.offset, ← sizeOf f.type)) : Sem (List (Nat × Nat))).run P w = .ok pl w
  | [], pl, h => by simp at h; simp [h]
  | f :: fs, pl, h => by
    cases hi : P.info? f.type with
    | none => simp [List.mapM_cons, hi] at h
    | some i =>
      simp only [List.mapM_cons, hi, Option.map_some, Option.bind_eq_bind, Option.bind_some, Option.bind_eq_some_iff] at h
      obtain ⟨pl', h1, h2⟩ := h
      simp only [Option.pure_def, Option.some.injEq] at h2
      subst h2
      simp [List.mapM_cons, sizeOf, typeInfo, hi]
      have := run_places (P := P) (w := w) fs pl' h1
      simp [sizeOf, typeInfo] at this
      rw [this]
      simp

class PlaceAt (pl : List (Nat × Nat)) (i : Nat) (o n : outParam Nat) : Prop where
  eq : pl[i]? = some (o, n)
instance PlaceAt.z {pl : List (Nat × Nat)} {o n : Nat} : PlaceAt ((o, n) :: pl) 0 o n := ⟨rfl⟩
instance PlaceAt.s {pl : List (Nat × Nat)} {p : Nat × Nat} {i o n : Nat} [h : PlaceAt pl i o n] : PlaceAt (p :: pl) (i + 1) o n := ⟨by simpa using h.eq⟩
class LenIs (l : List Value) (n : outParam Nat) : Prop where
  eq : l.length = n
instance LenIs.z : LenIs [] 0 := ⟨rfl⟩
instance LenIs.s {x : Value} {l : List Value} {n : Nat} [h : LenIs l n] : LenIs (x :: l) (n + 1) := ⟨by simp [h.eq]⟩
class BEqN (m n : Nat) : Prop where
  eq : m = n
instance BEqN.mk' {n : Nat} : BEqN n n := ⟨rfl⟩
class FillC (pl : List (Nat × Nat)) (ps : List (Nat × Value)) (l : List Value) (l' : outParam (List Value)) : Prop where
  eq : Instr.fill (pl.toArray[·]?) l.toArray ps = some l'.toArray
instance FillC.z {pl : List (Nat × Nat)} {l : List Value} : FillC pl [] l l := ⟨rfl⟩
instance FillC.s {pl : List (Nat × Nat)} {i o n m : Nat} {v : Value} {vs l l1 l' : List Value} {ps : List (Nat × Value)} [h1 : PlaceAt pl i o n] [h2 : Cells v vs] [h3 : LenIs vs m] [h4 : SetS l o vs l1] [h5 : FillC pl ps l1 l'] [h6 : BEqN m n] :
    FillC pl ((i, v) :: ps) l l' := ⟨by
  rw [fill_one (off := o) (size := n) (vs := vs) (by simpa using h1.eq) h2.eq (h3.eq.trans h6.eq) (by simpa using h4.eq.2)]
  have e := h4.eq.1
  simp only [ins] at *
  rw [← e]
  exact h5.eq⟩

def evp (T : Tm) : List (Nat × Operand) → Option (List (Nat × Value))
  | [] => some []
  | (i, x) :: xs => match ev T x, evp T xs with
    | some v, some vs => some ((i, v) :: vs)
    | _, _ => none

theorem Fr.evalp {N : Fi} {T : Tm} {a : Act} (h : Fr N T a) : ∀ {xs : List (Nat × Operand)} {vs : List (Nat × Value)}, evp T xs = some vs → xs.map (fun (i, x) => (i, a.eval x)) = vs
  | [], vs, hx => by simp [evp] at hx; simp [hx]
  | (i, x) :: xs, vs, hx => by
    simp only [evp] at hx
    split at hx
    · rename_i v us hv hus
      simp only [Option.some.injEq] at hx
      subst hx
      simp only [List.map_cons, h.eval hv, List.cons.injEq, true_and]
      exact h.evalp hus
    · cases hx

section
variable {P : Program} {N : Fi} {B : Base} {Q : Exit → Act → World → Prop} {T : Tm} {A : List Blk} {ops : Array Oper} {l : List Oper}
variable {d : Nat} {ty : TypeId} {pos : String} {af : Array Edge} {m : Md} {gd : Option (Nat × Bool)}
theorem Ops.bld {t : TypeId} {parts : List (Nat × Operand)} {ps : List (Nat × Value)} {pl : List (Nat × Nat)} {sz bs : Nat} {zc l' : List Value} (hm : m.rd true = true) (hg : gst ops T gd = some true) (hp : evp T parts = some ps) [ht : Ty P t true sz bs zc] [hl : Places P t pl]
    [hf : FillC pl ps zc l'] (hd : Nat.blt d N.n = true) (k : Ops P N B Q ops m.tl l ((d, .agg l'.toArray) :: T) A) :
    Ops P N B Q ops m (⟨some d, .build t parts.toArray, ty, pos, af, gd⟩ :: l) T A :=
  Ops.pureV hm hg hd (fun a w hF => by
    obtain ⟨z, hz, hzc⟩ := ht.run_zero (w := w)
    have h1 := hl.eq
    unfold placesB at h1
    split at h1
    · rename_i fields hu
      have h2 := run_places (P := P) (w := w) fields.toList pl h1
      have h3 : (fields.mapM (fun f => do pure (f.offset, ← sizeOf f.type)) : Sem (Array (Nat × Nat))).run P w = .ok pl.toArray w := by
        rw [Array.mapM_eq_mapM_toList]
        simp only [Sem.run_map, h2, Result.andThen_ok]
      have h4 : (parts.toArray.map fun (i, x) => (i, a.eval x)).toList = ps := by simpa using hF.evalp hp
      simp only [execOp, Instr.build, Sem.run_bind, hz, Result.andThen_ok, run_underlying hu w, h3, h4, hzc, hf.eq]
      simp
    · cases h1) k
end
end Go.Sep
