import Derived.Test.YtkcmjgjfodipfaaGreatA05
import Derived.ProofKit
import Derived.Deep.Slices
import Derived.SizedLaws
/- '==' on structs; stores into rows; reads of what came in. -/
namespace Go.Sep
open Go
def fldsB (P : Program) (t : TypeId) : Option (List (TypeId × Nat)) :=
  match P.underlying t with
  | some (.struct fields) => if (fields.toList.all fun f => f.name != "_") && !(P.stoodInHeld t) && !(P.eqGuardType P.depth t) then some (fields.toList.map fun f => (f.type, f.offset)) else none
  | _ => none
/-- A struct that is compared field by field. -/
class Flds (P : Program) (t : TypeId) (fl : outParam (List (TypeId × Nat))) : Prop where
  eq : fldsB P t = some fl
theorem Flds.get {P : Program} {t : TypeId} {fl : List (TypeId × Nat)} (h : Flds P t fl) :
    ∃ fields : Array Field, P.underlying t = some (.struct fields) ∧ (∀ f ∈ fields.toList, f.name ≠ "_") ∧ P.stoodInHeld t = false ∧ P.eqGuardType P.depth t = false ∧ fl = fields.toList.map fun f => (f.type, f.offset) := by
  have h1 := h.eq
  unfold fldsB at h1
  split at h1
  · rename_i fields hu
    split at h1
    · rename_i hc
      simp only [Bool.and_eq_true, List.all_eq_true, Bool.not_eq_true'] at hc
      injection h1 with h1
      exact ⟨fields, hu, fun f hf => by simpa using hc.1.1 f hf, hc.1.2, hc.2, h1.symm⟩
    · cases h1
  · cases h1
class PartV (g : Bool) (sz : Nat) (xs : List Value) (off : Nat) (v : outParam Value) : Prop where
  agg : g = true → ∃ r, v = .agg r.toArray ∧ r = (xs.drop off).take sz ∧ off + sz ≤ xs.length
  one : g = false → xs[off]? = some v
instance PartV.a {sz off : Nat} {xs r : List Value} [h : GetS xs off sz r] : PartV true sz xs off (.agg r.toArray) := ⟨fun _ => ⟨r, rfl, h.eq⟩, fun h => by cases h⟩
instance PartV.o {sz off : Nat} {xs : List Value} {v : Value} [h : GetS xs off 1 [v]] : PartV false sz xs off v := ⟨fun e => (by cases e), fun _ => getS_at h 0 v rfl⟩
theorem run_part {P : Program} {t : TypeId} {g : Bool} {sz bs : Nat} {zc xs : List Value} {off : Nat} {v : Value} (ht : Ty P t g sz bs zc) (h : PartV g sz xs off v) (w : World) : (part t xs.toArray off).run P w = .ok v w := by
  simp only [part, Sem.run_bind, ht.run_isAgg, Result.andThen_ok]
  cases g with
  | true =>
    obtain ⟨r, rfl, hr, hle⟩ := h.agg rfl
    simp only [if_true, Sem.run_bind, ht.run_size, Result.andThen_ok, Sem.run_pure]
    rw [hr]
    simp
  | false =>
    have := h.one rfl
    simp [this]
class EqV (P : Program) (lvl : Nat) (t : TypeId) (x y : Value) (r : outParam Bool) : Prop where
  run : ∀ (d : Nat) (w : World), (Op.equalIn (d + lvl) t x y).run P w = .ok r w
class EqF (P : Program) (lvl : Nat) (fl : List (TypeId × Nat)) (xs ys : List Value) (r : outParam Bool) : Prop where
  run : ∀ (d : Nat) (w : World) (fs : List Field), (∀ f ∈ fs, f.name ≠ "_") → fl = fs.map (fun f => (f.type, f.offset)) → (Op.eqFields (d + lvl) xs.toArray ys.toArray fs).run P w = .ok r w
section
variable {P : Program} {lvl : Nat} {t : TypeId}
instance EqV.int {k k' : IntKind} {a b : Int} [h : TyD P t (.int k')] : EqV P (lvl + 1) t (.int k a) (.int k b) (decide (a = b)) := ⟨fun d w => by
  rw [show d + (lvl + 1) = (d + lvl) + 1 from rfl, run_equalIn_int w (d + lvl) t k k' a b h.und]; rfl⟩
instance EqV.str {a b : ByteArray} [h : TyD P t .string] : EqV P (lvl + 1) t (.string a) (.string b) (decide (a = b)) := ⟨fun d w => by
  rw [show d + (lvl + 1) = (d + lvl) + 1 from rfl, run_equalIn_string w (d + lvl) t a b h.und, list_beq]⟩
instance EqV.bool {a b : Bool} [h : TyD P t .bool] : EqV P (lvl + 1) t (.bool a) (.bool b) (a == b) := ⟨fun d w => by
  rw [show d + (lvl + 1) = (d + lvl) + 1 from rfl, run_equalIn_bool' w (d + lvl) t a b h.und]⟩
instance EqF.nil {xs ys : List Value} : EqF P lvl [] xs ys true := ⟨fun d w fs _ h => by
  obtain rfl : fs = [] := by
    cases fs with
    | nil => rfl
    | cons f fs => cases h
  simp [Op.eqFields]⟩
instance EqF.cons {ft : TypeId} {off : Nat} {fl : List (TypeId × Nat)} {xs ys : List Value} {g : Bool} {sz bs : Nat} {zc : List Value} {vx vy : Value} {r1 r2 : Bool} [ht : Ty P ft g sz bs zc] [hx : PartV g sz xs off vx] [hy : PartV g sz ys off vy] [h1 : EqV P lvl ft vx vy r1] [h2 : EqF P lvl fl xs ys r2] :
    EqF P lvl ((ft, off) :: fl) xs ys (r1 && r2) := ⟨fun d w fs hn h => by
  cases fs with
  | nil => cases h
  | cons f fs =>
    simp only [List.map_cons, List.cons.injEq, Prod.mk.injEq] at h
    obtain ⟨⟨e1, e2⟩, e3⟩ := h
    subst e1; subst e2
    have := h2.run d w fs (fun x hx => hn x (List.mem_cons_of_mem _ hx)) e3
    simp only [Op.eqFields, if_pos (hn f (List.mem_cons_self ..)), Sem.run_bind, run_part ht hx, run_part ht hy, Result.andThen_ok, h1.run]
    cases r1 with
    | true => simpa using this
    | false => simp⟩
instance EqV.str_ {fl : List (TypeId × Nat)} {xs ys : List Value} {r : Bool} [h : Flds P t fl] [hf : EqF P lvl fl xs ys r] : EqV P (lvl + 1) t (.agg xs.toArray) (.agg ys.toArray) r := ⟨fun d w => by
  obtain ⟨fields, hu, hn, hs, _, hfl⟩ := h.get
  have e : P.fieldsOf t = fields := by simp [Program.fieldsOf, hu]
  rw [show d + (lvl + 1) = (d + lvl) + 1 from rfl, run_equalIn_struct w (d + lvl) t _ _ (by rw [e]; exact hu) hs, e]
  exact hf.run d w fields.toList hn hfl⟩
/-- A value that is one with itself. -/
class EqSelf (P : Program) (lvl : Nat) (t : TypeId) (x : Value) : Prop where
  run : ∀ (d : Nat) (w : World), (Op.equalIn (d + lvl) t x x).run P w = .ok true w
class EqSelfF (P : Program) (lvl : Nat) (fl : List (TypeId × Nat)) (xs : List Value) : Prop where
  run : ∀ (d : Nat) (w : World) (fs : List Field), (∀ f ∈ fs, f.name ≠ "_") → fl = fs.map (fun f => (f.type, f.offset)) → (Op.eqFields (d + lvl) xs.toArray xs.toArray fs).run P w = .ok true w
instance EqSelf.int {k k' : IntKind} {a : Int} [h : TyD P t (.int k')] : EqSelf P (lvl + 1) t (.int k a) := ⟨fun d w => by
  have := (EqV.int (P := P) (lvl := lvl) (t := t) (k := k) (a := a) (b := a)).run d w
  simpa using this⟩
instance EqSelf.str {a : ByteArray} [h : TyD P t .string] : EqSelf P (lvl + 1) t (.string a) := ⟨fun d w => by
  have := (EqV.str (P := P) (lvl := lvl) (t := t) (a := a) (b := a)).run d w
  simpa using this⟩
instance EqSelf.bool {a : Bool} [h : TyD P t .bool] : EqSelf P (lvl + 1) t (.bool a) := ⟨fun d w => by
  have := (EqV.bool (P := P) (lvl := lvl) (t := t) (a := a) (b := a)).run d w
  simpa using this⟩
instance EqSelfF.nil {xs : List Value} : EqSelfF P lvl [] xs := ⟨fun d w fs hn h => (EqF.nil (P := P) (lvl := lvl) (xs := xs) (ys := xs)).run d w fs hn h⟩
instance EqSelfF.cons {ft : TypeId} {off : Nat} {fl : List (TypeId × Nat)} {xs : List Value} {g : Bool} {sz bs : Nat} {zc : List Value} {vx : Value} [ht : Ty P ft g sz bs zc] [hx : PartV g sz xs off vx] [h1 : EqSelf P lvl ft vx] [h2 : EqSelfF P lvl fl xs] :
    EqSelfF P lvl ((ft, off) :: fl) xs := ⟨fun d w fs hn h =>
  (EqF.cons (h1 := ⟨h1.run⟩) (h2 := ⟨h2.run⟩) : EqF P lvl ((ft, off) :: fl) xs xs (true && true)).run d w fs hn h⟩
instance EqSelf.struct {fl : List (TypeId × Nat)} {xs : List Value} [h : Flds P t fl] [hf : EqSelfF P lvl fl xs] : EqSelf P (lvl + 1) t (.agg xs.toArray) := ⟨fun d w =>
  (EqV.str_ (hf := ⟨hf.run⟩) : EqV P (lvl + 1) t (.agg xs.toArray) (.agg xs.toArray) true).run d w⟩
theorem eqGuard_flds {fl : List (TypeId × Nat)} (h : Flds P t fl) {op : BinOp} {xo yo : Operand} {xs ys : List Value} (w : World) : (eqGuard op t xo yo (.agg xs.toArray) (.agg ys.toArray)).run P w = .ok () w :=
  let ⟨_, _, _, _, hg, _⟩ := h.get
  run_eqGuard_agg w op t xo yo _ _ hg
instance BinRun.eqlAgg {fl : List (TypeId × Nat)} {xs ys : List Value} {r : Bool} [h : Flds P t fl] [hv : EqV P 8 t (.agg xs.toArray) (.agg ys.toArray) r] : BinRun P .eql t (.agg xs.toArray) (.agg ys.toArray) (.bool r) := ⟨fun xo yo w => by
  rw [Sem.run_bind, eqGuard_flds h, Result.andThen_ok, run_eql_struct, hv.run 9992]; rfl⟩
instance BinRun.neqAgg {fl : List (TypeId × Nat)} {xs ys : List Value} {r : Bool} [h : Flds P t fl] [hv : EqV P 8 t (.agg xs.toArray) (.agg ys.toArray) r] : BinRun P .neq t (.agg xs.toArray) (.agg ys.toArray) (.bool (!r)) := ⟨fun xo yo w => by
  rw [Sem.run_bind, eqGuard_flds h, Result.andThen_ok, run_neq_struct, hv.run 9992]; rfl⟩
end
/-! rows that are written -/
theorem flatten_set {sz : Nat} : ∀ {rows : List (List Value)}, RowsOk sz rows → ∀ {i : Nat} {r : List Value}, i < rows.length → r.length = sz → ins rows.flatten (i * sz) r = (rows.set i r).flatten
  | [], _, i, r, hi, _ => by simp at hi
  | x :: rows, h, 0, r, _, hr => by
    have hx := (h x (List.mem_cons_self ..)).1
    simp only [List.flatten_cons, List.set_cons_zero, ins, Nat.zero_mul, List.take_zero, List.nil_append, Nat.zero_add]
    rw [List.drop_left' (by omega)]
  | x :: rows, h, i + 1, r, hi, hr => by
    have hx := (h x (List.mem_cons_self ..)).1
    have ih := flatten_set (rows := rows) (fun y hy => h y (List.mem_cons_of_mem _ hy)) (i := i) (r := r) (by simpa using hi) hr
    have hl := RowsOk.len (rows := rows) fun y hy => h y (List.mem_cons_of_mem _ hy)
    simp only [List.flatten_cons, List.set_cons_succ]
    rw [← ih]
    unfold ins
    rw [show (i + 1) * sz = x.length + i * sz from by rw [hx, Nat.add_mul]; omega, List.take_append, List.take_of_length_le (by omega), show x.length + i * sz - x.length = i * sz from by omega,
      show x.length + i * sz + r.length = x.length + (i * sz + r.length) from by omega, List.drop_append, List.drop_of_length_le (by omega), show x.length + (i * sz + r.length) - x.length = i * sz + r.length from by omega]
    simp
theorem ins_left {l s vs : List Value} {off : Nat} (h : off + vs.length ≤ l.length) : ins (l ++ s) off vs = ins l off vs ++ s := by
  unfold ins
  rw [List.take_append_of_le_length (by omega), List.drop_append_of_le_length (by omega)]
  simp
theorem RowsOk.set {sz : Nat} {rows : List (List Value)} (h : RowsOk sz rows) {i : Nat} {r : List Value} (hr : r.length = sz) (h1 : oneAll r = true) : RowsOk sz (rows.set i r) := fun x hx => by
  rcases List.mem_or_eq_of_mem_set hx with hx | rfl
  · exact h x hx
  · exact ⟨hr, h1⟩
theorem Own.set {E sz g c : Nat} {rows : List (List Value)} {spare : List Value} (h : Own E sz (.slice (some ⟨g, 0, .none⟩) rows.length c) rows [(g, cl (rows.flatten ++ spare) E)]) (hs : rows.flatten.length + spare.length = c * sz) (hle : rows.length ≤ c) {i : Nat} {r : List Value} (hr : r.length = sz) (h1 : oneAll r = true) :
    Own E sz (.slice (some ⟨g, 0, .none⟩) rows.length c) (rows.set i r) [(g, cl ((rows.set i r).flatten ++ spare) E)] := by
  have h2 := h.1.set (i := i) hr h1
  refine ⟨h2, .inr ⟨g, c, spare, by simp, rfl, ?_, by simpa using hle⟩⟩
  rw [h2.len, List.length_set, ← h.1.len]; exact hs
section
variable {P : Program} {N : Fi} {B : Base} {Q : Exit → Act → World → Prop} {T : Tm} {A : List Blk} {ops : Array Oper} {l : List Oper}
variable {d : Nat} {ty : TypeId} {pos : String} {af : Array Edge} {m : Md} {gd : Option (Nat × Bool)}
/-- A row of one cell: loaded. -/
theorem Ops.ldCell {t : TypeId} {x : Operand} {b i : Nat} {bs : Nat} {zc : List Value} {rows : List (List Value)} {spare : List Value} {E : TypeId} {v : Value} (hm : m.rd false = true) (hg : gst ops T gd = some true) [ht : Ty P t false 1 bs zc]
    (hx : ev T x = some (.pointer (some ⟨b, i * 1, none⟩))) [hb : Has A b (cl (rows.flatten ++ spare) E)] (hr : RowsOk 1 rows) (hi : rows[i]? = some [v]) (hd : Nat.blt d N.n = true)
    (k : Ops P N B Q ops m.tl l ((d, v) :: T) A) : Ops P N B Q ops m (⟨some d, .load t x, ty, pos, af, gd⟩ :: l) T A :=
  Ops.ldRow1 (sz := 1) (o := 0) hm hg hx hr hi rfl hd k
/-- A row is written. -/
theorem Ops.stRow {t : TypeId} {x y : Operand} {b i : Nat} {gt : Bool} {sz bs : Nat} {zc r : List Value} {rows : List (List Value)} {spare : List Value} {E : TypeId} {v : Value} {A' : List Blk} (hm : m.eff = true) (hg : gst ops T gd = some true) [ht : Ty P t gt sz bs zc]
    (hx : ev T x = some (.pointer (some ⟨b, i * sz, none⟩))) (hy : ev T y = some v) [hc : Cells v r] (h1 : oneAll r = true) (hn : r.length = sz) [_hb : Has A b (cl (rows.flatten ++ spare) E)] (hr : RowsOk sz rows) (hi : i < rows.length)
    [hu : Upd A b (cl (rows.flatten ++ spare) E) (cl ((rows.set i r).flatten ++ spare) E) A'] (hp : Pd P N B ops m T none (fun _ X => X = A'))
    (k : Ops P N B Q ops m.tl l T A') : Ops P N B Q ops m (⟨none, .store t x y, ty, pos, af, gd⟩ :: l) T A :=
  Ops.unit hm hp hg (fun a w hF hS => by
    obtain ⟨A1, A2, rfl, rfl⟩ := hu.put
    have hlen := hr.len
    have hfit : i * sz + r.length ≤ rows.flatten.length := by
      rw [hlen, hn, show i * sz + sz = (i + 1) * sz from by rw [Nat.add_mul]; omega]
      exact Nat.mul_le_mul_right _ hi
    obtain ⟨w', hrun, hS'⟩ := run_storeAt (P := P) hS ht hc.eq hn (off := i * sz) (oneAll_mem h1) (by rw [List.length_append]; omega)
    refine ⟨w', by simp [execOp, hF.eval hx, hF.eval hy, hrun], ?_⟩
    rw [ins_left hfit, flatten_set hr hi hn] at hS'
    exact hS') k
end
/-! the whole call, from a world -/
def baseOf (w : World) : Base := ⟨fun n => w.heap[n]?, w.os, w.tape, w.output, none⟩
theorem sat_baseOf (w : World) : Sat (baseOf w) [] w := ⟨rfl, rfl, rfl, fun _ _ h => h, by simp, by simp, by simp⟩
theorem Sat.below {w w' : World} {A : List Blk} (h : Sat (baseOf w) A w') : RowKit.Below w.heap.size w w' := by
  refine ⟨h.os, h.tape, h.output, ?_, fun k hk => ?_⟩
  · rcases Nat.lt_or_ge w'.heap.size w.heap.size with hlt | hge
    · have h1 := h.base w'.heap.size _ (Array.getElem?_eq_getElem hlt)
      rw [Array.getElem?_eq_none (Nat.le_refl _)] at h1
      cases h1
    · exact hge
  · rw [h.base k _ (Array.getElem?_eq_getElem hk), Array.getElem?_eq_getElem hk]
/-- Ends of rounds. -/
def Keeps (T : Tm) : Tm → Prop
  | [] => True
  | (i, v) :: r => look T i = some v ∧ Keeps T r
theorem Fr.keeps {N : Fi} {T T' : Tm} {a : Act} (h : Fr N T a) (hk : Keeps T T') : Fr N T' a := by
  refine h.keep fun i v hi => ?_
  induction T' with
  | nil => cases hi
  | cons p T' ih =>
    obtain ⟨j, u⟩ := p
    simp only [look] at hi
    cases hb : Nat.beq i j with
    | true =>
      rw [hb] at hi
      simp only [cond_true, Option.some.injEq] at hi
      rw [Nat.eq_of_beq_eq_true hb, ← hi]
      exact hk.1
    | false =>
      rw [hb] at hi
      exact ih hk.2 hi
section
variable {N : Fi} {B : Base} {Q : Exit → Act → World → Prop} {T : Tm} {A : List Blk}
theorem round_end {σ : Type} {I : σ → Prop} {Tf : σ → Tm} {Af : σ → List Blk} {μ : σ → Nat} {n : Nat} (s : σ) (hI : I s) (hμ : μ s < n) (hT : Keeps T (Tf s)) (hA : ∀ w, Sat B A w → Sat B (Af s) w) :
    ∀ a w, Fr N T a → Sat B A w → Round N B I Tf Af μ n Q .normal a w := fun _ _ hF hS => ⟨s, hI, hμ, hF.keeps hT, hA _ hS⟩
theorem meet_end {σ : Type} {I : σ → Prop} {Tf : σ → Tm} {Af : σ → List Blk} (s : σ) (hI : I s) (hT : Keeps T (Tf s)) (hA : ∀ w, Sat B A w → Sat B (Af s) w) :
    ∀ a w, Fr N T a → Sat B A w → Meets N B I Tf Af Q .normal a w := fun _ _ hF hS => ⟨s, hI, hF.keeps hT, hA _ hS⟩
end
theorem Cd.loopK {P : Program} {N : Fi} {B : Base} {Q : Exit → Act → World → Prop} {T : Tm} {A : List Blk} {σ : Type} {c : Code} (I : σ → Prop) (Tf : σ → Tm) (Af : σ → List Blk) (μ : σ → Nat) (s0 : σ) (h0 : I s0) (hT : Keeps T (Tf s0)) (hA : ∀ w, Sat B A w → Sat B (Af s0) w)
    (round : ∀ s, I s → Cd P N B (Round N B I Tf Af μ (μ s) Q) c (Tf s) (Af s)) : Cd P N B Q (.loop c) T A :=
  Cd.loop I Tf Af μ s0 h0 (fun _ hF => hF.keeps hT) hA round
end Go.Sep
/- What comes in: a slice whose elements are flat (numbers, strings, bools; structs of these). -/
namespace Go.Sep
open Go
inductive LK where
  | int (k : IntKind)
  | str
  | bool
def CellK : LK → Value → Prop
  | .int k, v => ∃ n, v = .int k n ∧ (Lit.int k n).wf = true
  | .str, v => ∃ s, v = .string s ∧ s.size ≤ maxLen
  | .bool, v => ∃ b, v = .bool b
def AllK : List LK → List Value → Prop
  | [], [] => True
  | k :: ks, v :: vs => CellK k v ∧ AllK ks vs
  | _, _ => False
theorem AllK.len : ∀ {ks : List LK} {vs : List Value}, AllK ks vs → vs.length = ks.length
  | [], [], _ => rfl
  | _ :: ks, _ :: vs, h => by simp [AllK.len (ks := ks) (vs := vs) h.2]
  | [], _ :: _, h => h.elim
  | _ :: _, [], h => h.elim
theorem AllK.app : ∀ {ks ks' : List LK} {vs vs' : List Value}, AllK ks vs → AllK ks' vs' → AllK (ks ++ ks') (vs ++ vs')
  | [], _, [], _, _, h' => h'
  | _ :: ks, _, _ :: vs, _, h, h' => ⟨h.1, AllK.app (ks := ks) (vs := vs) h.2 h'⟩
  | [], _, _ :: _, _, h, _ => h.elim
  | _ :: _, _, [], _, h, _ => h.elim
class FlatT (P : Program) (t : TypeId) (ks : outParam (List LK)) : Prop where
  open_ : ∀ {H : Type} {enc : TypeId × Value → H} {w : World} {base : Nat} {spare : Nat → Bool} {held : Bool} {fuel : Nat} {cs : List Value} {x : DataW H × List MemPlace},
    DataW.trod enc P w base spare held fuel t cs = some x → AllK ks cs
class FlatF (P : Program) (fl : List (TypeId × Nat)) (start : Nat) (ks : outParam (List LK)) : Prop where
  open_ : ∀ {H : Type} {enc : TypeId × Value → H} {w : World} {base : Nat} {spare : Nat → Bool} {held : Bool} {cs : List Value},
    (∀ p ∈ fl, ∃ (n : Nat) (y : DataW H × List MemPlace), DataW.trod enc P w base spare held n p.1 ((cs.drop p.2).take (P.cellsOf p.1)) = some y) → AllK ks ((cs.drop start).take ks.length)
section
variable {P : Program} {t : TypeId}
instance FlatT.int {k : IntKind} [h : TyD P t (.int k)] : FlatT P t [.int k] := ⟨fun ht => by
  obtain ⟨n, rfl, _, hw⟩ := DataW.trod_int h.und ht
  exact ⟨⟨n, rfl, hw⟩, trivial⟩⟩
instance FlatT.str [h : TyD P t .string] : FlatT P t [.str] := ⟨fun ht => by
  obtain ⟨s, rfl, _, hs⟩ := DataW.trod_string h.und ht
  exact ⟨⟨s, rfl, hs⟩, trivial⟩⟩
instance FlatT.bool [h : TyD P t .bool] : FlatT P t [.bool] := ⟨fun ht => by
  obtain ⟨b, rfl, _⟩ := DataW.trod_bool h.und ht
  exact ⟨⟨b, rfl⟩, trivial⟩⟩
instance FlatF.nil {start : Nat} : FlatF P [] start [] := ⟨fun _ => by simp [AllK]⟩
class LKLen (ks : List LK) (n : Nat) : Prop where
  eq : ks.length = n
instance LKLen.z : LKLen [] 0 := ⟨rfl⟩
instance LKLen.s {k : LK} {ks : List LK} {n : Nat} [h : LKLen ks n] : LKLen (k :: ks) (n + 1) := ⟨by simp [h.eq]⟩
/-- a struct's fields, their places one behind the other from 0 on. -/
def flB (P : Program) (t : TypeId) : Option (List (TypeId × Nat)) :=
  match P.underlying t with
  | some (.struct fields) => some (fields.toList.map fun f => (f.type, f.offset))
  | _ => none
class FlS (P : Program) (t : TypeId) (fl : outParam (List (TypeId × Nat))) : Prop where
  eq : flB P t = some fl
instance FlatT.struct {fl : List (TypeId × Nat)} {ks : List LK} {sz bs : Nat} {zc : List Value} [h : FlS P t fl] [hf : FlatF P fl 0 ks] [ht : Ty P t true sz bs zc] [hn : LKLen ks sz] : FlatT P t ks := ⟨fun {_ _ _ _ _ _ _ cs _} hx => by
  have h1 := h.eq
  unfold flB at h1
  split at h1
  · rename_i fields hu
    injection h1 with h1
    obtain ⟨xs, n, _, _, hlen, hxl, hat⟩ := DataW.trod_struct hu hx
    have hc : P.cellsOf t = sz := by
      obtain ⟨i, z, hi, _, _, hs, _⟩ := ht.get
      simp [Program.cellsOf, hi, hs]
    have key := hf.open_ (cs := cs) fun p hp => by
      rw [← h1] at hp
      obtain ⟨f, hfm, rfl⟩ := List.mem_map.1 hp
      obtain ⟨i, hi⟩ := List.getElem?_of_mem hfm
      have hi' : fields[i]? = some f := by simpa using hi
      have hlt : i < xs.length := by rw [hxl]; exact (Array.getElem?_eq_some_iff.1 hi').1
      exact ⟨n, xs[i], (hat i f hi').trans (List.getElem?_eq_getElem hlt)⟩
    rw [List.drop_zero, List.take_of_length_le (by rw [hlen, hc, hn.eq]; exact Nat.le_refl _)] at key
    exact key
  · cases h1⟩
end
end Go.Sep
/- append of what another slice holds. -/
namespace Go.Sep
open Go
/-- In every world of these blocks the slice yv holds just these rows. -/
def Reads (P : Program) (B : Base) (A : List Blk) (sz : Nat) (yv : Value) (news : List (List Value)) : Prop :=
  RowsOk sz news ∧ (∃ a c, yv = .slice a news.length c) ∧ ∀ w, Sat B A w → (Builtin.firstCells sz news.length yv).run P w = .ok news.flatten.toArray w
theorem Own.empty {e sz b : Nat} : Own e sz (.slice (some ⟨b, 0, .none⟩) 0 0) [] [(b, cl [] e)] := ⟨RowsOk.nil, .inr ⟨b, 0, [], rfl, rfl, by simp, Nat.le_refl _⟩⟩
section
variable {P : Program} {N : Fi} {B : Base} {Q : Exit → Act → World → Prop} {T : Tm} {A : List Blk} {ops : Array Oper} {l : List Oper}
variable {d : Nat} {ty : TypeId} {pos : String} {af : Array Edge} {m : Md} {gd : Option (Nat × Bool)}
theorem Reads.none {sz : Nat} {a : Option Addr} {c : Nat} : Reads P B A sz (.slice a 0 c) [] := by
  refine ⟨RowsOk.nil, ⟨a, c, rfl⟩, fun w _ => ?_⟩
  cases a with
  | none => simp [Builtin.firstCells]
  | some x => simp [Builtin.firstCells, loadCells, loadCellsFrom]
theorem Reads.own {e sz : Nat} {yv : Value} {rows : List (List Value)} {G F : List Blk} [hs : Split A G F] (h : Own e sz yv rows G) : Reads P B A sz yv rows := by
  refine ⟨h.1, ?_, fun w hS => ?_⟩
  · obtain ⟨a, c, e⟩ := h.form; exact ⟨a, c, e⟩
  have hS' := hS.perm hs.perm
  rcases h.2 with ⟨h1, h2, h3⟩ | ⟨g, c', spare, h1, h2, h3, h4⟩
  · subst h1; subst h2
    simp [Builtin.firstCells]
  · subst h2
    have hrl := h.1.len
    have := run_firstCells (P := P) (size := sz) (n := rows.length) h1 (hS'.here (g, cl (rows.flatten ++ spare) e) (by simp)) (by rw [List.length_append, hrl]; omega)
    rw [this, ← hrl]
    simp
theorem Reads.at_ {e sz g off i k c : Nat} {rows : List (List Value)} {spare : List Value} [hb : Has A g (cl (rows.flatten ++ spare) e)] (hr : RowsOk sz rows) (ho : off = i * sz) (hk : i + k ≤ rows.length) :
    Reads P B A sz (.slice (some ⟨g, off, .none⟩) k c) ((rows.drop i).take k) := by
  subst ho
  have hl : ((rows.drop i).take k).length = k := by simp; omega
  have hn : RowsOk sz ((rows.drop i).take k) := fun r h => hr r (List.mem_of_mem_drop (List.mem_of_mem_take h))
  refine ⟨hn, ⟨some ⟨g, i * sz, .none⟩, c, by rw [hl]⟩, fun w hS => ?_⟩
  have hc := hS.here _ hb.mem
  have hf := hn.len
  rw [hl] at hf ⊢
  simp only [Builtin.firstCells]
  refine run_loadCells hf fun j u hu => ?_
  have hj : j < k * sz := by rw [← hf]; exact (List.getElem?_eq_some_iff.1 hu).1
  have e1 : rows.flatten = (rows.take i).flatten ++ (((rows.drop i).take k).flatten ++ ((rows.drop i).drop k).flatten) := by
    rw [← List.flatten_append, ← List.flatten_append, List.take_append_drop, List.take_append_drop]
  have h1 : (rows.take i).flatten.length = i * sz := by
    have : RowsOk sz (rows.take i) := fun r h => hr r (List.mem_of_mem_take h)
    rw [this.len, List.length_take, Nat.min_eq_left (by omega)]
  rw [cell_of hc, e1, List.append_assoc, List.getElem?_append_right (by omega), h1, List.append_assoc, List.getElem?_append_left (by rw [hf]; omega), show i * sz + j - i * sz = j from by omega]
  exact hu
/-- append of the rows of another slice. -/
theorem Ops.appS {t e sz bs : Nat} {ge : Bool} {zc : List Value} {x y : Operand} {sv yv : Value} {rows news : List (List Value)} {G F : List Blk} (hown : Own e sz sv rows G) (hrd : Reads P B A sz yv news) (hbytes : (rows.length + news.length + (rows.length + news.length) / 4 + 512) * bs ≤ 281474976710656) (hmax : rows.length + news.length ≤ 9223372036854775807)
    (hm : m.eff = true) (hg : gst ops T gd = some true) [ht : TyD P t (.slice e)] [he : Ty P e ge sz bs zc] (hx : ev T x = some sv) (hy : ev T y = some yv) [hs : Split A G F]
    (hzc : zc.length = sz) (hp : Pd P N B ops m T (some d) (AppR e sz rows news F)) (hd : Nat.blt d N.n = true)
    (k : ∀ v G', Own e sz v (rows ++ news) G' → Ops P N B Q ops m.tl l ((d, v) :: T) (G' ++ F)) :
    Ops P N B Q ops m (⟨some d, .call { callee := .builtin .append, args := #[x, y], argTypes := #[t, t] }, ty, pos, af, gd⟩ :: l) T A := by
  obtain ⟨hnew, ⟨ya, yc, rfl⟩, hread⟩ := hrd
  refine Ops.effV (R := AppR e sz rows news F) hm hp hg hd (fun a w hF hS => ?_) fun v X ⟨G', hG', hX⟩ => ?_
  · have hS' := hS.perm hs.perm
    have := run_append (P := P) (w := w) (ty := ty) (sv := sv) (xv := .slice ya news.length yc) (news := news) ht he hzc hS' hown hnew (by simp [Builtin.lenOf]) (hread w hS) (fun w' h' => hread w' (h'.perm hs.perm.symm)) hbytes hmax
    simp only [execOp, resolve, invoke, builtin, Sem.run_bind, Sem.run_pure, Result.andThen_ok, List.map_toArray, List.map_cons, List.map_nil, hF.eval hx, hF.eval hy] at this ⊢
    exact this
  · subst hX
    exact k v G' hG'
end
end Go.Sep
/- min and max of two numbers; make of a slice; a slice that looks into another's rows. -/
namespace Go.Sep
open Go
set_option linter.unusedSimpArgs false
section
variable {P : Program} {N : Fi} {B : Base} {Q : Exit → Act → World → Prop} {T : Tm} {A : List Blk} {ops : Array Oper} {l : List Oper}
variable {d : Nat} {ty : TypeId} {pos : String} {af : Array Edge} {m : Md} {gd : Option (Nat × Bool)}
theorem Ops.maxI {t t' : TypeId} {x y : Operand} {i j : Int} {k1 k2 : IntKind} (hm : m.rd true = true) (hg : gst ops T gd = some true) (hx : ev T x = some (.int k1 i)) (hy : ev T y = some (.int k2 j)) (hd : Nat.blt d N.n = true)
    (k : Ops P N B Q ops m.tl l ((d, .int k1 (max i j)) :: T) A) : Ops P N B Q ops m (⟨some d, .call { callee := .builtin .max, args := #[x, y], argTypes := #[t, t'] }, ty, pos, af, gd⟩ :: l) T A :=
  Ops.pureV hm hg hd (fun a w hF => by
    have e : (if j > i then j else i) = max i j := by split <;> omega
    simp [execOp, resolve, invoke, builtin, Builtin.max_, Builtin.max2, hF.eval hx, hF.eval hy, ← e]) k
/-- make of a slice of one-cell elements, of a small number. -/
theorem Ops.mk1 {t e : TypeId} {ge : Bool} {x y : Operand} {bs : Nat} {z : Value} {i : Int} {k1 k2 : IntKind} (hm : m.eff = true) (hg : gst ops T gd = some true) [ht : TyD P t (.slice e)] [he : Ty P e ge 1 bs [z]] (hx : ev T x = some (.int k1 i)) (hy : ev T y = some (.int k2 i)) (h0 : 0 ≤ i) (h1 : i ≤ 1048576) (hb : bs ≤ 65536) (hd : Nat.blt d N.n = true)
    (hp : Pd P N B ops m T (some d) (NewR (fun b => .slice (some ⟨b, 0, none⟩) i.toNat i.toNat) (cl (List.replicate i.toNat z) e) A)) (k : ∀ b, Ops P N B Q ops m.tl l ((d, .slice (some ⟨b, 0, none⟩) i.toNat i.toNat) :: T) ((b, cl (List.replicate i.toNat z) e) :: A)) : Ops P N B Q ops m (⟨some d, .makeSlice t x y, ty, pos, af, gd⟩ :: l) T A :=
  Ops.new (v := fun b => .slice (some ⟨b, 0, none⟩) i.toNat i.toNat) hm hp hg hd (fun a w hF hS => by
    obtain ⟨zv, hz, hzc⟩ := he.run_zero (w := w)
    obtain ⟨i3, hi3, his3, hib3⟩ := he.run_info (w := w)
    obtain ⟨n, rfl⟩ : ∃ n : Nat, i = n := ⟨i.toNat, by omega⟩
    have wl : IntKind.i64.wrap (n : Int) = n := by simp [IntKind.wrap, IntKind.bits, IntKind.signed]; omega
    have hnb : n * bs ≤ 1048576 * 65536 := Nat.mul_le_mul (by omega) hb
    have hnb' : (bs : Int) * (n : Int) ≤ 68719476736 := by
      have : ((n * bs : Nat) : Int) ≤ ((1048576 * 65536 : Nat) : Int) := by exact_mod_cast hnb
      rw [Int.natCast_mul, Int.mul_comm] at this
      omega
    have n1 : ¬ ((n : Int) < 0) := by omega
    have n2 : ¬ (281474976710656 < (bs : Int) * (n : Int)) := by omega
    have n3 : ¬ (140737488355328 < n * bs) := by omega
    rcases Nat.eq_zero_or_pos n with rfl | hn
    · have w0 : IntKind.i64.wrap 0 = 0 := by decide
      simp [execOp, hF.eval hx, hF.eval hy, Instr.makeSlice, ht.run_und, asInt, asIntOf, hi3, his3, hib3, he.run_size, w0, newRow, askRoom, roomBytes, cl]
      congr 2
      apply Array.ext <;> simp
    · have hn0 : n ≠ 0 := by omega
      simp [execOp, hF.eval hx, hF.eval hy, Instr.makeSlice, ht.run_und, asInt, asIntOf, hi3, his3, hib3, he.run_size, wl, n1, n2, n3, newRow, askRoom, roomBytes, cl, hn0, hz, hzc]
      congr 2
      apply Array.ext
      · simp
      · intro q h1 h2; simp [Nat.mod_one]) k
end
end Go.Sep
