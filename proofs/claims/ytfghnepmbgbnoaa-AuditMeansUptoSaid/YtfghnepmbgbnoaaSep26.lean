import Derived.Test.YtfghnepmbgbnoaaSep24
import Derived.Test.YtfghnepmbgbnoaaSep21
/- Maps by pairs of whole numbers: look-ups, updates, an entry that is written in place. -/
namespace Go.Sep
open Go
set_option linter.unusedSimpArgs false

/-- An entry: its key's two numbers, its element. -/
structure PE where
  a : Int
  b : Int
  v : Value
@[reducible] def pkey (a b : Int) : Value := .agg #[.int .i64 a, .int .i64 b]
def PE.ent (i : Nat) (e : PE) : MapEntry := { key := pkey e.a e.b, val := e.v, born := i }
def pents (es : List PE) : List MapEntry := es.mapIdx PE.ent
def pm (es : List PE) : Obj := .map (pents es).toArray es.length
def pfind (a b : Int) : List PE → Nat → Option (Nat × Value)
  | [], _ => none
  | e :: es, n => if a = e.a ∧ b = e.b then some (n, e.v) else pfind a b es (n + 1)
def pget (es : List PE) (a b : Int) : Option Value := (pfind a b es 0).map (·.2)
def pput (es : List PE) (a b : Int) (v : Value) : List PE := match pfind a b es 0 with
  | some (n, _) => es.set n ⟨a, b, v⟩
  | none => es ++ [⟨a, b, v⟩]
theorem pfind_some {a b : Int} : ∀ {es : List PE} {n m : Nat} {v : Value}, pfind a b es n = some (m, v) → ∃ j e, m = n + j ∧ es[j]? = some e ∧ e.a = a ∧ e.b = b ∧ e.v = v
  | [], _, _, _, h => by cases h
  | e :: es, n, m, v, h => by
    unfold pfind at h
    split at h
    · rename_i hc
      injection h with h
      injection h with h1 h2
      exact ⟨0, e, h1.symm, rfl, hc.1.symm, hc.2.symm, h2⟩
    · obtain ⟨j, e', h1, h2, h3⟩ := pfind_some h
      exact ⟨j + 1, e', by omega, h2, h3⟩

/-- A key of two whole numbers. -/
class PairK (P : Program) (kt : TypeId) : Prop where
  und : ∃ fs, P.underlying kt = some (.struct fs)
  check : ∀ (c : Bool) (x y : Int) (w : World), (Instr.checkKey c 10000 kt (pkey x y)).run P w = .ok () w
  eq : ∀ (x y z u : Int) (w : World), (Op.equal kt (pkey x y) (pkey z u)).run P w = .ok (decide (x = z ∧ y = u)) w

instance PairK.of {P : Program} {kt t1 : TypeId} {q : IntKind} {bs : Nat} {zc : List Value} [h : Flds P kt [(t1, 0), (t1, 1)]] [h1 : TyD P t1 (.int q)] [h2 : Ty P t1 false 1 bs zc] : PairK P kt where
  und := by obtain ⟨fs, hu, _⟩ := h.get; exact ⟨fs, hu⟩
  check := fun c x y w => by
    obtain ⟨⟨fs⟩, hu, hn, hs, _, hfl⟩ := h.get
    obtain ⟨f1, f2, rfl⟩ : ∃ f1 f2, fs = [f1, f2] := by
      cases fs with
      | nil => cases hfl
      | cons f1 fs =>
        cases fs with
        | nil => simp at hfl
        | cons f2 fs =>
          cases fs with
          | nil => exact ⟨f1, f2, rfl⟩
          | cons f3 fs => simp at hfl
    · simp only [List.map_cons, List.map_nil, List.cons.injEq, Prod.mk.injEq, and_true] at hfl
      obtain ⟨⟨e1, e2⟩, e3, e4⟩ := hfl
      have n1 := hn f1 (by simp)
      have n2 := hn f2 (by simp)
      have hc : ∀ (n : Nat) (z : Int) (w : World), (Instr.checkKey c (n + 1) t1 (.int .i64 z)).run P w = .ok () w := fun n z w => by
        simp only [Instr.checkKey, Sem.run_bind, h1.run_und, Result.andThen_ok]
        rfl
      have p1 : (part t1 #[.int .i64 x, .int .i64 y] 0).run P w = .ok (.int .i64 x) w := run_part (xs := [.int .i64 x, .int .i64 y]) h2 ⟨(fun e => nomatch e), fun _ => rfl⟩ w
      have p2 : (part t1 #[.int .i64 x, .int .i64 y] 1).run P w = .ok (.int .i64 y) w := run_part (xs := [.int .i64 x, .int .i64 y]) h2 ⟨(fun e => nomatch e), fun _ => rfl⟩ w
      show (Instr.checkKey c (9999 + 1) kt (.agg #[.int .i64 x, .int .i64 y])).run P w = .ok () w
      unfold Instr.checkKey
      simp only [Sem.run_bind, run_underlying hu w, Result.andThen_ok]
      simp [n1, n2, ← e1, ← e2, ← e3, ← e4, p1, p2, hc 9998]
  eq := fun x y z u w => by
    have hx : EqV P 8 kt (.agg [.int .i64 x, .int .i64 y].toArray) (.agg [.int .i64 z, .int .i64 u].toArray) (decide (x = z) && (decide (y = u) && true)) := inferInstance
    have := hx.run 9992 w
    rw [show (decide (x = z ∧ y = u)) = (decide (x = z) && (decide (y = u) && true)) from by simp]
    exact this

theorem pents_cons (e : PE) (es : List PE) (n : Nat) : (e :: es).mapIdx (fun i x => PE.ent (n + i) x) = PE.ent n e :: es.mapIdx (fun i x => PE.ent (n + 1 + i) x) := by
  rw [List.mapIdx_cons]
  have : (fun i x => PE.ent (n + (i + 1)) x) = fun i x => PE.ent (n + 1 + i) x := by
    funext i x
    rw [show n + (i + 1) = n + 1 + i from by omega]
  rw [← this]; rfl

section
variable {P : Program} {kt : TypeId} {w : World}
theorem run_findAsking [h : PairK P kt] (a b : Int) : ∀ (es : List PE) (n k : Nat), (Instr.findAsking kt (pkey a b) (es.mapIdx fun i x => PE.ent (k + i) x) n).run P w = .ok (pfind a b es n) w
  | [], n, k => by simp [Instr.findAsking, pfind]
  | e :: es, n, k => by
    rw [pents_cons]
    unfold Instr.findAsking pfind
    simp only [PE.ent, Sem.run_bind, h.eq, Result.andThen_ok]
    by_cases hc : a = e.a ∧ b = e.b
    · simp [hc]
    · rw [if_neg hc]
      simp only [hc, decide_false, Bool.false_eq_true, if_false]
      exact run_findAsking a b es (n + 1) (k + 1)
theorem run_findPair [h : PairK P kt] (a b : Int) (es : List PE) : (Instr.findKey kt (pkey a b) (pents es)).run P w = .ok (pfind a b es 0) w := by
  obtain ⟨fs, hu⟩ := h.und
  have hF := run_findAsking (P := P) (kt := kt) (w := w) a b es 0 0
  simp only [Nat.zero_add] at hF
  have hF' : (Instr.findAsking kt (pkey a b) (pents es) 0).run P w = .ok (pfind a b es 0) w := hF
  unfold Instr.findKey
  simp only [Sem.run_bind, run_underlying hu w, Result.andThen_ok]
  cases es with
  | nil => simp [pents, Instr.findNow, pfind]
  | cons e es =>
    have : Instr.findNow (.struct fs) (pkey a b) (pents (e :: es)) 0 = none := by simp [pents, Instr.findNow, Instr.sameNow]
    rw [this]
    exact hF'
theorem run_getPm {b : Nat} {es : List PE} (h : w.heap[b]? = some (pm es)) : (getObj b).run P w = .ok (.map (pents es).toArray es.length) w := by
  simp only [getObj, Sem.run, h, pm]
theorem run_setPm {b : Nat} {es : List PE} {o : Obj} (h : w.heap[b]? = some (pm es)) : (setObj b o).run P w = .ok () (w.putObj b o) := by
  simp [setObj, Sem.run, h, pm, World.putObj]
theorem run_stay (a b : Int) : (Instr.keyThatStays (pkey a b) (pkey a b)).run P w = .ok (pkey a b) w := by
  unfold Instr.keyThatStays
  rw [if_pos (by simp [Instr.sameBits, pkey])]
  rfl
end

theorem pents_at {es : List PE} {n : Nat} {e : PE} (h : es[n]? = some e) : (pents es).toArray[n]? = some (e.ent n) := by
  simp [pents, h]
theorem pents_set {es : List PE} {n : Nat} {e x : PE} (h : es[n]? = some e) (f : MapEntry → MapEntry) (hf : f (e.ent n) = x.ent n) :
    (pents es).toArray.modify n f = (pents (es.set n x)).toArray := by
  apply Array.ext_getElem?
  intro q
  rw [Array.getElem?_modify]
  by_cases hq : n = q
  · subst hq
    rw [if_pos rfl, pents_at h, pents_at (List.getElem?_set_self (List.getElem?_eq_some_iff.1 h).1), Option.map_some, hf]
  · rw [if_neg hq]
    simp [pents, List.getElem?_set_ne hq]
theorem pents_push (es : List PE) (e : PE) : (pents es).toArray.push (e.ent es.length) = (pents (es ++ [e])).toArray := by
  simp [pents, List.mapIdx_append]

section
variable {P : Program} {N : Fi} {B : Base} {Q : Exit → Act → World → Prop} {T : Tm} {A : List Blk} {ops : Array Oper} {l : List Oper}
variable {d : Nat} {ty : TypeId} {pos : String} {af : Array Edge} {m : Md} {gd : Option (Nat × Bool)}

theorem run_lookupP {t kt et : TypeId} {z : Value} {b : Nat} {es : List PE} {i j : Int} {ok : Bool} {w : World} [ht : TyD P t (.map kt et)] [hk : PairK P kt] [hz : TyZ P et z] (hb : w.heap[b]? = some (pm es)) :
    (Instr.lookup t (.map (some b)) (pkey i j) ok).run P w = .ok (if ok then .tuple #[(pget es i j).getD z, .bool (pget es i j).isSome] else (pget es i j).getD z) w := by
  unfold Instr.lookup
  simp only [Sem.run_bind, ht.run_und, Result.andThen_ok, run_getPm hb, Sem.run_pure, hk.check, run_findPair, List.toList_toArray]
  unfold pget
  cases hf : pfind i j es 0 with
  | some p => obtain ⟨n, v⟩ := p; cases ok <;> simp
  | none => cases ok <;> simp [hz.run]
theorem Ops.lkP {t kt et : TypeId} {z : Value} {x y : Operand} {b : Nat} {es : List PE} {i j : Int} (hm : m.rd false = true) (hg : gst ops T gd = some true) [ht : TyD P t (.map kt et)] [hk : PairK P kt] [hz : TyZ P et z]
    (hx : ev T x = some (.map (some b))) (hy : ev T y = some (pkey i j)) [hb : Has A b (pm es)] (hd : Nat.blt d N.n = true) (k : Ops P N B Q ops m.tl l ((d, .tuple #[(pget es i j).getD z, .bool (pget es i j).isSome]) :: T) A) :
    Ops P N B Q ops m (⟨some d, .lookup t x y true, ty, pos, af, gd⟩ :: l) T A :=
  Ops.readV hm hg hd (fun a w hF hS => by simp [execOp, hF.eval hx, hF.eval hy, run_lookupP (ok := true) (hS.here _ hb.mem)]) k
theorem Ops.lkP1 {t kt et : TypeId} {z : Value} {x y : Operand} {b : Nat} {es : List PE} {i j : Int} (hm : m.rd false = true) (hg : gst ops T gd = some true) [ht : TyD P t (.map kt et)] [hk : PairK P kt] [hz : TyZ P et z]
    (hx : ev T x = some (.map (some b))) (hy : ev T y = some (pkey i j)) [hb : Has A b (pm es)] (hd : Nat.blt d N.n = true) (k : Ops P N B Q ops m.tl l ((d, (pget es i j).getD z) :: T) A) :
    Ops P N B Q ops m (⟨some d, .lookup t x y false, ty, pos, af, gd⟩ :: l) T A :=
  Ops.readV hm hg hd (fun a w hF hS => by simp [execOp, hF.eval hx, hF.eval hy, run_lookupP (ok := false) (hS.here _ hb.mem)]) k
theorem Ops.upP {t kt et : TypeId} {x y z : Operand} {b : Nat} {es : List PE} {i j : Int} {v : Value} {A' : List Blk} (hm : m.eff = true) (hg : gst ops T gd = some true) [ht : TyD P t (.map kt et)] [hk : PairK P kt]
    (hx : ev T x = some (.map (some b))) (hy : ev T y = some (pkey i j)) (hz : ev T z = some v) [hb : Has A b (pm es)] [hu : Upd A b (pm es) (pm (pput es i j v)) A'] (hp : Pd P N B ops m T none (fun _ X => X = A')) (k : Ops P N B Q ops m.tl l T A') :
    Ops P N B Q ops m (⟨none, .mapUpdate t x y z, ty, pos, af, gd⟩ :: l) T A :=
  Ops.unit hm hp hg (fun a w hF hS => by
    obtain ⟨A1, A2, rfl, rfl⟩ := hu.put
    have hh := hS.here (b, pm es) (List.mem_append_right _ (List.mem_cons_self ..))
    refine ⟨w.putObj b (pm (pput es i j v)), ?_, hS.putObj⟩
    have hrun : (Instr.mapUpdate t (.map (some b)) (pkey i j) v).run P w = .ok () (w.putObj b (pm (pput es i j v))) := by
      unfold Instr.mapUpdate
      simp only [Sem.run_bind, ht.run_und, Result.andThen_ok, run_getPm hh, hk.check, run_findPair, List.toList_toArray]
      cases hf : pfind i j es 0 with
      | none =>
        have e1 : pput es i j v = es ++ [⟨i, j, v⟩] := by unfold pput; rw [hf]
        simp only [run_setPm hh]
        rw [e1]
        have := pents_push es ⟨i, j, v⟩
        simp only [PE.ent] at this
        rw [this]
        simp [pm]
      | some p =>
        obtain ⟨n, u⟩ := p
        obtain ⟨q, e, h1, hj, hea, heb, _⟩ := pfind_some hf
        rw [Nat.zero_add] at h1
        subst h1
        have e1 : pput es i j v = es.set n ⟨i, j, v⟩ := by unfold pput; rw [hf]
        have hkey : (((pents es).toArray[n]?).map (·.key)).getD (pkey i j) = pkey i j := by
          rw [pents_at hj]; simp [PE.ent, hea, heb]
        simp only [Sem.run_bind, hkey, run_stay, Result.andThen_ok, run_setPm hh]
        rw [e1, pents_set (x := ⟨i, j, v⟩) hj _ (by simp [PE.ent])]
        simp [pm]
    simp [execOp, hF.eval hx, hF.eval hy, hF.eval hz, hrun]) k

/-- m[k] is about to be written in place: what stands there, and where. -/
def pslot (es : List PE) (i j : Int) : Nat := match pfind i j es 0 with
  | some (n, _) => n
  | none => es.length
def ptouch (es : List PE) (i j : Int) (z : Value) : List PE := match pfind i j es 0 with
  | some _ => es
  | none => es ++ [⟨i, j, z⟩]
theorem Ops.meP {t kt et : TypeId} {z : Value} {x y : Operand} {b : Nat} {es : List PE} {i j : Int} {A' : List Blk} (hm : m.eff = true) (hg : gst ops T gd = some true) [ht : TyD P t (.map kt et)] [hk : PairK P kt] [hz : TyZ P et z]
    (hx : ev T x = some (.map (some b))) (hy : ev T y = some (pkey i j)) [hb : Has A b (pm es)] [hu : Upd A b (pm es) (pm (ptouch es i j z)) A'] (hp : Pd P N B ops m T (some d) (fun u X => u = .tuple #[(pget es i j).getD z, .int .i64 (pslot es i j)] ∧ X = A')) (hd : Nat.blt d N.n = true)
    (k : Ops P N B Q ops m.tl l ((d, .tuple #[(pget es i j).getD z, .int .i64 (pslot es i j)]) :: T) A') :
    Ops P N B Q ops m (⟨some d, .mapEntry t x y, ty, pos, af, gd⟩ :: l) T A :=
  Ops.effV hm hp hg hd (fun a w hF hS => by
    obtain ⟨A1, A2, rfl, rfl⟩ := hu.put
    have hh := hS.here (b, pm es) (List.mem_append_right _ (List.mem_cons_self ..))
    have hrun : (Instr.mapEntry t (.map (some b)) (pkey i j)).run P w = .ok (.tuple #[(pget es i j).getD z, .int .i64 (pslot es i j)]) (w.putObj b (pm (ptouch es i j z))) := by
      unfold Instr.mapEntry pget pslot ptouch
      simp only [Sem.run_bind, ht.run_und, Result.andThen_ok, run_getPm hh, hk.check, run_findPair, List.toList_toArray]
      cases hf : pfind i j es 0 with
      | none =>
        simp only [Sem.run_bind, hz.run, Result.andThen_ok, run_setPm hh]
        have := pents_push es ⟨i, j, z⟩
        simp only [PE.ent] at this
        rw [this]
        simp [pm, goInt]
      | some p =>
        obtain ⟨n, u⟩ := p
        obtain ⟨q, e, h1, hj, hea, heb, _⟩ := pfind_some hf
        rw [Nat.zero_add] at h1
        subst h1
        have hkey : (((pents es).toArray[n]?).map (·.key)).getD (pkey i j) = pkey i j := by
          rw [pents_at hj]; simp [PE.ent, hea, heb]
        simp only [Sem.run_bind, hkey, run_stay, Result.andThen_ok, run_setPm hh, Sem.run_pure]
        rw [pents_set (x := e) hj _ (by simp [PE.ent, hea, heb]), pents_at hj]
        have hset : es.set n e = es := by
          obtain ⟨h1, rfl⟩ := List.getElem?_eq_some_iff.1 hj
          exact List.set_getElem_self h1
        rw [hset]
        simp [pm, goInt, PE.ent]
    simp only [execOp, hF.eval hx, hF.eval hy]
    simp only [Sem.run_bind, hrun, Result.andThen_ok, Sem.run_pure, effPost]
    exact ⟨_, ⟨trivial, rfl⟩, hS.putObj⟩) fun v X ⟨h1, h2⟩ => by rw [h1, h2]; exact k
theorem Ops.esP {t : TypeId} {x y u : Operand} {b n : Nat} {es : List PE} {e : PE} {v : Value} {A' : List Blk} (he : es[n]? = some e) (hm : m.eff = true) (hg : gst ops T gd = some true)
    (hx : ev T x = some (.map (some b))) (hy : ev T y = some (.int .i64 n)) (hz : ev T u = some v) [hb : Has A b (pm es)] [hu : Upd A b (pm es) (pm (es.set n ⟨e.a, e.b, v⟩)) A'] (hp : Pd P N B ops m T none (fun _ X => X = A')) (k : Ops P N B Q ops m.tl l T A') :
    Ops P N B Q ops m (⟨none, .entryStore t x y u, ty, pos, af, gd⟩ :: l) T A :=
  Ops.unit hm hp hg (fun a w hF hS => by
    obtain ⟨A1, A2, rfl, rfl⟩ := hu.put
    have hh := hS.here (b, pm es) (List.mem_append_right _ (List.mem_cons_self ..))
    refine ⟨w.putObj b (pm (es.set n ⟨e.a, e.b, v⟩)), ?_, hS.putObj⟩
    have hlt := (List.getElem?_eq_some_iff.1 he).1
    have hfi : (pents es).toArray.findIdx? (fun x => (x.born : Int) == (n : Int)) = some n := by
      rw [Array.findIdx?_eq_some_iff_getElem]
      refine ⟨by simp [pents]; exact hlt, ?_, fun q hq => ?_⟩
      · simp [pents, PE.ent]
      · simp [pents, PE.ent]; omega
    have hrun : (Instr.entryStore t (.map (some b)) (.int .i64 n) v).run P w = .ok () (w.putObj b (pm (es.set n ⟨e.a, e.b, v⟩))) := by
      unfold Instr.entryStore
      simp only [Sem.run_bind, Result.andThen_ok, run_getPm hh, asInt, asIntOf, Sem.run_pure, hfi, run_setPm hh]
      rw [pents_set (x := ⟨e.a, e.b, v⟩) he _ (by simp [PE.ent])]
      simp [pm]
    simp [execOp, hF.eval hx, hF.eval hy, hF.eval hz, hrun]) k
end
end Go.Sep
