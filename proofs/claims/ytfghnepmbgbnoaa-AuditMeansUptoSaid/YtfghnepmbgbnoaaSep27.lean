import Derived.Test.YtfghnepmbgbnoaaSep26
import Derived.Test.YtfghnepmbgbnoaaSep20
import Derived.Test.YtfghnepmbgbnoaaSepM
import Derived.Test.YtfghnepmbgbnoaaSep25
/- Some cells of a row: read, written. -/
namespace Go.Sep
open Go
section
variable {P : Program} {N : Fi} {B : Base} {Q : Exit → Act → World → Prop} {T : Tm} {A : List Blk} {ops : Array Oper} {l : List Oper}
variable {d : Nat} {ty : TypeId} {pos : String} {af : Array Edge} {m : Md} {gd : Option (Nat × Bool)}
theorem rows_get {sz i o n : Nat} {r r' : List Value} {rows : List (List Value)} (hr : RowsOk sz rows) (hi : rows[i]? = some r) (hg : GetS r o n r') (spare : List Value) : ∀ (j : Nat) (u : Value), r'[j]? = some u → (rows.flatten ++ spare)[i * sz + o + j]? = some u := fun j u hu => by
  have h1 := getS_at hg j u hu
  have hl := (hr r (List.mem_of_getElem? hi)).1
  have ho : o + j < sz := by rw [← hl]; exact (List.getElem?_eq_some_iff.1 h1).1
  have h2 := hr.at_ hi ho
  rw [Nat.add_assoc, List.getElem?_append_left (List.getElem?_eq_some_iff.1 (h2.trans h1)).1, h2, h1]
theorem Ops.ldRowN {t : TypeId} {x : Operand} {b i o : Nat} {sz sz' bs : Nat} {zc r r' : List Value} {rows : List (List Value)} {spare : List Value} {E : TypeId} (hm : m.rd false = true) (hg : gst ops T gd = some true) [ht : Ty P t true sz' bs zc]
    (hx : ev T x = some (.pointer (some ⟨b, i * sz + o, none⟩))) [hb : Has A b (cl (rows.flatten ++ spare) E)] (hr : RowsOk sz rows) (hi : rows[i]? = some r) [hs : GetS r o sz' r'] (hd : Nat.blt d N.n = true)
    (k : Ops P N B Q ops m.tl l ((d, .agg r'.toArray) :: T) A) : Ops P N B Q ops m (⟨some d, .load t x, ty, pos, af, gd⟩ :: l) T A :=
  Ops.readV hm hg hd (fun a w hF hS => by
    have hc : ∀ (j : Nat) (u : Value), r'[j]? = some u → w.cell? ⟨b, i * sz + o + j, none⟩ = some u := fun j u hu => (cell_of (hS.here _ hb.mem) _).trans (rows_get hr hi hs spare j u hu)
    simp [execOp, hF.eval hx, run_loadAtN ht (getS_len hs) hc]) k
theorem rows_setN {sz i o : Nat} {r r' vs : List Value} {rows : List (List Value)} (hr : RowsOk sz rows) (hi : rows[i]? = some r) (hs : SetS r o vs r') (spare : List Value) :
    ins (rows.flatten ++ spare) (i * sz + o) vs = (rows.set i r').flatten ++ spare := by
  have hlt := (List.getElem?_eq_some_iff.1 hi).1
  have hl := rows_mid_len hr (Nat.le_of_lt hlt)
  rw [rows_mid (spare := spare) hi, ← hl, ins_mid hs.eq.2, ← rows_mid_set hlt, hs.eq.1]
  rfl
theorem Ops.stRowN {t : TypeId} {x y : Operand} {b i o : Nat} {gt : Bool} {sz sz' bs : Nat} {zc r r' vs : List Value} {rows : List (List Value)} {spare : List Value} {E : TypeId} {A' : List Blk} (hm : m.eff = true) (hg : gst ops T gd = some true) [ht : Ty P t gt sz' bs zc]
    (hx : ev T x = some (.pointer (some ⟨b, i * sz + o, none⟩))) (hy : ev T y = some (.agg vs.toArray)) (h1 : oneAll vs = true) (hn : vs.length = sz') [_hb : Has A b (cl (rows.flatten ++ spare) E)] (hr : RowsOk sz rows) (hi : rows[i]? = some r) [hs : SetS r o vs r']
    [hu : Upd A b (cl (rows.flatten ++ spare) E) (cl ((rows.set i r').flatten ++ spare) E) A'] (hp : Pd P N B ops m T none (fun _ X => X = A'))
    (k : Ops P N B Q ops m.tl l T A') : Ops P N B Q ops m (⟨none, .store t x y, ty, pos, af, gd⟩ :: l) T A :=
  Ops.unit hm hp hg (fun a w hF hS => by
    obtain ⟨A1, A2, rfl, rfl⟩ := hu.put
    have hlt := (List.getElem?_eq_some_iff.1 hi).1
    have hlr := (hr r (List.mem_of_getElem? hi)).1
    have hso := hs.eq.2
    have hfit : i * sz + o + vs.length ≤ (rows.flatten ++ spare).length := by
      have h2 : (i + 1) * sz ≤ rows.length * sz := Nat.mul_le_mul_right _ hlt
      rw [List.length_append, hr.len]
      rw [Nat.add_mul, Nat.one_mul] at h2
      omega
    obtain ⟨w', hr', hS'⟩ := run_storeAt (P := P) hS ht (v := .agg vs.toArray) rfl hn (off := i * sz + o) (oneAll_mem h1) hfit
    refine ⟨w', by simp [execOp, hF.eval hx, hF.eval hy, hr'], ?_⟩
    rw [rows_setN hr hi hs] at hS'
    exact hS') k
end
instance (priority := 600) RemL.both {A A1 A2 G1 G2 : List Blk} [h : RemL A G1 A1] [k : RemL A1 G2 A2] : RemL A (G1 ++ G2) A2 := ⟨h.perm.trans (by rw [List.append_assoc]; exact k.perm.append_left G1)⟩
/-- A contract beside other blocks; of blocks in another order. -/
theorem Con.beside {P : Program} {f : FuncId} {args : Array Value} {A F : List Blk} {R : Value → List Blk → Prop} (h : Con P f args A R) : Con P f args (A ++ F) fun v X => ∃ A', R v A' ∧ X = A' ++ F := fun B w hS =>
  (h.frame hS).mono fun _ _ ⟨v, A', he, hR, hS'⟩ => ⟨v, _, he, ⟨A', hR, rfl⟩, hS'⟩
theorem Con.permIn {P : Program} {f : FuncId} {args : Array Value} {A A2 : List Blk} {R : Value → List Blk → Prop} (h : Con P f args A R) (hp : A2.Perm A) : Con P f args A2 R := fun B w hS => h B w (hS.perm hp)
theorem Con.permOut {P : Program} {f : FuncId} {args : Array Value} {A : List Blk} {R R' : Value → List Blk → Prop} (h : Con P f args A R) (hr : ∀ v A', R v A' → ∃ A2, R' v A2 ∧ A'.Perm A2) : Con P f args A R' := fun B w hS =>
  (h B w hS).mono fun _ _ ⟨v, A', he, hR, hS'⟩ => by
    obtain ⟨A2, h2, hp⟩ := hr _ _ hR
    exact ⟨v, A2, he, h2, hS'.perm hp⟩
theorem ConB.beside {P : Program} {B0 : Base} {f : FuncId} {args : Array Value} {A F : List Blk} {R : Value → List Blk → Prop} (h : ConB P B0 f args A R) : ConB P B0 f args (A ++ F) fun v X => ∃ A', R v A' ∧ X = A' ++ F := fun B w hx hS =>
  (h.frame hx hS).mono fun _ _ ⟨v, A', he, hR, hS'⟩ => ⟨v, _, he, ⟨A', hR, rfl⟩, hS'⟩
theorem ConB.permIn {P : Program} {B0 : Base} {f : FuncId} {args : Array Value} {A A2 : List Blk} {R : Value → List Blk → Prop} (h : ConB P B0 f args A R) (hp : A2.Perm A) : ConB P B0 f args A2 R := fun B w hx hS => h B w hx (hS.perm hp)
theorem ConB.permOut {P : Program} {B0 : Base} {f : FuncId} {args : Array Value} {A : List Blk} {R R' : Value → List Blk → Prop} (h : ConB P B0 f args A R) (hr : ∀ v A', R v A' → ∃ A2, R' v A2 ∧ A'.Perm A2) : ConB P B0 f args A R' := fun B w hx hS =>
  (h B w hx hS).mono fun _ _ ⟨v, A', he, hR, hS'⟩ => by
    obtain ⟨A2, h2, hp⟩ := hr _ _ hR
    exact ⟨v, A2, he, h2, hS'.perm hp⟩
/-- Blocks that a callee only reads go over to its base. -/
def Holds (B0 : Base) (G : List Blk) : Prop := ∀ p ∈ G, B0.h p.1 = some p.2
theorem Con.lend {P : Program} {f : FuncId} {args : Array Value} {A1 G : List Blk} {R : Value → List Blk → Prop} (h : ∀ B0, Holds B0 G → ConB P B0 f args A1 R) : Con P f args (A1 ++ G) fun v X => ∃ A', R v A' ∧ X = A' ++ G := fun B w hS => by
  have hG : Holds (B.with G) G := fun p hp => by simp only [Base.with, find_of_mem hS.right.nodup hp]
  exact ((h (B.with G) hG) (B.with G) w (Ext.refl _) hS.frameIn).mono fun _ _ ⟨v, A', he, hR, hS'⟩ => ⟨v, _, he, ⟨A', hR, rfl⟩, hS.frameOut hS'⟩
theorem ConB.lend {P : Program} {B1 : Base} {f : FuncId} {args : Array Value} {A1 G : List Blk} {R : Value → List Blk → Prop} (h : ∀ B0, Ext B1 B0 → Holds B0 G → ConB P B0 f args A1 R) : ConB P B1 f args (A1 ++ G) fun v X => ∃ A', R v A' ∧ X = A' ++ G := fun B w hx hS => by
  have hG : Holds (B.with G) G := fun p hp => by simp only [Base.with, find_of_mem hS.right.nodup hp]
  exact ((h (B.with G) (hx.trans (Ext.with hS)) hG) (B.with G) w (Ext.refl _) hS.frameIn).mono fun _ _ ⟨v, A', he, hR, hS'⟩ => ⟨v, _, he, ⟨A', hR, rfl⟩, hS.frameOut hS'⟩
theorem Holds.cell {B0 : Base} {G : List Blk} (h : Holds B0 G) {g : Nat} {l : List Value} {E : TypeId} (hm : (g, cl l E) ∈ G) {o : Nat} {v : Value} (hv : l[o]? = some v) (A : List Blk) : Rd B0 A g o v := fun w hS =>
  (cell_of (hS.base g _ (h _ hm)) o).trans hv
theorem Ext.holds {B0 B1 : Base} {G : List Blk} (e : Ext B0 B1) (h : Holds B0 G) : Holds B1 G := fun p hp => e.h _ _ (h p hp)
section
variable {P : Program} {N : Fi} {B : Base} {Q : Exit → Act → World → Prop} {T : Tm} {A : List Blk} {ops : Array Oper} {l : List Oper}
variable {d : Nat} {ty : TypeId} {pos : String} {af : Array Edge} {m : Md} {gd : Option (Nat × Bool)}
/-- A call of a function value, where the contract speaks of a base. -/
theorem Ops.callVB {B0 : Base} {f : FuncId} {c : Operand} {fi ca : List Value} {xs : List Operand} {ats : Array TypeId} {vs : List Value} {A1 F : List Blk} {R : Value → List Blk → Prop} (h : ConB P B0 f (fi ++ vs ++ ca).toArray A1 R) (hx0 : Ext B0 B) (hm : m.eff = true) [hs : Split A A1 F] (hp : Pd P N B ops m T (some d) (CallR R F)) (hg : gst ops T gd = some true)
    (hc : ev T c = some (.func (.func f) fi.toArray ca.toArray)) [hf : FnOk P f] (hx : evs T xs = some vs) (hd : Nat.blt d N.n = true) (k : ∀ v A', R v A' → Ops P N B Q ops m.tl l ((d, v) :: T) (A' ++ F)) :
    Ops P N B Q ops m (⟨some d, .call { callee := .value c, args := xs.toArray, argTypes := ats }, ty, pos, af, gd⟩ :: l) T A :=
  Ops.effV hm hp hg hd (fun a w hF hS => by
    have : (execOp a.eval ⟨some d, .call { callee := .value c, args := xs.toArray, argTypes := ats }, ty, pos, af, gd⟩).run P w = .ok (.enter f (fi ++ vs ++ ca).toArray) w := by
      simp [execOp, resolve, hF.eval hc, Deferred.ofValue, invoke, run_callFunc hf, hF.evals hx]
    rw [this]
    exact (h.frame hx0 (hS.perm hs.perm)).mono fun e w' ⟨v, A', he, hR, hS'⟩ => ⟨v, _, he, ⟨A', hR, rfl⟩, hS'⟩) fun v X ⟨A', hR, hX⟩ => by rw [hX]; exact k v A' hR
/-- Some cells at a place that is reckoned: read, written. -/
theorem Ops.ldNE {t : TypeId} {x : Operand} {b off : Nat} {sz bs : Nat} {zc L : List Value} {E : TypeId} (r : List Value) (hm : m.rd false = true) (hg : gst ops T gd = some true) [ht : Ty P t true sz bs zc] (hx : ev T x = some (.pointer (some ⟨b, off, none⟩)))
    [hb : Has A b (cl L E)] (hr : ∀ j u, r[j]? = some u → L[off + j]? = some u) (hn : r.length = sz) (hd : Nat.blt d N.n = true) (k : Ops P N B Q ops m.tl l ((d, .agg r.toArray) :: T) A) : Ops P N B Q ops m (⟨some d, .load t x, ty, pos, af, gd⟩ :: l) T A :=
  Ops.readV hm hg hd (fun a w hF hS => by
    simp [execOp, hF.eval hx, run_loadAtN ht hn (fun j u hu => (cell_of (hS.here _ hb.mem) _).trans (hr j u hu))]) k
theorem Ops.stNE {t : TypeId} {x y : Operand} {b off : Nat} {gt : Bool} {sz bs : Nat} {zc L vs : List Value} {E : TypeId} {A' : List Blk} (L' : List Value) (hm : m.eff = true) (hg : gst ops T gd = some true) [ht : Ty P t gt sz bs zc]
    (hx : ev T x = some (.pointer (some ⟨b, off, none⟩))) (hy : ev T y = some (.agg vs.toArray)) (h1 : oneAll vs = true) (hn : vs.length = sz) [_hb : Has A b (cl L E)] (hs : ins L off vs = L') (hle : off + vs.length ≤ L.length)
    [hu : Upd A b (cl L E) (cl L' E) A'] (hp : Pd P N B ops m T none (fun _ X => X = A')) (k : Ops P N B Q ops m.tl l T A') : Ops P N B Q ops m (⟨none, .store t x y, ty, pos, af, gd⟩ :: l) T A :=
  Ops.unit hm hp hg (fun a w hF hS => by
    obtain ⟨A1, A2, rfl, rfl⟩ := hu.put
    obtain ⟨w', hr', hS'⟩ := run_storeAt (P := P) hS ht (v := .agg vs.toArray) rfl hn (off := off) (oneAll_mem h1) hle
    refine ⟨w', by simp [execOp, hF.eval hx, hF.eval hy, hr'], ?_⟩
    rw [hs] at hS'
    exact hS') k
theorem Still.ldNE {i dd t : Nat} {x : Operand} {b off : Nat} {sz bs : Nat} {zc L : List Value} {E : TypeId} (r : List Value) (ho : ops[i]? = some ⟨some dd, .load t x, ty, pos, af, gd⟩) (hg : gst ops T gd = some true) (hx : ev T x = some (.pointer (some ⟨b, off, none⟩)))
    [ht : Ty P t true sz bs zc] [hb : Has A b (cl L E)] (hr : ∀ j u, r[j]? = some u → L[off + j]? = some u) (hn : r.length = sz) (hl : look T dd = some (.agg r.toArray)) : Still P N B ops T A i :=
  ⟨_, dd, _, ho, rfl, hl, fun a w hF hS => .inl ⟨gst_wanted (o := ⟨some dd, .load t x, ty, pos, af, gd⟩) hF hg, by
    simp [execOp, hF.eval hx, run_loadAtN ht hn (fun j u hu => (cell_of (hS.here _ hb.mem) _).trans (hr j u hu))]⟩⟩
end
end Go.Sep
