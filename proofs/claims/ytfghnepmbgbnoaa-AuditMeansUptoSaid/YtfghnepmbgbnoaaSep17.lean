import Derived.Test.YtfghnepmbgbnoaaSepM
/- A structure that lies amid a block (a row of a slice): its cells read and written by their places behind its beginning. -/
namespace Go.Sep
open Go
set_option linter.unusedVariables false

theorem mid_at {pre r post : List Value} {x o : Nat} {v : Value} (hp : pre.length = x) (hv : r[o]? = some v) : (pre ++ (r ++ post))[x + o]? = some v := by
  subst hp
  have ho := (List.getElem?_eq_some_iff.1 hv).1
  rw [List.getElem?_append_right (by omega), Nat.add_sub_cancel_left, List.getElem?_append_left ho, hv]

section
variable {P : Program} {N : Fi} {B : Base} {Q : Exit → Act → World → Prop} {T : Tm} {A : List Blk} {ops : Array Oper} {l : List Oper}
variable {d : Nat} {op : Op} {ty : TypeId} {pos : String} {af : Array Edge} {m : Md} {gd : Option (Nat × Bool)}

/-- A field of a field: the places are put together. -/
theorem Ops.faM {s f : Nat} {y : Operand} {b x o off n : Nat} (hm : m.rd true = true) (hg : gst ops T gd = some true) [hf : FOff P s f off n] (hx : ev T y = some (.pointer (some ⟨b, x + o, none⟩))) (hd : Nat.blt d N.n = true)
    (k : Ops P N B Q ops m.tl l ((d, .pointer (some ⟨b, x + (o + off), none⟩)) :: T) A) : Ops P N B Q ops m (⟨some d, .fieldAddr s y f, ty, pos, af, gd⟩ :: l) T A :=
  Ops.fa (n := n) hm hg hx hd (by rw [Nat.add_assoc]; exact k)

/-- One cell is read. -/
theorem Ops.ldM {t : TypeId} {y : Operand} {b x o : Nat} {sz' bs : Nat} {zc r pre post : List Value} {E : TypeId} {v : Value} (hm : m.rd false = true) (hg : gst ops T gd = some true) [ht : Ty P t false sz' bs zc]
    (hx : ev T y = some (.pointer (some ⟨b, x + o, none⟩))) [hb : Has A b (cl (pre ++ (r ++ post)) E)] (hp : pre.length = x) (hv : r[o]? = some v) (hd : Nat.blt d N.n = true)
    (k : Ops P N B Q ops m.tl l ((d, v) :: T) A) : Ops P N B Q ops m (⟨some d, .load t y, ty, pos, af, gd⟩ :: l) T A :=
  Ops.readV hm hg hd (fun a w hF hS => by
    have hc : w.cell? ⟨b, x + o, none⟩ = some v := (cell_of (hS.here _ hb.mem) _).trans (mid_at hp hv)
    simp [execOp, hF.eval hx, run_loadAt1 ht hc]) k

/-- Some cells are read. -/
theorem Ops.ldMN {t : TypeId} {y : Operand} {b x o : Nat} {sz bs : Nat} {zc r r' pre post : List Value} {E : TypeId} (hm : m.rd false = true) (hg : gst ops T gd = some true) [ht : Ty P t true sz bs zc]
    (hx : ev T y = some (.pointer (some ⟨b, x + o, none⟩))) [hb : Has A b (cl (pre ++ (r ++ post)) E)] (hp : pre.length = x) [hr : GetS r o sz r'] (hd : Nat.blt d N.n = true)
    (k : Ops P N B Q ops m.tl l ((d, .agg r'.toArray) :: T) A) : Ops P N B Q ops m (⟨some d, .load t y, ty, pos, af, gd⟩ :: l) T A :=
  Ops.readV hm hg hd (fun a w hF hS => by
    have hc : ∀ (j : Nat) (u : Value), r'[j]? = some u → w.cell? ⟨b, x + o + j, none⟩ = some u := fun j u hu => by
      rw [Nat.add_assoc]
      exact (cell_of (hS.here _ hb.mem) _).trans (mid_at hp (getS_at hr j u hu))
    simp [execOp, hF.eval hx, run_loadAtN ht (getS_len hr) hc]) k

/-- Reads that are owed. -/
theorem Still.ldM {i dd t : Nat} {y : Operand} {b x o : Nat} {sz' bs : Nat} {zc r pre post : List Value} {E : TypeId} {v : Value} (ho : ops[i]? = some ⟨some dd, .load t y, ty, pos, af, gd⟩) (hg : gst ops T gd = some true) (hx : ev T y = some (.pointer (some ⟨b, x + o, none⟩)))
    [ht : Ty P t false sz' bs zc] [hb : Has A b (cl (pre ++ (r ++ post)) E)] (hp : pre.length = x) (hv : r[o]? = some v) (hl : look T dd = some v) : Still P N B ops T A i :=
  ⟨_, dd, v, ho, rfl, hl, fun a w hF hS => .inl ⟨gst_wanted (o := ⟨some dd, .load t y, ty, pos, af, gd⟩) hF hg, by
    have hc : w.cell? ⟨b, x + o, none⟩ = some v := (cell_of (hS.here _ hb.mem) _).trans (mid_at hp hv)
    simp [execOp, hF.eval hx, run_loadAt1 ht hc]⟩⟩
theorem Still.ldMN {i dd t : Nat} {y : Operand} {b x o : Nat} {sz bs : Nat} {zc r r' pre post : List Value} {E : TypeId} (ho : ops[i]? = some ⟨some dd, .load t y, ty, pos, af, gd⟩) (hg : gst ops T gd = some true) (hx : ev T y = some (.pointer (some ⟨b, x + o, none⟩)))
    [ht : Ty P t true sz bs zc] [hb : Has A b (cl (pre ++ (r ++ post)) E)] (hp : pre.length = x) [hr : GetS r o sz r'] (hl : look T dd = some (.agg r'.toArray)) : Still P N B ops T A i :=
  ⟨_, dd, _, ho, rfl, hl, fun a w hF hS => .inl ⟨gst_wanted (o := ⟨some dd, .load t y, ty, pos, af, gd⟩) hF hg, by
    have hc : ∀ (j : Nat) (u : Value), r'[j]? = some u → w.cell? ⟨b, x + o + j, none⟩ = some u := fun j u hu => by
      rw [Nat.add_assoc]
      exact (cell_of (hS.here _ hb.mem) _).trans (mid_at hp (getS_at hr j u hu))
    simp [execOp, hF.eval hx, run_loadAtN ht (getS_len hr) hc]⟩⟩

/-- One cell is written. -/
theorem Ops.stM {t : TypeId} {y z : Operand} {b x o : Nat} {gt : Bool} {bs : Nat} {zc r r' pre post : List Value} {E : TypeId} {v : Value} {A' : List Blk} (hm : m.eff = true) (hg : gst ops T gd = some true) [ht : Ty P t gt 1 bs zc]
    (hx : ev T y = some (.pointer (some ⟨b, x + o, none⟩))) (hy : ev T z = some v) (h1 : v.oneCell' = true) [hb : Has A b (cl (pre ++ (r ++ post)) E)] (hp : pre.length = x) [hs : SetL r o v r']
    [hu : Upd A b (cl (pre ++ (r ++ post)) E) (cl (pre ++ (r' ++ post)) E) A'] (hpd : Pd P N B ops m T none (fun _ X => X = A')) (k : Ops P N B Q ops m.tl l T A') : Ops P N B Q ops m (⟨none, .store t y z, ty, pos, af, gd⟩ :: l) T A :=
  Ops.unit hm hpd hg (fun a w hF hS => by
    obtain ⟨A1, A2, rfl, rfl⟩ := hu.put
    have hc : v.cells = [v].toArray := by cases v <;> first | rfl | cases h1
    have ho := hs.eq.2
    subst hp
    obtain ⟨w', hr, hS'⟩ := run_storeAt (P := P) hS ht hc rfl (off := pre.length + o) (by simpa using h1) (by rw [List.length_append, List.length_append, List.length_singleton]; omega)
    refine ⟨w', by simp [execOp, hF.eval hx, hF.eval hy, hr], ?_⟩
    rw [ins_cons (by rw [List.length_append, List.length_append]; omega), ins_nil, List.set_append_right _ _ (by omega), Nat.add_sub_cancel_left, List.set_append_left _ _ ho, ← hs.eq.1] at hS'
    exact hS') k

theorem ins_mid {pre r post vs : List Value} {o : Nat} (h : o + vs.length ≤ r.length) : ins (pre ++ (r ++ post)) (pre.length + o) vs = pre ++ (ins r o vs ++ post) := by
  rw [← ins_left h]
  unfold ins
  rw [List.take_append, List.take_of_length_le (by omega), Nat.add_sub_cancel_left, Nat.add_assoc, List.drop_append, List.drop_eq_nil_of_le (by omega), Nat.add_sub_cancel_left]
  simp
/-- Some cells are written. -/
theorem Ops.stMN {t : TypeId} {y z : Operand} {b x o : Nat} {gt : Bool} {sz bs : Nat} {zc r r' vs pre post : List Value} {E : TypeId} {A' : List Blk} (hm : m.eff = true) (hg : gst ops T gd = some true) [ht : Ty P t gt sz bs zc]
    (hx : ev T y = some (.pointer (some ⟨b, x + o, none⟩))) (hy : ev T z = some (.agg vs.toArray)) (h1 : oneAll vs = true) (hn : vs.length = sz) [hb : Has A b (cl (pre ++ (r ++ post)) E)] (hp : pre.length = x) [hs : SetS r o vs r']
    [hu : Upd A b (cl (pre ++ (r ++ post)) E) (cl (pre ++ (r' ++ post)) E) A'] (hpd : Pd P N B ops m T none (fun _ X => X = A')) (k : Ops P N B Q ops m.tl l T A') : Ops P N B Q ops m (⟨none, .store t y z, ty, pos, af, gd⟩ :: l) T A :=
  Ops.unit hm hpd hg (fun a w hF hS => by
    obtain ⟨A1, A2, rfl, rfl⟩ := hu.put
    have hfit := hs.eq.2
    subst hp
    obtain ⟨w', hr, hS'⟩ := run_storeAt (P := P) hS ht (v := .agg vs.toArray) (vs := vs) rfl hn (off := pre.length + o) (oneAll_mem h1) (by rw [List.length_append, List.length_append]; omega)
    refine ⟨w', by simp [execOp, hF.eval hx, hF.eval hy, hr], ?_⟩
    rw [ins_mid hfit] at hS'
    rw [show r' = ins r o vs from hs.eq.1]
    exact hS') k
end
/-- A row of a slice, amid its block. -/
theorem rows_mid {rows : List (List Value)} {spare r : List Value} {j : Nat} (h : rows[j]? = some r) : rows.flatten ++ spare = (rows.take j).flatten ++ (r ++ ((rows.drop (j + 1)).flatten ++ spare)) := by
  obtain ⟨hj, rfl⟩ := List.getElem?_eq_some_iff.1 h
  have e := List.take_append_drop j rows
  rw [List.drop_eq_getElem_cons hj] at e
  conv => lhs; rw [← e]
  simp only [List.flatten_append, List.flatten_cons, List.append_assoc]
theorem rows_mid_set {rows : List (List Value)} {spare r : List Value} {j : Nat} (hj : j < rows.length) : (rows.take j).flatten ++ (r ++ ((rows.drop (j + 1)).flatten ++ spare)) = (rows.set j r).flatten ++ spare := by
  rw [List.set_eq_take_append_cons_drop, if_pos hj]
  simp only [List.flatten_append, List.flatten_cons, List.append_assoc]
theorem rows_mid_len {sz : Nat} {rows : List (List Value)} (h : RowsOk sz rows) {j : Nat} (hj : j ≤ rows.length) : (rows.take j).flatten.length = j * sz := by
  have : RowsOk sz (rows.take j) := fun r hr => h r (List.mem_of_mem_take hr)
  rw [this.len, List.length_take, Nat.min_eq_left hj]
end Go.Sep
