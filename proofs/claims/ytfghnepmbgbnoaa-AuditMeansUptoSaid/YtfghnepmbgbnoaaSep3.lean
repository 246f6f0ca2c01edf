import Derived.Test.YtfghnepmbgbnoaaSep2
namespace Go.Sep
open Go

theorem add_none (b off i : Nat) : (⟨b, off, none⟩ : Addr).add i = ⟨b, off + i, none⟩ := by
  unfold Addr.add; split
  · simp [*]
  · rfl

theorem cell_of {w : World} {b : Nat} {l : List Value} {E : TypeId} (h : w.heap[b]? = some (cl l E)) (off : Nat) : w.cell? ⟨b, off, none⟩ = l[off]? := by
  simp [World.cell?, h, cl]

theorem frozen_of {w : World} {b : Nat} {l : List Value} {E : TypeId} (h : w.heap[b]? = some (cl l E)) (off : Nat) : w.frozen? ⟨b, off, none⟩ = false := by
  simp [World.frozen?, h, cl]

theorem Sat.has {B : Base} {A : List Blk} {w : World} (h : Sat B A w) {b : Nat} {o : Obj} [k : Has A b o] : w.heap[b]? = some o := h.here _ k.mem

section
variable {P : Program}

theorem run_loadCellsFrom {w : World} {b off : Nat} (vs : List Value) : ∀ (i : Nat) (acc : Array Value),
    (∀ j u, vs[j]? = some u → w.cell? ⟨b, off + i + j, none⟩ = some u) → (loadCellsFrom ⟨b, off, none⟩ i vs.length acc).run P w = .ok (acc ++ vs.toArray) w := by
  induction vs with
  | nil => intro i acc _; simp [loadCellsFrom]
  | cons v vs ih =>
    intro i acc h
    have h0 := h 0 v rfl
    simp only [Nat.add_zero] at h0
    have ih' := ih (i + 1) (acc.push v) fun j u hu => by
      have := h (j + 1) u (by simpa using hu)
      rwa [show off + (i + 1) + j = off + i + (j + 1) from by omega]
    simp only [List.length_cons, loadCellsFrom, Sem.run_bind, add_none, run_load, h0, Result.andThen_ok]
    rw [ih']
    simp

theorem run_loadCells {w : World} {b off n : Nat} {vs : List Value} (hn : vs.length = n) (h : ∀ j u, vs[j]? = some u → w.cell? ⟨b, off + j, none⟩ = some u) :
    (loadCells ⟨b, off, none⟩ n).run P w = .ok vs.toArray w := by
  subst hn
  have := run_loadCellsFrom (P := P) (w := w) (b := b) (off := off) vs 0 #[] (by simpa using h)
  simpa [loadCells] using this

theorem run_loadAt1 {w : World} {t : TypeId} {sz bs : Nat} {zc : List Value} (ht : Ty P t false sz bs zc) {a : Addr} {v : Value} (hc : w.cell? a = some v) :
    (Instr.loadAt t (.pointer (some a))).run P w = .ok v w := by
  simp [Instr.loadAt, Instr.sureAddr, loadVar, ht.run_isAgg, hc]

theorem run_loadAtN {w : World} {t : TypeId} {sz bs : Nat} {zc : List Value} (ht : Ty P t true sz bs zc) {b off : Nat} {vs : List Value} (hn : vs.length = sz)
    (h : ∀ j u, vs[j]? = some u → w.cell? ⟨b, off + j, none⟩ = some u) :
    (Instr.loadAt t (.pointer (some ⟨b, off, none⟩))).run P w = .ok (.agg vs.toArray) w := by
  simp [Instr.loadAt, Instr.sureAddr, loadVar, ht.run_isAgg, ht.run_size, run_loadCells hn h]

/-- Some cells of a row are written over. -/
def ins (l : List Value) (off : Nat) (vs : List Value) : List Value := l.take off ++ vs ++ l.drop (off + vs.length)

theorem ins_nil (l : List Value) (off : Nat) : ins l off [] = l := by simp [ins]
theorem ins_length {l : List Value} {off : Nat} {vs : List Value} (h : off + vs.length ≤ l.length) : (ins l off vs).length = l.length := by
  simp [ins]; omega
theorem ins_cons {l : List Value} {off : Nat} {v : Value} {vs : List Value} (h : off < l.length) : ins l off (v :: vs) = ins (l.set off v) (off + 1) vs := by
  have e1 : (l.set off v).take (off + 1) = l.take off ++ [v] := by
    rw [List.set_eq_take_append_cons_drop, if_pos h, List.take_append, List.take_take, Nat.min_eq_right (by omega), List.length_take,
      show off + 1 - min off l.length = 1 from by omega]
    rfl
  have e2 : (l.set off v).drop (off + 1 + vs.length) = l.drop (off + 1 + vs.length) := List.drop_set_of_lt (by omega)
  unfold ins
  rw [e1, e2, List.length_cons, show off + (vs.length + 1) = off + 1 + vs.length from by omega]
  simp

theorem Sat.store1 {B : Base} {A1 A2 : List Blk} {b : Nat} {l : List Value} {E : TypeId} {w : World} (h : Sat B (A1 ++ (b, cl l E) :: A2) w) (off : Nat) (v : Value) :
    Sat B (A1 ++ (b, cl (l.set off v) E) :: A2) (w.setCell ⟨b, off, none⟩ v) := by
  have hb := h.here (b, cl l E) (List.mem_append_right _ (List.mem_cons_self ..))
  refine h.put rfl rfl rfl ?_ fun n hn => ?_
  · simp only [cl] at hb ⊢
    simp [World.setCell, Array.getElem?_modify, hb]
  · simp [World.setCell, Array.getElem?_modify, Ne.symm hn]

theorem run_store1 {B : Base} {A1 A2 : List Blk} {b : Nat} {l : List Value} {E : TypeId} {w : World} (h : Sat B (A1 ++ (b, cl l E) :: A2) w) {off : Nat} {v : Value} (hv : v.oneCell' = true)
    (hoff : off < l.length) : (store ⟨b, off, none⟩ v).run P w = .ok () (w.setCell ⟨b, off, none⟩ v) := by
  have hb := h.here (b, cl l E) (List.mem_append_right _ (List.mem_cons_self ..))
  rw [run_store P w _ v .plain hv, cell_of hb, frozen_of hb, List.getElem?_eq_getElem hoff]
  rfl

theorem run_storeCells {B : Base} {A1 A2 : List Blk} {b : Nat} {E : TypeId} {off : Nat} (vs : List Value) : ∀ (i : Nat) (l : List Value) (w : World), Sat B (A1 ++ (b, cl l E) :: A2) w →
    (∀ u ∈ vs, u.oneCell' = true) → off + i + vs.length ≤ l.length →
    ∃ w', (storeCells ⟨b, off, none⟩ vs i).run P w = .ok () w' ∧ Sat B (A1 ++ (b, cl (ins l (off + i) vs) E) :: A2) w' := by
  induction vs with
  | nil => intro i l w h _ _; exact ⟨w, by simp [storeCells], by rw [ins_nil]; exact h⟩
  | cons v vs ih =>
    intro i l w h h1 hlen
    simp only [List.length_cons] at hlen
    obtain ⟨w', hr, hS⟩ := ih (i + 1) (l.set (off + i) v) _ (h.store1 (off + i) v) (fun u hu => h1 u (List.mem_cons_of_mem _ hu)) (by simp; omega)
    refine ⟨w', ?_, ?_⟩
    · simp only [storeCells, Sem.run_bind, add_none]
      rw [run_store1 h (h1 v (List.mem_cons_self ..)) (by omega)]
      simpa using hr
    · rw [ins_cons (by omega)]; exact hS

theorem run_storeAt {B : Base} {A1 A2 : List Blk} {b : Nat} {l : List Value} {E : TypeId} {w : World} (h : Sat B (A1 ++ (b, cl l E) :: A2) w) {t : TypeId} {g : Bool} {sz bs : Nat} {zc : List Value}
    (ht : Ty P t g sz bs zc) {v : Value} {vs : List Value} (hv : v.cells = vs.toArray) (hn : vs.length = sz) {off : Nat} (h1 : ∀ u ∈ vs, u.oneCell' = true) (hlen : off + vs.length ≤ l.length) :
    ∃ w', (Instr.storeAt t (.pointer (some ⟨b, off, none⟩)) v).run P w = .ok () w' ∧ Sat B (A1 ++ (b, cl (ins l off vs) E) :: A2) w' := by
  obtain ⟨w', hr, hS⟩ := run_storeCells (P := P) (off := off) vs 0 l w h h1 (by simpa using hlen)
  refine ⟨w', ?_, hS⟩
  simp [Instr.storeAt, Instr.sureAddr, storeVar, hv, hn, ht.run_size]
  exact hr
end

/-- What '==' and the like give, whatever stands in memory. -/
class BinRun (P : Program) (op : BinOp) (t : TypeId) (x y : Value) (v : outParam Value) : Prop where
  run : ∀ (xo yo : Operand) (w : World), (do eqGuard op t xo yo x y; binOp op t x y : Sem Value).run P w = .ok v w

section
variable {P : Program} {t : TypeId} {k : IntKind} {a b : Int}
instance (priority := 400) BinRun.add : BinRun P .add t (.int k a) (.int k b) (.int k (k.wrap (a + b))) := ⟨fun _ _ w => by simp [eqGuard, binOp, Op.intArith]⟩
instance (priority := 400) BinRun.sub : BinRun P .sub t (.int k a) (.int k b) (.int k (k.wrap (a - b))) := ⟨fun _ _ w => by simp [eqGuard, binOp, Op.intArith]⟩
instance (priority := 400) BinRun.mul : BinRun P .mul t (.int k a) (.int k b) (.int k (k.wrap (a * b))) := ⟨fun _ _ w => by simp [eqGuard, binOp, Op.intArith]⟩
instance BinRun.lss : BinRun P .lss t (.int k a) (.int k b) (.bool (decide (a < b))) := ⟨fun _ _ w => by simp [eqGuard, binOp, Op.intCmp]⟩
instance BinRun.leq : BinRun P .leq t (.int k a) (.int k b) (.bool (decide (a ≤ b))) := ⟨fun _ _ w => by simp [eqGuard, binOp, Op.intCmp]⟩
instance BinRun.gtr : BinRun P .gtr t (.int k a) (.int k b) (.bool (decide (b < a))) := ⟨fun _ _ w => by simp [eqGuard, binOp, Op.intCmp]⟩
instance BinRun.geq : BinRun P .geq t (.int k a) (.int k b) (.bool (decide (b ≤ a))) := ⟨fun _ _ w => by simp [eqGuard, binOp, Op.intCmp]⟩
instance BinRun.eqlI : BinRun P .eql t (.int k a) (.int k b) (.bool (decide (a = b))) := ⟨fun _ _ w => by simp [eqGuard, binOp, Op.intCmp]; rfl⟩
instance BinRun.neqI : BinRun P .neq t (.int k a) (.int k b) (.bool (!decide (a = b))) := ⟨fun _ _ w => by simp [eqGuard, binOp, Op.intCmp]; rfl⟩
theorem list_beq (s u : ByteArray) : (s.toList == u.toList) = decide (s = u) := by
  rw [Bool.eq_iff_iff]
  simp only [beq_iff_eq, decide_eq_true_eq]
  constructor
  · intro h
    rw [ByteArray.toList_eq, ByteArray.toList_eq] at h
    cases s; cases u
    simp only [ByteArray.mk.injEq]
    exact Array.toList_inj.1 h
  · rintro rfl; rfl
instance BinRun.eqlS {s u : ByteArray} : BinRun P .eql t (.string s) (.string u) (.bool (decide (s = u))) := ⟨fun _ _ w => by simp [eqGuard, binOp, Op.stringOp, list_beq]⟩
instance (priority := 2000) BinRun.eqlSS {s : ByteArray} : BinRun P .eql t (.string s) (.string s) (.bool true) := ⟨fun _ _ w => by simp [eqGuard, binOp, Op.stringOp]⟩
instance (priority := 2000) BinRun.neqSS {s : ByteArray} : BinRun P .neq t (.string s) (.string s) (.bool false) := ⟨fun _ _ w => by simp [eqGuard, binOp, Op.stringOp]⟩
instance BinRun.neqS {s u : ByteArray} : BinRun P .neq t (.string s) (.string u) (.bool (!decide (s = u))) := ⟨fun _ _ w => by simp [eqGuard, binOp, Op.stringOp, list_beq]⟩
end
end Go.Sep
