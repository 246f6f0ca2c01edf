import Derived.Test.YtfghnepmbgbnoaaSep6
/- Slices of slices; append within one block; clear; append of another slice's rows. -/
namespace Go.Sep
open Go

/-- Where x[l:] begins, x over block g from its head with so much room. -/
def slA (g cap l sz : Nat) : Addr := if cap = l then ⟨g, 0, none⟩ else ⟨g, l * sz, none⟩

theorem slA_eq {g cap l sz : Nat} : (if cap = l then some (⟨g, 0, none⟩ : Addr) else some ((⟨g, 0, none⟩ : Addr).add (l * sz))) = some (slA g cap l sz) := by
  unfold slA; split
  · rfl
  · simp [add_none]

theorem run_bound {P : Program} {w : World} {k : IntKind} {i : Int} {y : Nat} {code : BoundsCode} (h0 : 0 ≤ i) (h1 : i ≤ y) : (Instr.sliceBound (.int k i) y code).run P w = .ok i.toNat w := by
  simp [Instr.sliceBound, asIntOf, h0, h1]

section
variable {P : Program} {N : Fi} {B : Base} {Q : Exit → Act → World → Prop} {T : Tm} {A : List Blk} {ops : Array Oper} {l : List Oper}
variable {d : Nat} {ty : TypeId} {pos : String} {af : Array Edge} {m : Md} {gd : Option (Nat × Bool)}

theorem Ops.slLo {t e : TypeId} {ge : Bool} {x y : Operand} {sz bs g n c : Nat} {zc : List Value} {k' : IntKind} {i : Int} (hm : m.rd true = true) (hg : gst ops T gd = some true) [ht : TyD P t (.slice e)] [he : Ty P e ge sz bs zc]
    (hx : ev T x = some (.slice (some ⟨g, 0, none⟩) n c)) (hy : ev T y = some (.int k' i)) (h0 : 0 ≤ i) (h1 : i ≤ n) (hd : Nat.blt d N.n = true)
    (k : Ops P N B Q ops m.tl l ((d, .slice (some (slA g c i.toNat sz)) (n - i.toNat) (c - i.toNat)) :: T) A) : Ops P N B Q ops m (⟨some d, .slice t x (some y) none none, ty, pos, af, gd⟩ :: l) T A :=
  Ops.pureV hm hg hd (fun a w hF => by
    have := slA_eq (g := g) (cap := c) (l := i.toNat) (sz := sz)
    simp only [execOp, hF.eval hx, hF.eval hy, Option.map_some, Option.map_none, Instr.sliceAt, Instr.slice, ht.run_und, Instr.sliceBounds, run_bound h0 h1, he.run_size, Sem.run_bind, Sem.run_pure, Result.andThen_ok, Option.isSome_none, Bool.false_eq_true, if_false, this]) k

theorem Ops.slHi {t e : TypeId} {ge : Bool} {x y : Operand} {sz bs n c : Nat} {a0 : Option Addr} {zc : List Value} {k' : IntKind} {i : Int} (hm : m.rd true = true) (hg : gst ops T gd = some true) [ht : TyD P t (.slice e)] [he : Ty P e ge sz bs zc]
    (hx : ev T x = some (.slice a0 n c)) (hy : ev T y = some (.int k' i)) (h0 : 0 ≤ i) (h1 : i ≤ c) (hd : Nat.blt d N.n = true)
    (k : Ops P N B Q ops m.tl l ((d, .slice a0 i.toNat c) :: T) A) : Ops P N B Q ops m (⟨some d, .slice t x none (some y) none, ty, pos, af, gd⟩ :: l) T A :=
  Ops.pureV hm hg hd (fun a w hF => by
    have e0 : (if c = 0 then a0 else a0.map (·.add (0 * sz))) = a0 := by
      split
      · rfl
      · cases a0 <;> simp [Addr.add]
    simp only [execOp, hF.eval hx, hF.eval hy, Option.map_some, Option.map_none, Instr.sliceAt, Instr.slice, ht.run_und, Instr.sliceBounds, if_true, run_bound h0 h1, he.run_size, Sem.run_bind, Sem.run_pure, Result.andThen_ok, e0, Nat.sub_zero]) k

theorem Ops.slLH {t e : TypeId} {ge : Bool} {x y z : Operand} {sz bs g n c : Nat} {zc : List Value} {k' k'' : IntKind} {i j : Int} (hm : m.rd true = true) (hg : gst ops T gd = some true) [ht : TyD P t (.slice e)] [he : Ty P e ge sz bs zc]
    (hx : ev T x = some (.slice (some ⟨g, 0, none⟩) n c)) (hy : ev T y = some (.int k' i)) (hz : ev T z = some (.int k'' j)) (h0 : 0 ≤ i) (h1 : i ≤ j) (h2 : j ≤ c) (hd : Nat.blt d N.n = true)
    (k : Ops P N B Q ops m.tl l ((d, .slice (some (slA g c i.toNat sz)) (j.toNat - i.toNat) (c - i.toNat)) :: T) A) : Ops P N B Q ops m (⟨some d, .slice t x (some y) (some z) none, ty, pos, af, gd⟩ :: l) T A :=
  Ops.pureV hm hg hd (fun a w hF => by
    have := slA_eq (g := g) (cap := c) (l := i.toNat) (sz := sz)
    simp only [execOp, hF.eval hx, hF.eval hy, hF.eval hz, Option.map_some, Option.map_none, Instr.sliceAt, Instr.slice, ht.run_und, Instr.sliceBounds, run_bound (show 0 ≤ j by omega) h2, run_bound h0 (show i ≤ (j.toNat : Int) by omega), if_true, Option.isSome_none, Bool.false_eq_true, if_false, he.run_size, Sem.run_bind, Sem.run_pure, Result.andThen_ok, this]) k

theorem Ops.sl3 {t e : TypeId} {ge : Bool} {x y z u : Operand} {sz bs n c : Nat} {a0 : Option Addr} {zc : List Value} {k1 k2 k3 : IntKind} {i j q : Int} (hm : m.rd true = true) (hg : gst ops T gd = some true) [ht : TyD P t (.slice e)] [he : Ty P e ge sz bs zc]
    (hx : ev T x = some (.slice a0 n c)) (hy : ev T y = some (.int k1 i)) (hz : ev T z = some (.int k2 j)) (hu : ev T u = some (.int k3 q)) (h0 : 0 ≤ i) (h1 : i ≤ j) (h2 : j ≤ q) (h3 : q ≤ c) (hd : Nat.blt d N.n = true)
    (k : Ops P N B Q ops m.tl l ((d, .slice (if q.toNat = i.toNat then a0 else a0.map (·.add (i.toNat * sz))) (j.toNat - i.toNat) (q.toNat - i.toNat)) :: T) A) : Ops P N B Q ops m (⟨some d, .slice t x (some y) (some z) (some u), ty, pos, af, gd⟩ :: l) T A :=
  Ops.pureV hm hg hd (fun a w hF => by
    simp only [execOp, hF.eval hx, hF.eval hy, hF.eval hz, hF.eval hu, Option.map_some, Instr.sliceAt, Instr.slice, ht.run_und, Instr.sliceBounds, run_bound (show 0 ≤ q by omega) h3, run_bound (show 0 ≤ j by omega) (show j ≤ (q.toNat : Int) by omega), run_bound h0 (show i ≤ (j.toNat : Int) by omega), if_true, Option.isSome_some, he.run_size, Sem.run_bind, Sem.run_pure, Result.andThen_ok]) k

/-- A slice against nil. -/
theorem run_eqGuard_slice {P : Program} {op : BinOp} {t : TypeId} {xo yo : Operand} {a b : Option Addr} {n c n' c' : Nat} {w : World} : (eqGuard op t xo yo (.slice a n c) (.slice b n' c')).run P w = .ok () w := by
  unfold eqGuard; cases op <;> rfl

theorem firstCells_slA {w : World} {g c j sz k cc : Nat} {L : List Value} {E : TypeId} (hb : w.heap[g]? = some (cl L E)) (hL : L.length = c * sz) (hk : j + k ≤ c) :
    (Builtin.firstCells sz k (.slice (some (slA g c j sz)) k cc)).run P w = .ok ((L.drop (j * sz)).take (k * sz)).toArray w := by
  have hle : j * sz + k * sz ≤ c * sz := by rw [← Nat.add_mul]; exact Nat.mul_le_mul_right _ hk
  simp only [Builtin.firstCells]
  unfold slA
  split
  · rename_i hcj
    have hk0 : k = 0 := by omega
    subst hk0
    simp [loadCells, loadCellsFrom]
  · exact run_loadCells (by simp; omega) fun i u hu => by
      have hi : i < k * sz := by
        have := (List.getElem?_eq_some_iff.1 hu).1
        simp at this; omega
      rw [List.getElem?_take_of_lt hi, List.getElem?_drop] at hu
      rw [cell_of hb]; exact hu

/-- append(x[:i], x[j:]..), where it fits: within one block. -/
theorem Ops.appIn {t e sz bs g c i j k' cc : Nat} {ge : Bool} {zc L : List Value} {x y : Operand} {A' : List Blk} (hm : m.eff = true) (hg : gst ops T gd = some true) [ht : TyD P t (.slice e)] [he : Ty P e ge sz bs zc]
    (hx : ev T x = some (.slice (some ⟨g, 0, none⟩) i c)) (hy : ev T y = some (.slice (some (slA g c j sz)) k' cc)) (hL : L.length = c * sz) (hik : i + k' ≤ c) (hjk : j + k' ≤ c) (hone : ∀ u ∈ (L.drop (j * sz)).take (k' * sz), u.oneCell' = true)
    [_hb : Has A g (cl L e)] [hu : Upd A g (cl L e) (cl (ins L (i * sz) ((L.drop (j * sz)).take (k' * sz))) e) A'] (hd : Nat.blt d N.n = true) (hp : Pd P N B ops m T (some d) (fun v X => v = .slice (some ⟨g, 0, none⟩) (i + k') c ∧ X = A'))
    (k : Ops P N B Q ops m.tl l ((d, .slice (some ⟨g, 0, none⟩) (i + k') c) :: T) A') :
    Ops P N B Q ops m (⟨some d, .call { callee := .builtin .append, args := #[x, y], argTypes := #[t, t] }, ty, pos, af, gd⟩ :: l) T A :=
  Ops.effV hm hp hg hd (fun a w hF hS => by
    obtain ⟨A1, A2, rfl, rfl⟩ := hu.put
    have hb := hS.here (g, cl L e) (List.mem_append_right _ (List.mem_cons_self ..))
    have h1 := firstCells_slA (P := P) (cc := cc) hb hL hjk
    have hle : j * sz + k' * sz ≤ c * sz := by rw [← Nat.add_mul]; exact Nat.mul_le_mul_right _ hjk
    have hle2 : i * sz + k' * sz ≤ c * sz := by rw [← Nat.add_mul]; exact Nat.mul_le_mul_right _ hik
    obtain ⟨w', hr, hS'⟩ := run_storeCells (P := P) (off := i * sz) ((L.drop (j * sz)).take (k' * sz)) 0 L w hS hone (by simp; omega)
    have h2 : (Builtin.append_ #[t, t] ty #[.slice (some ⟨g, 0, none⟩) i c, .slice (some (slA g c j sz)) k' cc]).run P w = .ok (.slice (some ⟨g, 0, none⟩) (i + k') c) w' := by
      simp [Builtin.append_, ht.run_und, he.run_size, Builtin.lenOf, hik, h1, add_none, hr]
    simp only [execOp, resolve, invoke, builtin, Sem.run_bind, Sem.run_pure, Result.andThen_ok, List.map_toArray, List.map_cons, List.map_nil, hF.eval hx, hF.eval hy, h2, effPost]
    exact ⟨_, ⟨trivial, rfl⟩, by simpa using hS'⟩) fun v X ⟨h1, h2⟩ => by rw [h1, h2]; exact k

/-- clear(x[i:j]). -/
theorem Ops.clr {t e sz bs g c i k' cc : Nat} {ge : Bool} {zc L : List Value} {x : Operand} {A' : List Blk} (hm : m.eff = true) (hg : gst ops T gd = some true) [ht : TyD P t (.slice e)] [he : Ty P e ge sz bs zc]
    (hx : ev T x = some (.slice (some (slA g c i sz)) k' cc)) (hL : L.length = c * sz) (hik : i + k' ≤ c) (hk0 : 0 < k') (hzc : zc.length = sz) (hone : oneAll zc = true)
    [_hb : Has A g (cl L e)] [hu : Upd A g (cl L e) (cl (ins L (i * sz) (List.replicate k' zc).flatten) e) A'] (hp : Pd P N B ops m T none (fun _ X => X = A'))
    (k : Ops P N B Q ops m.tl l T A') :
    Ops P N B Q ops m (⟨none, .call { callee := .builtin .clear, args := #[x], argTypes := #[t] }, ty, pos, af, gd⟩ :: l) T A :=
  Ops.effU hm hp hg (fun a w hF hS => by
    obtain ⟨A1, A2, rfl, rfl⟩ := hu.put
    have hz : (Builtin.zeroCells zc.toArray k').toList = (List.replicate k' zc).flatten := by
      apply List.ext_getElem?
      intro q
      have hlen : (List.replicate k' zc).flatten.length = k' * sz := by simp [hzc]
      rcases Nat.lt_or_ge q (k' * sz) with hq | hq
      · have h1 : RowsOk sz (List.replicate k' zc) := fun r hr => by rw [List.eq_of_mem_replicate hr]; exact ⟨hzc, hone⟩
        have hsz : 0 < sz := by
          rcases Nat.eq_zero_or_pos sz with h | h
          · subst h; omega
          · exact h
        have hdiv : q / sz < k' := (Nat.div_lt_iff_lt_mul hsz).2 hq
        have hmod : q % sz < sz := Nat.mod_lt _ hsz
        have h2 := h1.at_ (i := q / sz) (k := q % sz) (r := zc) (by simp [hdiv]) hmod
        rw [show q / sz * sz + q % sz = q from by rw [Nat.mul_comm]; exact Nat.div_add_mod q sz] at h2
        rw [h2]
        simp [Builtin.zeroCells, hzc, hq, hmod]
      · have hzl : (Builtin.zeroCells zc.toArray k').toList.length = k' * sz := by unfold Builtin.zeroCells; simp [hzc]
        rw [List.getElem?_eq_none (by omega), List.getElem?_eq_none (by omega)]
    have hone' : ∀ u ∈ (List.replicate k' zc).flatten, u.oneCell' = true := fun u hu => by
      obtain ⟨r, hr, hu⟩ := List.mem_flatten.1 hu
      rw [List.eq_of_mem_replicate hr] at hu
      exact oneAll_mem hone u hu
    have hci : c ≠ i := by omega
    have hle2 : i * sz + k' * sz ≤ c * sz := by rw [← Nat.add_mul]; exact Nat.mul_le_mul_right _ hik
    obtain ⟨w', hr, hS'⟩ := run_storeCells (P := P) (off := i * sz) (List.replicate k' zc).flatten 0 L w hS hone' (by simp [hzc]; omega)
    obtain ⟨z, hzr, hzz⟩ := he.run_zero (w := w)
    have h2 : (Builtin.clear_ #[t] ty #[.slice (some (slA g c i sz)) k' cc]).run P w = .ok (.tuple #[]) w' := by
      unfold slA
      rw [if_neg hci]
      obtain ⟨k2, rfl⟩ : ∃ k2, k' = k2 + 1 := ⟨k' - 1, by omega⟩
      simp [Builtin.clear_, ht.run_und, hzr, hzz, hz, hr]
    simp only [execOp, resolve, invoke, builtin, Sem.run_bind, Sem.run_pure, Result.andThen_ok, List.map_toArray, List.map_cons, List.map_nil, hF.eval hx, h2, effPost]
    exact ⟨_, rfl, by simpa using hS'⟩) fun v X hX => by rw [hX]; exact k
end

section
variable {P : Program} {t : TypeId}
theorem run_eql {x y : Value} {b : Bool} {w : World} (hb : binOp .eql t x y = (do pure (.bool (← Op.equal t x y)))) (h : ∀ d : Nat, (Op.equalIn (d + 1) t x y).run P w = .ok b w) : (binOp .eql t x y).run P w = .ok (.bool b) w := by
  have h9 : (Op.equal t x y).run P w = .ok b w := h 9999
  rw [hb, Sem.run_bind, h9]; rfl
theorem run_neq {x y : Value} {b : Bool} {w : World} (hb : binOp .neq t x y = (do pure (.bool (!(← Op.equal t x y))))) (h : ∀ d : Nat, (Op.equalIn (d + 1) t x y).run P w = .ok b w) : (binOp .neq t x y).run P w = .ok (.bool (!b)) w := by
  have h9 : (Op.equal t x y).run P w = .ok b w := h 9999
  rw [hb, Sem.run_bind, h9]; rfl
theorem eqIn_slNil {e : TypeId} [h : TyD P t (.slice e)] {a : Option Addr} {n c n' c' : Nat} {w : World} (d : Nat) : (Op.equalIn (d + 1) t (.slice a n c) (.slice none n' c')).run P w = .ok a.isNone w := by
  cases a <;> simp [Op.equalIn, h.run_und]
theorem eqIn_ptrNil {e : TypeId} [h : TyD P t (.pointer e)] {a : Option Addr} {w : World} (d : Nat) : (Op.equalIn (d + 1) t (.pointer a) (.pointer none)).run P w = .ok a.isNone w := by
  cases a <;> simp [Op.equalIn, h.run_und]
theorem eqIn_bool [h : TyD P t .bool] {a b : Bool} {w : World} (d : Nat) : (Op.equalIn (d + 1) t (.bool a) (.bool b)).run P w = .ok (a == b) w := by
  simp [Op.equalIn, h.run_und]
instance BinRun.eqSlNilL {e : TypeId} [h : TyD P t (.slice e)] {a : Option Addr} {n c n' c' : Nat} : BinRun P .eql t (.slice a n c) (.slice none n' c') (.bool a.isNone) := ⟨fun xo yo w => by
  rw [Sem.run_bind, run_eqGuard_slice, Result.andThen_ok]
  exact run_eql rfl fun d => eqIn_slNil d⟩
instance BinRun.neqSlNilL {e : TypeId} [h : TyD P t (.slice e)] {a : Option Addr} {n c n' c' : Nat} : BinRun P .neq t (.slice a n c) (.slice none n' c') (.bool (!a.isNone)) := ⟨fun xo yo w => by
  rw [Sem.run_bind, run_eqGuard_slice, Result.andThen_ok]
  exact run_neq rfl fun d => eqIn_slNil d⟩
theorem run_eqGuard_ptr {op : BinOp} {xo yo : Operand} {a b : Option Addr} {w : World} : (eqGuard op t xo yo (.pointer a) (.pointer b)).run P w = .ok () w := by
  unfold eqGuard; cases op <;> rfl
theorem run_eqGuard_bool {op : BinOp} {xo yo : Operand} {a b : Bool} {w : World} : (eqGuard op t xo yo (.bool a) (.bool b)).run P w = .ok () w := by
  unfold eqGuard; cases op <;> rfl
instance BinRun.eqPtrNil {e : TypeId} [h : TyD P t (.pointer e)] {a : Option Addr} : BinRun P .eql t (.pointer a) (.pointer none) (.bool a.isNone) := ⟨fun xo yo w => by
  rw [Sem.run_bind, run_eqGuard_ptr, Result.andThen_ok]
  exact run_eql (by cases a <;> rfl) fun d => eqIn_ptrNil d⟩
instance BinRun.nePtrNil {e : TypeId} [h : TyD P t (.pointer e)] {a : Option Addr} : BinRun P .neq t (.pointer a) (.pointer none) (.bool (!a.isNone)) := ⟨fun xo yo w => by
  rw [Sem.run_bind, run_eqGuard_ptr, Result.andThen_ok]
  exact run_neq (by cases a <;> rfl) fun d => eqIn_ptrNil d⟩
instance BinRun.eqBool [h : TyD P t .bool] {a b : Bool} : BinRun P .eql t (.bool a) (.bool b) (.bool (a == b)) := ⟨fun xo yo w => by
  rw [Sem.run_bind, run_eqGuard_bool, Result.andThen_ok]
  exact run_eql rfl fun d => eqIn_bool d⟩
instance BinRun.neBool [h : TyD P t .bool] {a b : Bool} : BinRun P .neq t (.bool a) (.bool b) (.bool (!(a == b))) := ⟨fun xo yo w => by
  rw [Sem.run_bind, run_eqGuard_bool, Result.andThen_ok]
  exact run_neq rfl fun d => eqIn_bool d⟩
end
end Go.Sep
