import Derived.Test.YtfghnepmbgbnoaaSep27
/- A slice of rows that the text has just built, of any number. -/
namespace Go.Sep
open Go

theorem fill_rows {sz : Nat} : ∀ (vs : List Value) (k : Nat) (done rest : List Value), (∀ v ∈ vs, v.cells.toList.length = sz) → done.length = k * sz → rest.length = vs.length * sz →
    Instr.fill (fun i => some (i * sz, sz)) (done ++ rest).toArray (vs.mapIdx fun i v => (k + i, v)) = some (done ++ (vs.map fun v => v.cells.toList).flatten).toArray
  | [], k, done, rest, _, _, h3 => by
    have : rest = [] := by cases rest with
      | nil => rfl
      | cons _ _ => simp at h3
    subst this
    simp [Instr.fill]
  | v :: vs, k, done, rest, h1, h2, h3 => by
    have hv := h1 v (List.mem_cons_self ..)
    rw [List.mapIdx_cons]
    have hle : sz ≤ rest.length := by rw [h3, List.length_cons, Nat.add_mul]; omega
    rw [fill_one (off := (k + 0) * sz) (size := sz) (vs := v.cells.toList) (by simp) (by simp) hv (by simp [h2, hv]; omega)]
    rw [Nat.add_zero, ← h2, ins_app, hv]
    have ih := fill_rows vs (k + 1) (done ++ v.cells.toList) (rest.drop sz) (fun u hu => h1 u (List.mem_cons_of_mem _ hu)) (by rw [List.length_append, h2, hv, Nat.add_mul]; omega) (by rw [List.length_drop, h3, List.length_cons, Nat.add_mul]; omega)
    rw [show (vs.mapIdx fun i v => (k + (i + 1), v)) = vs.mapIdx fun i v => (k + 1 + i, v) from by
      congr 1; funext i x; rw [show k + (i + 1) = k + 1 + i from by omega]]
    rw [ih]
    simp

section
variable {P : Program} {N : Fi} {B : Base} {Q : Exit → Act → World → Prop} {T : Tm} {A : List Blk} {ops : Array Oper} {l : List Oper}
variable {d : Nat} {ty : TypeId} {pos : String} {af : Array Edge} {m : Md} {gd : Option (Nat × Bool)}
theorem parts_eval {a : Act} {n : Nat} : ∀ (ps : List (Nat × Operand)) (vs : List Value) (k : Nat), ps.map (·.1) = (List.range ps.length).map (k + ·) → ps.map (fun p => a.eval p.2) = vs → ps.map (fun (i, x) => (i, a.eval x)) = vs.mapIdx fun i v => (k + i, v)
  | [], vs, k, _, h2 => by simp at h2; subst h2; rfl
  | (i, x) :: ps, vs, k, h1, h2 => by
    simp only [List.map_cons, List.length_cons, List.range_succ_eq_map, List.map_map, List.cons.injEq] at h1 h2
    subst h2
    rw [List.mapIdx_cons]
    have := parts_eval (a := a) (n := n) ps _ (k + 1) (by rw [h1.2]; apply List.map_congr_left; intro q _; simp; omega) rfl
    simp only [List.map_cons, h1.1]
    rw [this]
    congr 2
    funext j v
    rw [show k + 1 + j = k + (j + 1) from by omega]
theorem Ops.bsN {t e : TypeId} {ge : Bool} {sz' bs' n : Nat} {zc' vs : List Value} {ps : Array (Nat × Operand)} (rows : List (List Value)) (hm : m.eff = true) (hg : gst ops T gd = some true) [ht : TyD P t (.slice e)] [he : Ty P e ge sz' bs' zc']
    (hi : ps.toList.map (·.1) = List.range n) (hx : evs T (ps.toList.map (·.2)) = some vs) (hn : vs.length = n) (hr : (vs.map fun v => v.cells.toList) = rows) (hl : (rows.all fun r => r.length == sz') = true) (h0 : Nat.blt 0 (n * sz') = true) (hsz : Nat.ble (n * sz') 16777216 = true) (hd : Nat.blt d N.n = true)
    (hp : Pd P N B ops m T (some d) (NewR (fun b => .slice (some ⟨b, 0, none⟩) n n) (cl (rows.flatten ++ []) e) A)) (k : ∀ b, Ops P N B Q ops m.tl l ((d, .slice (some ⟨b, 0, none⟩) n n) :: T) ((b, cl (rows.flatten ++ []) e) :: A)) : Ops P N B Q ops m (⟨some d, .buildSlice t n ps, ty, pos, af, gd⟩ :: l) T A :=
  Ops.new (v := fun b => .slice (some ⟨b, 0, none⟩) n n) hm hp hg hd (fun a w hF hS => by
    obtain ⟨z, hz, hzc⟩ := he.run_zero (w := w)
    have h0' : ¬ n * sz' = 0 := by rw [Nat.blt_eq] at h0; omega
    have h1 : ¬ (16777216 < n * sz') := by rw [Nat.ble_eq] at hsz; omega
    have hlen : ps.toList.length = n := by have := congrArg List.length hi; simpa using this
    have hev : ps.toList.map (fun p => a.eval p.2) = vs := by have := hF.evals hx; rw [List.map_map] at this; exact this
    have hpe := parts_eval (a := a) (n := n) ps.toList vs 0 (by rw [hi, hlen]; simp) hev
    simp only [Nat.zero_add] at hpe
    have hsz2 : ∀ v ∈ vs, v.cells.toList.length = sz' := fun v hv => by
      have h2 := List.all_eq_true.1 hl v.cells.toList (by rw [← hr]; exact List.mem_map.2 ⟨v, hv, rfl⟩)
      simpa using h2
    have hf := fill_rows (sz := sz') vs 0 [] ((Array.range (n * sz')).map (fun i => z.cells[i % z.cells.size]!)).toList hsz2 (by simp) (by simp [hn])
    simp only [Nat.zero_add, List.nil_append, Array.toArray_toList] at hf
    have hpt : (ps.map fun (i, x) => (i, a.eval x)).toList = vs.mapIdx fun i v => (i, v) := by rw [Array.toList_map]; exact hpe
    simp only [execOp, Instr.buildSlice, ht.run_und, he.run_size, Sem.run_bind, Result.andThen_ok, Sem.run_pure, Sem.run_ite, gt_iff_lt, show (2:Nat)^24 = 16777216 from rfl, if_neg h1, h0', if_false, hz, hpt, hf, hr]
    simp [newRow, cl]) k
end
end Go.Sep
