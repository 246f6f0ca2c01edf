import Derived.Test.YtnmjdoaogdaehaaGreatA11
import Derived.Test.YtnmjdoaogdaehaaGreatA34
/- A slice of rows that the text has just built, of any number. -/
namespace Go.Sep
open Go
theorem fill_rows {sz : Nat} : ∀ (vs : List Value) (k : Nat) (done rest : List Value), (∀ v ∈ vs, v.cells.toList.length = sz) → done.length = k * sz → rest.length = vs.length * sz →
    Instr.fill (fun i => some (i * sz, sz)) (done ++ rest).toArray (vs.mapIdx fun i v => (k + i, v)) = some (done ++ (vs.map fun v => v.cells.toList).flatten).toArray
  | [], k, done, rest, _, _, h3 => by
    have : rest = [] := by cases rest with
      | nil => rfl
      | cons _ _ => simp at h3
    subst this
    simp [Instr.fill]
  | v :: vs, k, done, rest, h1, h2, h3 => by
    have hv := h1 v (List.mem_cons_self ..)
    rw [List.mapIdx_cons]
    have hle : sz ≤ rest.length := by rw [h3, List.length_cons, Nat.add_mul]; omega
    rw [fill_one (off := (k + 0) * sz) (size := sz) (vs := v.cells.toList) (by simp) (by simp) hv (by simp [h2, hv]; omega)]
    rw [Nat.add_zero, ← h2, ins_app, hv]
    have ih := fill_rows vs (k + 1) (done ++ v.cells.toList) (rest.drop sz) (fun u hu => h1 u (List.mem_cons_of_mem _ hu)) (by rw [List.length_append, h2, hv, Nat.add_mul]; omega) (by rw [List.length_drop, h3, List.length_cons, Nat.add_mul]; omega)
    rw [show (vs.mapIdx fun i v => (k + (i + 1), v)) = vs.mapIdx fun i v => (k + 1 + i, v) from by
      congr 1; funext i x; rw [show k + (i + 1) = k + 1 + i from by omega]]
    rw [ih]
    simp
section
variable {P : Program} {N : Fi} {B : Base} {Q : Exit → Act → World → Prop} {T : Tm} {A : List Blk} {ops : Array Oper} {l : List Oper}
variable {d : Nat} {ty : TypeId} {pos : String} {af : Array Edge} {m : Md} {gd : Option (Nat × Bool)}
theorem parts_eval {a : Act} {n : Nat} : ∀ (ps : List (Nat × Operand)) (vs : List Value) (k : Nat), ps.map (·.1) = (List.range ps.length).map (k + ·) → ps.map (fun p => a.eval p.2) = vs → ps.map (fun (i, x) => (i, a.eval x)) = vs.mapIdx fun i v => (k + i, v)
  | [], vs, k, _, h2 => by simp at h2; subst h2; rfl
  | (i, x) :: ps, vs, k, h1, h2 => by
    simp only [List.map_cons, List.length_cons, List.range_succ_eq_map, List.map_map, List.cons.injEq] at h1 h2
    subst h2
    rw [List.mapIdx_cons]
    have := parts_eval (a := a) (n := n) ps _ (k + 1) (by rw [h1.2]; apply List.map_congr_left; intro q _; simp; omega) rfl
    simp only [List.map_cons, h1.1]
    rw [this]
    congr 2
    funext j v
    rw [show k + 1 + j = k + (j + 1) from by omega]
theorem Ops.bsN {t e : TypeId} {ge : Bool} {sz' bs' n : Nat} {zc' vs : List Value} {ps : Array (Nat × Operand)} (rows : List (List Value)) (hm : m.eff = true) (hg : gst ops T gd = some true) [ht : TyD P t (.slice e)] [he : Ty P e ge sz' bs' zc']
    (hi : ps.toList.map (·.1) = List.range n) (hx : evs T (ps.toList.map (·.2)) = some vs) (hn : vs.length = n) (hr : (vs.map fun v => v.cells.toList) = rows) (hl : (rows.all fun r => r.length == sz') = true) (h0 : Nat.blt 0 (n * sz') = true) (hsz : Nat.ble (n * sz') 16777216 = true) (hd : Nat.blt d N.n = true)
    (hp : Pd P N B ops m T (some d) (NewR (fun b => .slice (some ⟨b, 0, none⟩) n n) (cl (rows.flatten ++ []) e) A)) (k : ∀ b, Ops P N B Q ops m.tl l ((d, .slice (some ⟨b, 0, none⟩) n n) :: T) ((b, cl (rows.flatten ++ []) e) :: A)) : Ops P N B Q ops m (⟨some d, .buildSlice t n ps, ty, pos, af, gd⟩ :: l) T A :=
  Ops.new (v := fun b => .slice (some ⟨b, 0, none⟩) n n) hm hp hg hd (fun a w hF hS => by
    obtain ⟨z, hz, hzc⟩ := he.run_zero (w := w)
    have h0' : ¬ n * sz' = 0 := by rw [Nat.blt_eq] at h0; omega
    have h1 : ¬ (16777216 < n * sz') := by rw [Nat.ble_eq] at hsz; omega
    have hlen : ps.toList.length = n := by have := congrArg List.length hi; simpa using this
    have hev : ps.toList.map (fun p => a.eval p.2) = vs := by have := hF.evals hx; rw [List.map_map] at this; exact this
    have hpe := parts_eval (a := a) (n := n) ps.toList vs 0 (by rw [hi, hlen]; simp) hev
    simp only [Nat.zero_add] at hpe
    have hsz2 : ∀ v ∈ vs, v.cells.toList.length = sz' := fun v hv => by
      have h2 := List.all_eq_true.1 hl v.cells.toList (by rw [← hr]; exact List.mem_map.2 ⟨v, hv, rfl⟩)
      simpa using h2
    have hf := fill_rows (sz := sz') vs 0 [] ((Array.range (n * sz')).map (fun i => z.cells[i % z.cells.size]!)).toList hsz2 (by simp) (by simp [hn])
    simp only [Nat.zero_add, List.nil_append, Array.toArray_toList] at hf
    have hpt : (ps.map fun (i, x) => (i, a.eval x)).toList = vs.mapIdx fun i v => (i, v) := by rw [Array.toList_map]; exact hpe
    simp only [execOp, Instr.buildSlice, ht.run_und, he.run_size, Sem.run_bind, Result.andThen_ok, Sem.run_pure, Sem.run_ite, gt_iff_lt, show (2:Nat)^24 = 16777216 from rfl, if_neg h1, h0', if_false, hz, hpt, hf, hr]
    simp [newRow, cl]) k
end
end Go.Sep
namespace Go.Proofs.YtnmjdoaogdaehaaGreat
open Go Go.Sep Go.Proofs
set_option maxRecDepth 10000
set_option maxHeartbeats 40000000
set_option synthInstance.maxSize 2000
set_option linter.unusedSimpArgs false
set_option linter.unusedVariables false
/-! the fields of a kind -/
abbrev fS : Fd := .whole .session 1 1099511627776
abbrev fN : Fd := .whole .number 1 1099511627776
abbrev fJ : Fd := .whole .job 1 8
abbrev fB : Fd := .whole .badge 1 1099511627776
abbrev fI (n : Int) : Fd := .whole .index 0 n
abbrev fC (n : Int) : Fd := .whole .count 0 n
abbrev fL : Fd := .text .text 0 32
abbrev fP : Fd := .text .prog 1 1024
def fieldsF (kind : Int) : List Fd := if kind = 3 then [fS, fN, fB] else if kind = 4 then [fS, fN, fB, fC 32, .result] else if kind = 5 then [fB, fI 31, fL] else if kind = 6 then [fJ, fB, fI 16, fL] else if kind = 7 then [fS] else if kind = 9 then [fS, fN, fJ, fB, fP] else if kind = 14 then [fB, fC 32] else if kind = 15 then [fJ, fB, fC 17] else if kind = 16 then [fJ, fB] else if kind = 1 then [] else [fS, fN]
inductive FdsA : List Fd → List (List Value) → List Blk → Prop where
  | nil : FdsA [] [] []
  | cons {fd : Fd} {fds : List Fd} {v1 v2 v3 : Value} {rows : List (List Value)} {G H : List Blk} : FdA fd v1 v2 v3 G → FdsA fds rows H → FdsA (fd :: fds) ([v1, v2, v3] :: rows) (G ++ H)
def FdsR (fds : List Fd) (v : Value) (A : List Blk) : Prop := (fds = [] ∧ v = .slice none 0 0 ∧ A = []) ∨ (∃ b rows G, v = .slice (some ⟨b, 0, none⟩) fds.length fds.length ∧ A = (b, cl (rows.flatten ++ []) 117) :: G ∧ FdsA fds rows G)
theorem fields_spec (kind : Int) : Con Tryz.prog 49 #[.int .i64 kind] [] fun v A => FdsR (fieldsF kind) v A := by
  refine Con.intro (vs := [_]) Tryz.func49 rfl Tryz.ntmps49 rfl (fun B => ?_)
  haveI : SelOk 89 Wh.session.off := (inferInstance : SelOk 89 1)
  haveI : SelOk 90 Wh.number.off := (inferInstance : SelOk 90 2)
  haveI : SelOk 91 Wh.job.off := (inferInstance : SelOk 91 3)
  haveI : SelOk 92 Wh.badge.off := (inferInstance : SelOk 92 4)
  haveI : SelOk 98 Th.text.off := (inferInstance : SelOk 98 9)
  haveI : SelOk 99 Th.prog.off := (inferInstance : SelOk 99 10)
  repeat' (first | refine Cd.seq ?_ | refine Cd.reg ?_ | refine Ops.asg rfl rfl rfl rfl ?_)
  refine Ops.call (whole_spec 89 .session 1 1099511627776 (by decide) (by decide)) rfl (noPd rfl) rfl rfl rfl (fun v AS hR => ?_)
  obtain ⟨v1, v2, v3, rfl, hS⟩ := hR
  have hc := hS
  obtain ⟨⟨fS1, cS1, rfl, _⟩, ⟨fS2, cS2, rfl, _⟩, ⟨fS3, cS3, rfl, _⟩⟩ := hc
  repeat' (first | refine Cd.seq ?_ | refine Cd.reg ?_ | refine Ops.alloc rfl rfl rfl (noPd rfl) (fun b => ?_) | refine Ops.stN rfl rfl rfl rfl rfl rfl (noPd rfl) ?_)
  refine Ops.call (whole_spec 90 .number 1 1099511627776 (by decide) (by decide)) rfl (noPd rfl) rfl rfl rfl (fun v AN hR => ?_)
  obtain ⟨v1, v2, v3, rfl, hN⟩ := hR
  have hc := hN
  obtain ⟨⟨fN1, cN1, rfl, _⟩, ⟨fN2, cN2, rfl, _⟩, ⟨fN3, cN3, rfl, _⟩⟩ := hc
  repeat' (first | refine Cd.seq ?_ | refine Cd.reg ?_ | refine Ops.alloc rfl rfl rfl (noPd rfl) (fun b => ?_) | refine Ops.stN rfl rfl rfl rfl rfl rfl (noPd rfl) ?_)
  refine Ops.call (whole_spec 91 .job 1 8 (by decide) (by decide)) rfl (noPd rfl) rfl rfl rfl (fun v AJ hR => ?_)
  obtain ⟨v1, v2, v3, rfl, hJ⟩ := hR
  have hc := hJ
  obtain ⟨⟨fJ1, cJ1, rfl, _⟩, ⟨fJ2, cJ2, rfl, _⟩, ⟨fJ3, cJ3, rfl, _⟩⟩ := hc
  repeat' (first | refine Cd.seq ?_ | refine Cd.reg ?_ | refine Ops.alloc rfl rfl rfl (noPd rfl) (fun b => ?_) | refine Ops.stN rfl rfl rfl rfl rfl rfl (noPd rfl) ?_)
  refine Ops.call (whole_spec 92 .badge 1 1099511627776 (by decide) (by decide)) rfl (noPd rfl) rfl rfl rfl (fun v AB hR => ?_)
  obtain ⟨v1, v2, v3, rfl, hB⟩ := hR
  have hc := hB
  obtain ⟨⟨fB1, cB1, rfl, _⟩, ⟨fB2, cB2, rfl, _⟩, ⟨fB3, cB3, rfl, _⟩⟩ := hc
  repeat' (first | refine Cd.seq ?_ | refine Cd.reg ?_ | refine Ops.asg rfl rfl rfl rfl ?_ | refine Ops.alloc rfl rfl rfl (noPd rfl) (fun b => ?_) | refine Ops.stN rfl rfl rfl rfl rfl rfl (noPd rfl) ?_)
  refine Ops.call (textf_spec 98 .text 0 32 (by decide)) rfl (noPd rfl) rfl rfl rfl (fun v AL hR => ?_)
  obtain ⟨v1, v2, v3, rfl, hL⟩ := hR
  have hc := hL
  obtain ⟨⟨fL1, cL1, rfl, _⟩, ⟨fL2, cL2, rfl, _⟩, ⟨fL3, cL3, rfl, _⟩⟩ := hc
  repeat' (first | refine Cd.seq ?_ | refine Cd.reg ?_ | refine Ops.alloc rfl rfl rfl (noPd rfl) (fun b => ?_) | refine Ops.stN rfl rfl rfl rfl rfl rfl (noPd rfl) ?_)
  refine Ops.call (textf_spec 99 .prog 1 1024 (by decide)) rfl (noPd rfl) rfl rfl rfl (fun v AP hR => ?_)
  obtain ⟨v1, v2, v3, rfl, hP⟩ := hR
  have hc := hP
  obtain ⟨⟨fP1, cP1, rfl, _⟩, ⟨fP2, cP2, rfl, _⟩, ⟨fP3, cP3, rfl, _⟩⟩ := hc
  generalize hcc : Code.block 0 _ = cc
  repeat' (first | refine Cd.seq ?_ | refine Cd.reg ?_ | refine Ops.nil ?_ | refine Ops.mv rfl rfl rfl rfl ?_ | refine Ops.alloc rfl rfl rfl (noPd rfl) (fun b => ?_) | refine Ops.stN rfl rfl rfl rfl rfl rfl (noPd rfl) ?_)
  subst hcc
  by_cases h3 : kind = 3
  · rw [show fieldsF kind = [fS, fN, fB] from if_pos h3]
    repeat' (first | refine Cd.seq ?_ | refine Cd.reg ?_ | refine Ops.nil ?_ | refine Ops.asg rfl rfl rfl rfl ?_ | refine Ops.ldN rfl rfl rfl rfl ?_ | refine Ops.bin rfl rfl rfl rfl rfl ?_ | refine Cd.block ?_ | refine Cd.condT rfl (by first | rfl | assumption | (simp only [decide_eq_true_eq, decide_eq_false_iff_not, Bool.not_eq_true', Bool.not_eq_false', Bool.not_eq_eq_eq_not, Bool.not_true, Bool.not_false, beq_iff_eq, beq_eq_false_iff_ne, ne_eq, decide_eq_decide, eq_self, true_iff, iff_true, not_true_eq_false, not_false_eq_true]; first | done | omega)) ?_)
    refine Ops.bsN [[.func (.func fS1) #[] cS1.toArray, .func (.func fS2) #[] cS2.toArray, .func (.func fS3) #[] cS3.toArray], [.func (.func fN1) #[] cN1.toArray, .func (.func fN2) #[] cN2.toArray, .func (.func fN3) #[] cN3.toArray], [.func (.func fB1) #[] cB1.toArray, .func (.func fB2) #[] cB2.toArray, .func (.func fB3) #[] cB3.toArray]] rfl rfl rfl rfl rfl rfl rfl rfl rfl rfl (noPd rfl) (fun rb => ?_)
    repeat' (first | refine Ops.nil ?_ | refine Ops.asg rfl rfl rfl rfl ?_)
    exact Cd.ret (ret1 (A' := (rb, cl (([[.func (.func fS1) #[] cS1.toArray, .func (.func fS2) #[] cS2.toArray, .func (.func fS3) #[] cS3.toArray], [.func (.func fN1) #[] cN1.toArray, .func (.func fN2) #[] cN2.toArray, .func (.func fN3) #[] cN3.toArray], [.func (.func fB1) #[] cB1.toArray, .func (.func fB2) #[] cB2.toArray, .func (.func fB3) #[] cB3.toArray]] : List (List Value)).flatten ++ []) 117) :: (AS ++ (AN ++ (AB ++ [])))) rfl (Res.tmp rfl) (fun _ h => h.split) (.inr ⟨rb, _, _, rfl, rfl, (.cons hS (.cons hN (.cons hB .nil)))⟩))
  by_cases h4 : kind = 4
  · rw [show fieldsF kind = [fS, fN, fB, fC 32, .result] from (if_neg h3).trans (if_pos h4)]
    repeat' (first | refine Cd.seq ?_ | refine Cd.reg ?_ | refine Ops.nil ?_ | refine Ops.asg rfl rfl rfl rfl ?_ | refine Ops.bin rfl rfl rfl rfl rfl ?_ | refine Cd.block ?_ | refine Cd.condT rfl (by first | rfl | assumption | (simp only [decide_eq_true_eq, decide_eq_false_iff_not, Bool.not_eq_true', Bool.not_eq_false', Bool.not_eq_eq_eq_not, Bool.not_true, Bool.not_false, beq_iff_eq, beq_eq_false_iff_ne, ne_eq, decide_eq_decide, eq_self, true_iff, iff_true, not_true_eq_false, not_false_eq_true]; first | done | omega)) ?_ | refine Cd.condF rfl (by first | rfl | assumption | (simp only [decide_eq_true_eq, decide_eq_false_iff_not, Bool.not_eq_true', Bool.not_eq_false', Bool.not_eq_eq_eq_not, Bool.not_true, Bool.not_false, beq_iff_eq, beq_eq_false_iff_ne, ne_eq, decide_eq_decide, eq_self, true_iff, iff_true, not_true_eq_false, not_false_eq_true]; first | done | omega)) ?_)
    refine Cd.draw [(0, 1, []), (1, 1, []), (2, 1, []), (3, 0, []), (4, 2, [0, 1, 2]), (5, 2, [0, 1, 2]), (6, 2, []), (7, 0, [])] (by kernel_rfl) (by kernel_rfl) (by simp only [picked, nth]; exact rfl) ?_
    repeat' (first | refine Ops.mv rfl rfl rfl rfl ?_ | refine Ops.ldN rfl rfl rfl rfl ?_ | fail)
    refine Ops.callV (fi := []) (ca := []) (vs := [_]) (countf_spec 32 (by decide)) rfl (by first | exact noPd rfl | (intro v A' hR i hi; obtain ⟨A2, hR, rfl⟩ := hR; (try obtain ⟨rfl, rfl⟩ := hR); (repeat (rcases List.mem_cons.1 hi with rfl | hi; · (first | exact Still.ld1 rfl rfl rfl rfl rfl | exact Still.ldN rfl rfl rfl rfl | exact Still.len rfl rfl rfl rfl rfl | exact Still.skip rfl rfl rfl | exact Still.ldRow1 rfl rfl rfl (by assumption) (by assumption) rfl rfl | exact Still.ldR rfl rfl rfl (by apply_assumption) rfl))); cases hi)) rfl rfl rfl rfl (fun v AC hR => ?_)
    obtain ⟨v1, v2, v3, rfl, hC⟩ := hR
    have hc := hC
    obtain ⟨⟨fC1, cC1, rfl, _⟩, ⟨fC2, cC2, rfl, _⟩, ⟨fC3, cC3, rfl, _⟩⟩ := hc
    skip
    refine Ops.call result_spec rfl (by first | exact noPd rfl | (intro v A' hR i hi; obtain ⟨A2, hR, rfl⟩ := hR; (try obtain ⟨rfl, rfl⟩ := hR); (repeat (rcases List.mem_cons.1 hi with rfl | hi; · (first | exact Still.ld1 rfl rfl rfl rfl rfl | exact Still.ldN rfl rfl rfl rfl | exact Still.len rfl rfl rfl rfl rfl | exact Still.skip rfl rfl rfl | exact Still.ldRow1 rfl rfl rfl (by assumption) (by assumption) rfl rfl | exact Still.ldR rfl rfl rfl (by apply_assumption) rfl))); cases hi)) rfl rfl rfl (fun v AR hR => ?_)
    obtain ⟨v1, v2, v3, rfl, hR⟩ := hR
    have hc := hR
    obtain ⟨⟨fR1, cR1, rfl, _⟩, ⟨fR2, cR2, rfl, _⟩, ⟨fR3, cR3, rfl, _⟩⟩ := hc
    skip
    refine Ops.bsN [[.func (.func fS1) #[] cS1.toArray, .func (.func fS2) #[] cS2.toArray, .func (.func fS3) #[] cS3.toArray], [.func (.func fN1) #[] cN1.toArray, .func (.func fN2) #[] cN2.toArray, .func (.func fN3) #[] cN3.toArray], [.func (.func fB1) #[] cB1.toArray, .func (.func fB2) #[] cB2.toArray, .func (.func fB3) #[] cB3.toArray], [.func (.func fC1) #[] cC1.toArray, .func (.func fC2) #[] cC2.toArray, .func (.func fC3) #[] cC3.toArray], [.func (.func fR1) #[] cR1.toArray, .func (.func fR2) #[] cR2.toArray, .func (.func fR3) #[] cR3.toArray]] rfl rfl rfl rfl rfl rfl rfl rfl rfl rfl (noPd rfl) (fun rb => ?_)
    repeat' (first | refine Ops.nil ?_ | refine Ops.asg rfl rfl rfl rfl ?_)
    exact Cd.ret (ret1 (A' := (rb, cl (([[.func (.func fS1) #[] cS1.toArray, .func (.func fS2) #[] cS2.toArray, .func (.func fS3) #[] cS3.toArray], [.func (.func fN1) #[] cN1.toArray, .func (.func fN2) #[] cN2.toArray, .func (.func fN3) #[] cN3.toArray], [.func (.func fB1) #[] cB1.toArray, .func (.func fB2) #[] cB2.toArray, .func (.func fB3) #[] cB3.toArray], [.func (.func fC1) #[] cC1.toArray, .func (.func fC2) #[] cC2.toArray, .func (.func fC3) #[] cC3.toArray], [.func (.func fR1) #[] cR1.toArray, .func (.func fR2) #[] cR2.toArray, .func (.func fR3) #[] cR3.toArray]] : List (List Value)).flatten ++ []) 117) :: (AS ++ (AN ++ (AB ++ (AC ++ (AR ++ [])))))) rfl (Res.tmp rfl) (fun _ h => h.split) (.inr ⟨rb, _, _, rfl, rfl, (.cons hS (.cons hN (.cons hB (.cons hC (.cons hR .nil)))))⟩))
  by_cases h5 : kind = 5
  · rw [show fieldsF kind = [fB, fI 31, fL] from (if_neg h3).trans ((if_neg h4).trans (if_pos h5))]
    repeat' (first | refine Cd.seq ?_ | refine Cd.reg ?_ | refine Ops.nil ?_ | refine Ops.asg rfl rfl rfl rfl ?_ | refine Ops.bin rfl rfl rfl rfl rfl ?_ | refine Cd.block ?_ | refine Cd.condT rfl (by first | rfl | assumption | (simp only [decide_eq_true_eq, decide_eq_false_iff_not, Bool.not_eq_true', Bool.not_eq_false', Bool.not_eq_eq_eq_not, Bool.not_true, Bool.not_false, beq_iff_eq, beq_eq_false_iff_ne, ne_eq, decide_eq_decide, eq_self, true_iff, iff_true, not_true_eq_false, not_false_eq_true]; first | done | omega)) ?_ | refine Cd.condF rfl (by first | rfl | assumption | (simp only [decide_eq_true_eq, decide_eq_false_iff_not, Bool.not_eq_true', Bool.not_eq_false', Bool.not_eq_eq_eq_not, Bool.not_true, Bool.not_false, beq_iff_eq, beq_eq_false_iff_ne, ne_eq, decide_eq_decide, eq_self, true_iff, iff_true, not_true_eq_false, not_false_eq_true]; first | done | omega)) ?_)
    refine Cd.draw [(0, 1, []), (1, 0, []), (3, 1, []), (2, 2, [0, 3]), (4, 2, []), (5, 0, [])] (by kernel_rfl) (by kernel_rfl) (by simp only [picked, nth]; exact rfl) ?_
    repeat' (first | refine Ops.mv rfl rfl rfl rfl ?_ | refine Ops.ldN rfl rfl rfl rfl ?_ | fail)
    refine Ops.callV (fi := []) (ca := []) (vs := [_]) (indexf_spec 31 (by decide)) rfl (by first | exact noPd rfl | (intro v A' hR i hi; obtain ⟨A2, hR, rfl⟩ := hR; (try obtain ⟨rfl, rfl⟩ := hR); (repeat (rcases List.mem_cons.1 hi with rfl | hi; · (first | exact Still.ld1 rfl rfl rfl rfl rfl | exact Still.ldN rfl rfl rfl rfl | exact Still.len rfl rfl rfl rfl rfl | exact Still.skip rfl rfl rfl | exact Still.ldRow1 rfl rfl rfl (by assumption) (by assumption) rfl rfl | exact Still.ldR rfl rfl rfl (by apply_assumption) rfl))); cases hi)) rfl rfl rfl rfl (fun v AI hR => ?_)
    obtain ⟨v1, v2, v3, rfl, hI⟩ := hR
    have hc := hI
    obtain ⟨⟨fI1, cI1, rfl, _⟩, ⟨fI2, cI2, rfl, _⟩, ⟨fI3, cI3, rfl, _⟩⟩ := hc
    skip
    refine Ops.bsN [[.func (.func fB1) #[] cB1.toArray, .func (.func fB2) #[] cB2.toArray, .func (.func fB3) #[] cB3.toArray], [.func (.func fI1) #[] cI1.toArray, .func (.func fI2) #[] cI2.toArray, .func (.func fI3) #[] cI3.toArray], [.func (.func fL1) #[] cL1.toArray, .func (.func fL2) #[] cL2.toArray, .func (.func fL3) #[] cL3.toArray]] rfl rfl rfl rfl rfl rfl rfl rfl rfl rfl (noPd rfl) (fun rb => ?_)
    repeat' (first | refine Ops.nil ?_ | refine Ops.asg rfl rfl rfl rfl ?_)
    exact Cd.ret (ret1 (A' := (rb, cl (([[.func (.func fB1) #[] cB1.toArray, .func (.func fB2) #[] cB2.toArray, .func (.func fB3) #[] cB3.toArray], [.func (.func fI1) #[] cI1.toArray, .func (.func fI2) #[] cI2.toArray, .func (.func fI3) #[] cI3.toArray], [.func (.func fL1) #[] cL1.toArray, .func (.func fL2) #[] cL2.toArray, .func (.func fL3) #[] cL3.toArray]] : List (List Value)).flatten ++ []) 117) :: (AB ++ (AI ++ (AL ++ [])))) rfl (Res.tmp rfl) (fun _ h => h.split) (.inr ⟨rb, _, _, rfl, rfl, (.cons hB (.cons hI (.cons hL .nil)))⟩))
  by_cases h6 : kind = 6
  · rw [show fieldsF kind = [fJ, fB, fI 16, fL] from (if_neg h3).trans ((if_neg h4).trans ((if_neg h5).trans (if_pos h6)))]
    repeat' (first | refine Cd.seq ?_ | refine Cd.reg ?_ | refine Ops.nil ?_ | refine Ops.asg rfl rfl rfl rfl ?_ | refine Ops.bin rfl rfl rfl rfl rfl ?_ | refine Cd.block ?_ | refine Cd.condT rfl (by first | rfl | assumption | (simp only [decide_eq_true_eq, decide_eq_false_iff_not, Bool.not_eq_true', Bool.not_eq_false', Bool.not_eq_eq_eq_not, Bool.not_true, Bool.not_false, beq_iff_eq, beq_eq_false_iff_ne, ne_eq, decide_eq_decide, eq_self, true_iff, iff_true, not_true_eq_false, not_false_eq_true]; first | done | omega)) ?_ | refine Cd.condF rfl (by first | rfl | assumption | (simp only [decide_eq_true_eq, decide_eq_false_iff_not, Bool.not_eq_true', Bool.not_eq_false', Bool.not_eq_eq_eq_not, Bool.not_true, Bool.not_false, beq_iff_eq, beq_eq_false_iff_ne, ne_eq, decide_eq_decide, eq_self, true_iff, iff_true, not_true_eq_false, not_false_eq_true]; first | done | omega)) ?_)
    refine Cd.draw [(0, 1, []), (1, 1, []), (2, 0, []), (4, 1, []), (3, 2, [0, 1, 4]), (5, 2, []), (6, 0, [])] (by kernel_rfl) (by kernel_rfl) (by simp only [picked, nth]; exact rfl) ?_
    repeat' (first | refine Ops.mv rfl rfl rfl rfl ?_ | refine Ops.ldN rfl rfl rfl rfl ?_ | fail)
    refine Ops.callV (fi := []) (ca := []) (vs := [_]) (indexf_spec 16 (by decide)) rfl (by first | exact noPd rfl | (intro v A' hR i hi; obtain ⟨A2, hR, rfl⟩ := hR; (try obtain ⟨rfl, rfl⟩ := hR); (repeat (rcases List.mem_cons.1 hi with rfl | hi; · (first | exact Still.ld1 rfl rfl rfl rfl rfl | exact Still.ldN rfl rfl rfl rfl | exact Still.len rfl rfl rfl rfl rfl | exact Still.skip rfl rfl rfl | exact Still.ldRow1 rfl rfl rfl (by assumption) (by assumption) rfl rfl | exact Still.ldR rfl rfl rfl (by apply_assumption) rfl))); cases hi)) rfl rfl rfl rfl (fun v AI hR => ?_)
    obtain ⟨v1, v2, v3, rfl, hI⟩ := hR
    have hc := hI
    obtain ⟨⟨fI1, cI1, rfl, _⟩, ⟨fI2, cI2, rfl, _⟩, ⟨fI3, cI3, rfl, _⟩⟩ := hc
    skip
    refine Ops.bsN [[.func (.func fJ1) #[] cJ1.toArray, .func (.func fJ2) #[] cJ2.toArray, .func (.func fJ3) #[] cJ3.toArray], [.func (.func fB1) #[] cB1.toArray, .func (.func fB2) #[] cB2.toArray, .func (.func fB3) #[] cB3.toArray], [.func (.func fI1) #[] cI1.toArray, .func (.func fI2) #[] cI2.toArray, .func (.func fI3) #[] cI3.toArray], [.func (.func fL1) #[] cL1.toArray, .func (.func fL2) #[] cL2.toArray, .func (.func fL3) #[] cL3.toArray]] rfl rfl rfl rfl rfl rfl rfl rfl rfl rfl (noPd rfl) (fun rb => ?_)
    repeat' (first | refine Ops.nil ?_ | refine Ops.asg rfl rfl rfl rfl ?_)
    exact Cd.ret (ret1 (A' := (rb, cl (([[.func (.func fJ1) #[] cJ1.toArray, .func (.func fJ2) #[] cJ2.toArray, .func (.func fJ3) #[] cJ3.toArray], [.func (.func fB1) #[] cB1.toArray, .func (.func fB2) #[] cB2.toArray, .func (.func fB3) #[] cB3.toArray], [.func (.func fI1) #[] cI1.toArray, .func (.func fI2) #[] cI2.toArray, .func (.func fI3) #[] cI3.toArray], [.func (.func fL1) #[] cL1.toArray, .func (.func fL2) #[] cL2.toArray, .func (.func fL3) #[] cL3.toArray]] : List (List Value)).flatten ++ []) 117) :: (AJ ++ (AB ++ (AI ++ (AL ++ []))))) rfl (Res.tmp rfl) (fun _ h => h.split) (.inr ⟨rb, _, _, rfl, rfl, (.cons hJ (.cons hB (.cons hI (.cons hL .nil))))⟩))
  by_cases h7 : kind = 7
  · rw [show fieldsF kind = [fS] from (if_neg h3).trans ((if_neg h4).trans ((if_neg h5).trans ((if_neg h6).trans (if_pos h7))))]
    repeat' (first | refine Cd.seq ?_ | refine Cd.reg ?_ | refine Ops.nil ?_ | refine Ops.asg rfl rfl rfl rfl ?_ | refine Ops.ldN rfl rfl rfl rfl ?_ | refine Ops.bin rfl rfl rfl rfl rfl ?_ | refine Ops.bs1 rfl rfl rfl rfl rfl rfl rfl (noPd rfl) (fun b => ?_) | refine Cd.block ?_ | refine Cd.condT rfl (by first | rfl | assumption | (simp only [decide_eq_true_eq, decide_eq_false_iff_not, Bool.not_eq_true', Bool.not_eq_false', Bool.not_eq_eq_eq_not, Bool.not_true, Bool.not_false, beq_iff_eq, beq_eq_false_iff_ne, ne_eq, decide_eq_decide, eq_self, true_iff, iff_true, not_true_eq_false, not_false_eq_true]; first | done | omega)) ?_ | refine Cd.condF rfl (by first | rfl | assumption | (simp only [decide_eq_true_eq, decide_eq_false_iff_not, Bool.not_eq_true', Bool.not_eq_false', Bool.not_eq_eq_eq_not, Bool.not_true, Bool.not_false, beq_iff_eq, beq_eq_false_iff_ne, ne_eq, decide_eq_decide, eq_self, true_iff, iff_true, not_true_eq_false, not_false_eq_true]; first | done | omega)) ?_)
    rename Nat => rb
    exact Cd.ret (ret1 (A' := (rb, cl [.func (.func fS1) #[] cS1.toArray, .func (.func fS2) #[] cS2.toArray, .func (.func fS3) #[] cS3.toArray] 117) :: (AS ++ [])) rfl (Res.tmp rfl) (fun _ h => h.split) (.inr ⟨rb, [[.func (.func fS1) #[] cS1.toArray, .func (.func fS2) #[] cS2.toArray, .func (.func fS3) #[] cS3.toArray]], _, rfl, rfl, .cons hS .nil⟩))
  by_cases h9 : kind = 9
  · rw [show fieldsF kind = [fS, fN, fJ, fB, fP] from (if_neg h3).trans ((if_neg h4).trans ((if_neg h5).trans ((if_neg h6).trans ((if_neg h7).trans (if_pos h9)))))]
    repeat' (first | refine Cd.seq ?_ | refine Cd.reg ?_ | refine Ops.nil ?_ | refine Ops.asg rfl rfl rfl rfl ?_ | refine Ops.ldN rfl rfl rfl rfl ?_ | refine Ops.bin rfl rfl rfl rfl rfl ?_ | refine Cd.block ?_ | refine Cd.condT rfl (by first | rfl | assumption | (simp only [decide_eq_true_eq, decide_eq_false_iff_not, Bool.not_eq_true', Bool.not_eq_false', Bool.not_eq_eq_eq_not, Bool.not_true, Bool.not_false, beq_iff_eq, beq_eq_false_iff_ne, ne_eq, decide_eq_decide, eq_self, true_iff, iff_true, not_true_eq_false, not_false_eq_true]; first | done | omega)) ?_ | refine Cd.condF rfl (by first | rfl | assumption | (simp only [decide_eq_true_eq, decide_eq_false_iff_not, Bool.not_eq_true', Bool.not_eq_false', Bool.not_eq_eq_eq_not, Bool.not_true, Bool.not_false, beq_iff_eq, beq_eq_false_iff_ne, ne_eq, decide_eq_decide, eq_self, true_iff, iff_true, not_true_eq_false, not_false_eq_true]; first | done | omega)) ?_)
    refine Ops.bsN [[.func (.func fS1) #[] cS1.toArray, .func (.func fS2) #[] cS2.toArray, .func (.func fS3) #[] cS3.toArray], [.func (.func fN1) #[] cN1.toArray, .func (.func fN2) #[] cN2.toArray, .func (.func fN3) #[] cN3.toArray], [.func (.func fJ1) #[] cJ1.toArray, .func (.func fJ2) #[] cJ2.toArray, .func (.func fJ3) #[] cJ3.toArray], [.func (.func fB1) #[] cB1.toArray, .func (.func fB2) #[] cB2.toArray, .func (.func fB3) #[] cB3.toArray], [.func (.func fP1) #[] cP1.toArray, .func (.func fP2) #[] cP2.toArray, .func (.func fP3) #[] cP3.toArray]] rfl rfl rfl rfl rfl rfl rfl rfl rfl rfl (noPd rfl) (fun rb => ?_)
    repeat' (first | refine Ops.nil ?_ | refine Ops.asg rfl rfl rfl rfl ?_)
    exact Cd.ret (ret1 (A' := (rb, cl (([[.func (.func fS1) #[] cS1.toArray, .func (.func fS2) #[] cS2.toArray, .func (.func fS3) #[] cS3.toArray], [.func (.func fN1) #[] cN1.toArray, .func (.func fN2) #[] cN2.toArray, .func (.func fN3) #[] cN3.toArray], [.func (.func fJ1) #[] cJ1.toArray, .func (.func fJ2) #[] cJ2.toArray, .func (.func fJ3) #[] cJ3.toArray], [.func (.func fB1) #[] cB1.toArray, .func (.func fB2) #[] cB2.toArray, .func (.func fB3) #[] cB3.toArray], [.func (.func fP1) #[] cP1.toArray, .func (.func fP2) #[] cP2.toArray, .func (.func fP3) #[] cP3.toArray]] : List (List Value)).flatten ++ []) 117) :: (AS ++ (AN ++ (AJ ++ (AB ++ (AP ++ [])))))) rfl (Res.tmp rfl) (fun _ h => h.split) (.inr ⟨rb, _, _, rfl, rfl, (.cons hS (.cons hN (.cons hJ (.cons hB (.cons hP .nil)))))⟩))
  by_cases h14 : kind = 14
  · rw [show fieldsF kind = [fB, fC 32] from (if_neg h3).trans ((if_neg h4).trans ((if_neg h5).trans ((if_neg h6).trans ((if_neg h7).trans ((if_neg h9).trans (if_pos h14))))))]
    repeat' (first | refine Cd.seq ?_ | refine Cd.reg ?_ | refine Ops.nil ?_ | refine Ops.asg rfl rfl rfl rfl ?_ | refine Ops.bin rfl rfl rfl rfl rfl ?_ | refine Cd.block ?_ | refine Cd.condT rfl (by first | rfl | assumption | (simp only [decide_eq_true_eq, decide_eq_false_iff_not, Bool.not_eq_true', Bool.not_eq_false', Bool.not_eq_eq_eq_not, Bool.not_true, Bool.not_false, beq_iff_eq, beq_eq_false_iff_ne, ne_eq, decide_eq_decide, eq_self, true_iff, iff_true, not_true_eq_false, not_false_eq_true]; first | done | omega)) ?_ | refine Cd.condF rfl (by first | rfl | assumption | (simp only [decide_eq_true_eq, decide_eq_false_iff_not, Bool.not_eq_true', Bool.not_eq_false', Bool.not_eq_eq_eq_not, Bool.not_true, Bool.not_false, beq_iff_eq, beq_eq_false_iff_ne, ne_eq, decide_eq_decide, eq_self, true_iff, iff_true, not_true_eq_false, not_false_eq_true]; first | done | omega)) ?_)
    refine Cd.draw [(0, 1, []), (1, 0, []), (2, 2, [0]), (3, 2, []), (4, 0, [])] (by kernel_rfl) (by kernel_rfl) (by simp only [picked, nth]; exact rfl) ?_
    repeat' (first | refine Ops.mv rfl rfl rfl rfl ?_ | refine Ops.ldN rfl rfl rfl rfl ?_ | fail)
    refine Ops.callV (fi := []) (ca := []) (vs := [_]) (countf_spec 32 (by decide)) rfl (by first | exact noPd rfl | (intro v A' hR i hi; obtain ⟨A2, hR, rfl⟩ := hR; (try obtain ⟨rfl, rfl⟩ := hR); (repeat (rcases List.mem_cons.1 hi with rfl | hi; · (first | exact Still.ld1 rfl rfl rfl rfl rfl | exact Still.ldN rfl rfl rfl rfl | exact Still.len rfl rfl rfl rfl rfl | exact Still.skip rfl rfl rfl | exact Still.ldRow1 rfl rfl rfl (by assumption) (by assumption) rfl rfl | exact Still.ldR rfl rfl rfl (by apply_assumption) rfl))); cases hi)) rfl rfl rfl rfl (fun v AC hR => ?_)
    obtain ⟨v1, v2, v3, rfl, hC⟩ := hR
    have hc := hC
    obtain ⟨⟨fC1, cC1, rfl, _⟩, ⟨fC2, cC2, rfl, _⟩, ⟨fC3, cC3, rfl, _⟩⟩ := hc
    skip
    refine Ops.bsN [[.func (.func fB1) #[] cB1.toArray, .func (.func fB2) #[] cB2.toArray, .func (.func fB3) #[] cB3.toArray], [.func (.func fC1) #[] cC1.toArray, .func (.func fC2) #[] cC2.toArray, .func (.func fC3) #[] cC3.toArray]] rfl rfl rfl rfl rfl rfl rfl rfl rfl rfl (noPd rfl) (fun rb => ?_)
    repeat' (first | refine Ops.nil ?_ | refine Ops.asg rfl rfl rfl rfl ?_)
    exact Cd.ret (ret1 (A' := (rb, cl (([[.func (.func fB1) #[] cB1.toArray, .func (.func fB2) #[] cB2.toArray, .func (.func fB3) #[] cB3.toArray], [.func (.func fC1) #[] cC1.toArray, .func (.func fC2) #[] cC2.toArray, .func (.func fC3) #[] cC3.toArray]] : List (List Value)).flatten ++ []) 117) :: (AB ++ (AC ++ []))) rfl (Res.tmp rfl) (fun _ h => h.split) (.inr ⟨rb, _, _, rfl, rfl, (.cons hB (.cons hC .nil))⟩))
  by_cases h15 : kind = 15
  · rw [show fieldsF kind = [fJ, fB, fC 17] from (if_neg h3).trans ((if_neg h4).trans ((if_neg h5).trans ((if_neg h6).trans ((if_neg h7).trans ((if_neg h9).trans ((if_neg h14).trans (if_pos h15)))))))]
    repeat' (first | refine Cd.seq ?_ | refine Cd.reg ?_ | refine Ops.nil ?_ | refine Ops.asg rfl rfl rfl rfl ?_ | refine Ops.bin rfl rfl rfl rfl rfl ?_ | refine Cd.block ?_ | refine Cd.condT rfl (by first | rfl | assumption | (simp only [decide_eq_true_eq, decide_eq_false_iff_not, Bool.not_eq_true', Bool.not_eq_false', Bool.not_eq_eq_eq_not, Bool.not_true, Bool.not_false, beq_iff_eq, beq_eq_false_iff_ne, ne_eq, decide_eq_decide, eq_self, true_iff, iff_true, not_true_eq_false, not_false_eq_true]; first | done | omega)) ?_ | refine Cd.condF rfl (by first | rfl | assumption | (simp only [decide_eq_true_eq, decide_eq_false_iff_not, Bool.not_eq_true', Bool.not_eq_false', Bool.not_eq_eq_eq_not, Bool.not_true, Bool.not_false, beq_iff_eq, beq_eq_false_iff_ne, ne_eq, decide_eq_decide, eq_self, true_iff, iff_true, not_true_eq_false, not_false_eq_true]; first | done | omega)) ?_)
    refine Cd.draw [(0, 1, []), (1, 1, []), (2, 0, []), (3, 2, [0, 1]), (4, 2, []), (5, 0, [])] (by kernel_rfl) (by kernel_rfl) (by simp only [picked, nth]; exact rfl) ?_
    repeat' (first | refine Ops.mv rfl rfl rfl rfl ?_ | refine Ops.ldN rfl rfl rfl rfl ?_ | fail)
    refine Ops.callV (fi := []) (ca := []) (vs := [_]) (countf_spec 17 (by decide)) rfl (by first | exact noPd rfl | (intro v A' hR i hi; obtain ⟨A2, hR, rfl⟩ := hR; (try obtain ⟨rfl, rfl⟩ := hR); (repeat (rcases List.mem_cons.1 hi with rfl | hi; · (first | exact Still.ld1 rfl rfl rfl rfl rfl | exact Still.ldN rfl rfl rfl rfl | exact Still.len rfl rfl rfl rfl rfl | exact Still.skip rfl rfl rfl | exact Still.ldRow1 rfl rfl rfl (by assumption) (by assumption) rfl rfl | exact Still.ldR rfl rfl rfl (by apply_assumption) rfl))); cases hi)) rfl rfl rfl rfl (fun v AC hR => ?_)
    obtain ⟨v1, v2, v3, rfl, hC⟩ := hR
    have hc := hC
    obtain ⟨⟨fC1, cC1, rfl, _⟩, ⟨fC2, cC2, rfl, _⟩, ⟨fC3, cC3, rfl, _⟩⟩ := hc
    skip
    refine Ops.bsN [[.func (.func fJ1) #[] cJ1.toArray, .func (.func fJ2) #[] cJ2.toArray, .func (.func fJ3) #[] cJ3.toArray], [.func (.func fB1) #[] cB1.toArray, .func (.func fB2) #[] cB2.toArray, .func (.func fB3) #[] cB3.toArray], [.func (.func fC1) #[] cC1.toArray, .func (.func fC2) #[] cC2.toArray, .func (.func fC3) #[] cC3.toArray]] rfl rfl rfl rfl rfl rfl rfl rfl rfl rfl (noPd rfl) (fun rb => ?_)
    repeat' (first | refine Ops.nil ?_ | refine Ops.asg rfl rfl rfl rfl ?_)
    exact Cd.ret (ret1 (A' := (rb, cl (([[.func (.func fJ1) #[] cJ1.toArray, .func (.func fJ2) #[] cJ2.toArray, .func (.func fJ3) #[] cJ3.toArray], [.func (.func fB1) #[] cB1.toArray, .func (.func fB2) #[] cB2.toArray, .func (.func fB3) #[] cB3.toArray], [.func (.func fC1) #[] cC1.toArray, .func (.func fC2) #[] cC2.toArray, .func (.func fC3) #[] cC3.toArray]] : List (List Value)).flatten ++ []) 117) :: (AJ ++ (AB ++ (AC ++ [])))) rfl (Res.tmp rfl) (fun _ h => h.split) (.inr ⟨rb, _, _, rfl, rfl, (.cons hJ (.cons hB (.cons hC .nil)))⟩))
  by_cases h16 : kind = 16
  · rw [show fieldsF kind = [fJ, fB] from (if_neg h3).trans ((if_neg h4).trans ((if_neg h5).trans ((if_neg h6).trans ((if_neg h7).trans ((if_neg h9).trans ((if_neg h14).trans ((if_neg h15).trans (if_pos h16))))))))]
    repeat' (first | refine Cd.seq ?_ | refine Cd.reg ?_ | refine Ops.nil ?_ | refine Ops.asg rfl rfl rfl rfl ?_ | refine Ops.ldN rfl rfl rfl rfl ?_ | refine Ops.bin rfl rfl rfl rfl rfl ?_ | refine Cd.block ?_ | refine Cd.condT rfl (by first | rfl | assumption | (simp only [decide_eq_true_eq, decide_eq_false_iff_not, Bool.not_eq_true', Bool.not_eq_false', Bool.not_eq_eq_eq_not, Bool.not_true, Bool.not_false, beq_iff_eq, beq_eq_false_iff_ne, ne_eq, decide_eq_decide, eq_self, true_iff, iff_true, not_true_eq_false, not_false_eq_true]; first | done | omega)) ?_ | refine Cd.condF rfl (by first | rfl | assumption | (simp only [decide_eq_true_eq, decide_eq_false_iff_not, Bool.not_eq_true', Bool.not_eq_false', Bool.not_eq_eq_eq_not, Bool.not_true, Bool.not_false, beq_iff_eq, beq_eq_false_iff_ne, ne_eq, decide_eq_decide, eq_self, true_iff, iff_true, not_true_eq_false, not_false_eq_true]; first | done | omega)) ?_)
    refine Ops.bsN [[.func (.func fJ1) #[] cJ1.toArray, .func (.func fJ2) #[] cJ2.toArray, .func (.func fJ3) #[] cJ3.toArray], [.func (.func fB1) #[] cB1.toArray, .func (.func fB2) #[] cB2.toArray, .func (.func fB3) #[] cB3.toArray]] rfl rfl rfl rfl rfl rfl rfl rfl rfl rfl (noPd rfl) (fun rb => ?_)
    repeat' (first | refine Ops.nil ?_ | refine Ops.asg rfl rfl rfl rfl ?_)
    exact Cd.ret (ret1 (A' := (rb, cl (([[.func (.func fJ1) #[] cJ1.toArray, .func (.func fJ2) #[] cJ2.toArray, .func (.func fJ3) #[] cJ3.toArray], [.func (.func fB1) #[] cB1.toArray, .func (.func fB2) #[] cB2.toArray, .func (.func fB3) #[] cB3.toArray]] : List (List Value)).flatten ++ []) 117) :: (AJ ++ (AB ++ []))) rfl (Res.tmp rfl) (fun _ h => h.split) (.inr ⟨rb, _, _, rfl, rfl, (.cons hJ (.cons hB .nil))⟩))
  by_cases h1 : kind = 1
  · rw [show fieldsF kind = [] from (if_neg h3).trans ((if_neg h4).trans ((if_neg h5).trans ((if_neg h6).trans ((if_neg h7).trans ((if_neg h9).trans ((if_neg h14).trans ((if_neg h15).trans ((if_neg h16).trans (if_pos h1)))))))))]
    repeat' (first | refine Cd.seq ?_ | refine Cd.reg ?_ | refine Ops.nil ?_ | refine Ops.asg rfl rfl rfl rfl ?_ | refine Ops.bin rfl rfl rfl rfl rfl ?_ | refine Cd.block ?_ | refine Cd.condT rfl (by first | rfl | assumption | (simp only [decide_eq_true_eq, decide_eq_false_iff_not, Bool.not_eq_true', Bool.not_eq_false', Bool.not_eq_eq_eq_not, Bool.not_true, Bool.not_false, beq_iff_eq, beq_eq_false_iff_ne, ne_eq, decide_eq_decide, eq_self, true_iff, iff_true, not_true_eq_false, not_false_eq_true]; first | done | omega)) ?_ | refine Cd.condF rfl (by first | rfl | assumption | (simp only [decide_eq_true_eq, decide_eq_false_iff_not, Bool.not_eq_true', Bool.not_eq_false', Bool.not_eq_eq_eq_not, Bool.not_true, Bool.not_false, beq_iff_eq, beq_eq_false_iff_ne, ne_eq, decide_eq_decide, eq_self, true_iff, iff_true, not_true_eq_false, not_false_eq_true]; first | done | omega)) ?_)
    exact Cd.ret (ret1 (A' := []) rfl (Res.tmp rfl) (fun _ h => h.split) (.inl ⟨rfl, rfl, rfl⟩))
  rw [show fieldsF kind = [fS, fN] from (if_neg h3).trans ((if_neg h4).trans ((if_neg h5).trans ((if_neg h6).trans ((if_neg h7).trans ((if_neg h9).trans ((if_neg h14).trans ((if_neg h15).trans ((if_neg h16).trans (if_neg h1)))))))))]
  repeat' (first | refine Cd.seq ?_ | refine Cd.reg ?_ | refine Ops.nil ?_ | refine Ops.asg rfl rfl rfl rfl ?_ | refine Ops.ldN rfl rfl rfl rfl ?_ | refine Ops.bin rfl rfl rfl rfl rfl ?_ | refine Cd.block ?_ | refine Cd.skip (Cd.next (Q' := fun _ _ _ => True) ?_) | refine Cd.condF rfl (by first | rfl | assumption | (simp only [decide_eq_true_eq, decide_eq_false_iff_not, Bool.not_eq_true', Bool.not_eq_false', Bool.not_eq_eq_eq_not, Bool.not_true, Bool.not_false, beq_iff_eq, beq_eq_false_iff_ne, ne_eq, decide_eq_decide, eq_self, true_iff, iff_true, not_true_eq_false, not_false_eq_true]; first | done | omega)) ?_)
  refine Ops.bsN [[.func (.func fS1) #[] cS1.toArray, .func (.func fS2) #[] cS2.toArray, .func (.func fS3) #[] cS3.toArray], [.func (.func fN1) #[] cN1.toArray, .func (.func fN2) #[] cN2.toArray, .func (.func fN3) #[] cN3.toArray]] rfl rfl rfl rfl rfl rfl rfl rfl rfl rfl (noPd rfl) (fun rb => ?_)
  repeat' (first | refine Ops.nil ?_ | refine Ops.asg rfl rfl rfl rfl ?_)
  exact Cd.ret (ret1 (A' := (rb, cl (([[.func (.func fS1) #[] cS1.toArray, .func (.func fS2) #[] cS2.toArray, .func (.func fS3) #[] cS3.toArray], [.func (.func fN1) #[] cN1.toArray, .func (.func fN2) #[] cN2.toArray, .func (.func fN3) #[] cN3.toArray]] : List (List Value)).flatten ++ []) 117) :: (AS ++ (AN ++ []))) rfl (Res.tmp rfl) (fun _ h => h.split) (.inr ⟨rb, _, _, rfl, rfl, (.cons hS (.cons hN .nil))⟩))
end Go.Proofs.YtnmjdoaogdaehaaGreat
