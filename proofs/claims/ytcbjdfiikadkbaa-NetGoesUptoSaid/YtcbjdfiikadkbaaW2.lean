import Derived.Test.YtcbjdfiikadkbaaW1
namespace Go.Proofs.Ytcbjdfiikadkbaa
open Go Go.Sep Go.Proofs
set_option maxRecDepth 10000
set_option linter.unusedSimpArgs false
set_option linter.unusedVariables false

/-- What slices.Delete(x, i, i+1) leaves in the block. -/
def delL (L : List Value) (n i : Nat) : List Value :=
  ins (ins L (i * 6) ((L.drop ((i + 1) * 6)).take ((n - (i + 1)) * 6))) ((n - 1) * 6) Dg.zero.row

theorem del_spec (g c n : Nat) (place : Int) (L : List Value) (h0 : 0 ≤ place) (h1 : place < n) (hnc : n ≤ c) (hL : L.length = c * 6) (hone : ∀ u ∈ L.take (n * 6), u.oneCell' = true) (hmax : (n : Int) ≤ 9223372036854) :
    Con Try.prog 23 #[.slice (some ⟨g, 0, none⟩) n c, .int .i64 place, .int .i64 (place + 1)] [(g, cl L 33)]
      fun v A => v = .slice (some ⟨g, 0, none⟩) (n - 1) c ∧ A = [(g, cl (delL L n place.toNat) 33)] := by
  refine Con.intro (vs := [_, _, _]) Try.func23 rfl Try.ntmps23 rfl (fun B => ?_)
  repeat' (first | refine Cd.seq ?_ | refine Cd.reg ?_ | refine Ops.nil ?_ | refine Ops.mv rfl rfl rfl rfl ?_ | refine Ops.asg rfl rfl rfl rfl ?_ | refine Ops.lenS rfl rfl rfl rfl ?_ | refine Ops.bin rfl rfl rfl rfl rfl ?_ | refine Cd.skip (Cd.next ?_) | refine Ops.sl3 rfl rfl rfl rfl rfl rfl (by omega) (by omega) (by omega) (by omega) rfl ?_ | refine Cd.condF rfl (by first | rfl | assumption | (simp only [decide_eq_true_eq, decide_eq_false_iff_not, Bool.not_eq_true', Bool.not_eq_false', Bool.not_eq_eq_eq_not, Bool.not_true, Bool.not_false, beq_iff_eq, beq_eq_false_iff_ne, ne_eq, decide_eq_decide, eq_self, true_iff, iff_true, not_true_eq_false, not_false_eq_true]; first | done | omega)) ?_)
  refine Cd.draw [(0, 0, []), (1, 0, []), (2, 0, []), (3, 0, []), (4, 0, []), (5, 0, []), (6, 2, []), (7, 2, [])] (by kernel_rfl) (by kernel_rfl) (by simp only [picked, nth]; exact rfl) ?_
  repeat' (first | refine Ops.mv rfl rfl rfl rfl ?_ | refine Ops.slLo rfl rfl rfl rfl (by omega) (by omega) rfl ?_ | refine Ops.slHi rfl rfl rfl rfl (by omega) (by omega) rfl ?_)
  refine Ops.appIn rfl rfl rfl rfl hL (by omega) (by omega) (fun u hu => by
    rw [List.take_drop, show (place + 1).toNat * 6 + (n - (place + 1).toNat) * 6 = n * 6 from by omega] at hu
    exact hone u (List.mem_of_mem_drop hu)) rfl (noPd rfl) ?_
  repeat' (first | refine Cd.seq ?_ | refine Cd.reg ?_ | refine Ops.nil ?_ | refine Ops.mv rfl rfl rfl rfl ?_ | refine Ops.lenS rfl rfl rfl rfl ?_ | refine Ops.asgE rfl (noPd rfl) rfl rfl rfl ?_ | refine Ops.slLH rfl rfl rfl rfl rfl (by omega) (by omega) (by omega) rfl ?_)
  refine Ops.clr rfl rfl rfl (by refine (ins_length ?_).trans hL; simp; omega) (by omega) (by omega) rfl rfl (noPd rfl) ?_
  repeat' (first | refine Cd.seq ?_ | refine Cd.reg ?_ | refine Ops.nil ?_ | refine Ops.mv rfl rfl rfl rfl ?_ | refine Ops.asg rfl rfl rfl rfl ?_)
  refine Cd.ret ?_
  have e1 : place.toNat + (n - (place + 1).toNat) = n - 1 := by omega
  have e2 : ((n - 1 : Nat) : Int).toNat = n - 1 := by omega
  have e3 : (place + 1).toNat = place.toNat + 1 := by omega
  have e4 : (n : Int).toNat - (n - 1) = 1 := by omega
  refine ret1 rfl (Res.tmp rfl) (fun _ h => h) ⟨by rw [e1], ?_⟩
  rw [e1, e2, e3, e4]
  rfl

theorem delL_flat (f1 x f2 spare : List Value) (n1 n2 : Nat) (l1 : f1.length = n1 * 6) (l2 : f2.length = n2 * 6) (hx : x.length = 6) :
    delL (f1 ++ (x ++ f2) ++ spare) (n1 + 1 + n2) n1 = f1 ++ f2 ++ (Dg.zero.row ++ spare) := by
  have e1 : n1 + 1 + n2 - (n1 + 1) = n2 := by omega
  have e2 : (f1 ++ (x ++ f2) ++ spare).drop ((n1 + 1) * 6) = f2 ++ spare := by
    have : f1 ++ (x ++ f2) ++ spare = (f1 ++ x) ++ (f2 ++ spare) := by simp
    rw [this]
    exact List.drop_left' (by simp [l1, hx]; omega)
  have e3 : (f2 ++ spare).take (n2 * 6) = f2 := List.take_left' l2
  have e4 : ins (f1 ++ (x ++ f2) ++ spare) (n1 * 6) f2 = (f1 ++ f2) ++ ((x ++ f2).drop f2.length ++ spare) := by
    rw [← l1, List.append_assoc, ins_app, List.drop_append_of_le_length (by simp)]
  have e6 : (n1 + 1 + n2 - 1) * 6 = (f1 ++ f2).length := by simp [l1, l2]; omega
  unfold delL
  rw [e1, e2, e3, e4, e6, ins_app, List.append_assoc]
  congr 2
  exact List.drop_left' (by simp [hx])

/-- On rows: the row is gone, its cells lie cleared at the end. -/
theorem delL_rows (rows : List (List Value)) (spare : List Value) (i : Nat) (hk : RowsOk 6 rows) (hi : i < rows.length) :
    delL (rows.flatten ++ spare) rows.length i = (rows.eraseIdx i).flatten ++ (Dg.zero.row ++ spare) := by
  obtain ⟨r1, x, r2, rfl, rfl⟩ : ∃ r1 x r2, rows = r1 ++ x :: r2 ∧ r1.length = i :=
    ⟨rows.take i, rows[i], rows.drop (i + 1), by simp, by simp; omega⟩
  have h1 : RowsOk 6 r1 := fun r hr => hk r (by simp [hr])
  have h2 : RowsOk 6 r2 := fun r hr => hk r (by simp [hr])
  have e0 : (r1 ++ x :: r2).eraseIdx r1.length = r1 ++ r2 := by simp [List.eraseIdx_append_of_length_le]
  have e1 : (r1 ++ x :: r2).length = r1.length + 1 + r2.length := by simp; omega
  rw [e0, e1, List.flatten_append, List.flatten_cons, List.flatten_append]
  exact delL_flat _ _ _ _ _ _ h1.len h2.len (hk x (by simp)).1
end Go.Proofs.Ytcbjdfiikadkbaa
