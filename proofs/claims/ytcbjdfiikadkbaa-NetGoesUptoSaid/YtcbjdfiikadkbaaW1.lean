import Derived.Test.YtcbjdfiikadkbaaSepI

namespace Go.Proofs.Ytcbjdfiikadkbaa
open Go Go.Sep Go.Proofs
set_option maxRecDepth 10000
set_option linter.unusedSimpArgs false
set_option linter.unusedVariables false

structure Dg where
  num : Int
  fn : Int
  fl : Int
  tn : Int
  tl : Int
  data : ByteArray

/-- A datagram's cells. -/
@[reducible] def Dg.row (d : Dg) : List Value := [.int .i64 d.num, .int .i64 d.fn, .int .i64 d.fl, .int .i64 d.tn, .int .i64 d.tl, .string d.data]
@[reducible] def Dg.zero : Dg := ⟨0, 0, 0, 0, 0, ⟨#[]⟩⟩

theorem rows_ok (bag : List Dg) : RowsOk 6 (bag.map Dg.row) := fun r hr => by
  obtain ⟨d, _, rfl⟩ := List.mem_map.1 hr
  exact ⟨rfl, rfl⟩

/-- The bag: its struct's two cells, its datagrams. -/
@[reducible] def NetB (n : Nat) (sv : Value) (sent : Int) (G : List Blk) : List Blk := (n, cl [sv, .int .i64 sent] 58) :: G
def OwnD (sv : Value) (bag : List Dg) (G : List Blk) : Prop := Own 33 6 sv (bag.map Dg.row) G
@[reducible] def ptr (n : Nat) : Value := .pointer (some ⟨n, 0, none⟩)

theorem OwnD.form {sv : Value} {bag : List Dg} {G : List Blk} (h : OwnD sv bag G) : ∃ a c, sv = .slice a bag.length c := by
  obtain ⟨a, c, h⟩ := Own.form h
  exact ⟨a, c, by rw [h, List.length_map]⟩

theorem OwnD.some_ {sv : Value} {bag : List Dg} {G : List Blk} (h : OwnD sv bag G) (hn : 0 < bag.length) :
    ∃ g c spare, sv = .slice (some ⟨g, 0, none⟩) bag.length c ∧ G = [(g, cl ((bag.map Dg.row).flatten ++ spare) 33)] ∧ (bag.map Dg.row).flatten.length + spare.length = c * 6 ∧ bag.length ≤ c := by
  obtain ⟨g, c, spare, h1, h2, h3, h4⟩ := Own.some_ h (by rw [List.length_map]; exact hn)
  rw [List.length_map] at h1 h4
  exact ⟨g, c, spare, h1, h2, h3, h4⟩

theorem new_spec : Con Try.prog 7 #[] [] fun v A => ∃ b, v = .pointer (some ⟨b, 0, none⟩) ∧ A = [(b, cl [.slice none 0 0, .int .i64 0] 58)] := by
  refine Con.intro (vs := []) Try.func7 rfl Try.ntmps7 rfl (fun B => ?_)
  repeat' (first | refine Cd.seq ?_ | refine Cd.reg ?_ | refine Ops.nil ?_ | refine Ops.asg rfl rfl rfl rfl ?_ | refine Ops.bld rfl rfl rfl rfl ?_ | refine Ops.box rfl rfl rfl rfl (by first | exact noPd rfl | (intro v A' hR i hi; obtain ⟨b, rfl, rfl⟩ := hR; (repeat (rcases List.mem_cons.1 hi with rfl | hi; · (first | exact Still.ld1 rfl rfl rfl rfl rfl | exact Still.ldN rfl rfl rfl rfl | exact Still.len rfl rfl rfl rfl rfl | exact Still.skip rfl rfl rfl | exact Still.ldRow1 rfl rfl rfl (by assumption) (by assumption) rfl rfl | exact Still.ldR rfl rfl rfl (by apply_assumption) rfl))); cases hi)) (fun b => ?_))
  refine Cd.ret ?_
  exact ret1 rfl (Res.tmp rfl) (fun _ h => h) ⟨_, rfl, rfl⟩

theorem len_spec (n : Nat) (sv : Value) (bag : List Dg) (sent : Int) (G : List Blk) (h : OwnD sv bag G) :
    Con Try.prog 14 #[ptr n] (NetB n sv sent G) fun v A => v = .int .i64 bag.length ∧ A = NetB n sv sent G := by
  obtain ⟨a, c, rfl⟩ := h.form
  refine Con.intro (vs := [_]) Try.func14 rfl Try.ntmps14 rfl (fun B => ?_)
  repeat' (first | refine Cd.seq ?_ | refine Cd.reg ?_ | refine Ops.nil ?_ | refine Ops.mv rfl rfl rfl rfl ?_ | refine Ops.asg rfl rfl rfl rfl ?_ | refine Ops.nilP rfl rfl rfl rfl ?_ | refine Ops.fa0 rfl rfl rfl rfl ?_ | refine Ops.ld1 rfl rfl rfl rfl rfl ?_ | refine Ops.lenS rfl rfl rfl rfl ?_)
  exact Cd.ret (ret1 rfl (Res.tmp rfl) (fun _ h => h) ⟨rfl, rfl⟩)

theorem sent_spec (n : Nat) (sv : Value) (sent : Int) :
    Con Try.prog 15 #[ptr n] (NetB n sv sent []) fun v A => v = .int .i64 sent ∧ A = NetB n sv sent [] := by
  refine Con.intro (vs := [_]) Try.func15 rfl Try.ntmps15 rfl (fun B => ?_)
  repeat' (first | refine Cd.seq ?_ | refine Cd.reg ?_ | refine Ops.nil ?_ | refine Ops.mv rfl rfl rfl rfl ?_ | refine Ops.asg rfl rfl rfl rfl ?_ | refine Ops.nilP rfl rfl rfl rfl ?_ | refine Ops.fa0 rfl rfl rfl rfl ?_ | refine Ops.ld1 rfl rfl rfl rfl rfl ?_)
  exact Cd.ret (ret1 rfl (Res.tmp rfl) (fun _ h => h) ⟨rfl, rfl⟩)

theorem at_no (n : Nat) (sv : Value) (bag : List Dg) (sent place : Int) (G : List Blk) (h : OwnD sv bag G) (hp : place < 0 ∨ (bag.length : Int) ≤ place) :
    Con Try.prog 9 #[ptr n, .int .i64 place] (NetB n sv sent G) fun v A => v = .tuple #[.agg Dg.zero.row.toArray, .int .i64 30] ∧ A = NetB n sv sent G := by
  obtain ⟨a, c, rfl⟩ := h.form
  refine Con.intro (vs := [_, _]) Try.func9 rfl Try.ntmps9 rfl (fun B => ?_)
  repeat' (first | refine Cd.seq ?_ | refine Cd.reg ?_ | refine Ops.nil ?_ | refine Ops.mv rfl rfl rfl rfl ?_ | refine Ops.asg rfl rfl rfl rfl ?_ | refine Ops.nilP rfl rfl rfl rfl ?_ | refine Ops.fa0 rfl rfl rfl rfl ?_ | refine Ops.ld1 rfl rfl rfl rfl rfl ?_ | refine Ops.lenS rfl rfl rfl rfl ?_ | refine Ops.bin rfl rfl rfl rfl rfl ?_ | refine Ops.pickT rfl rfl rfl rfl rfl ?_ | refine Ops.pickF rfl rfl rfl rfl rfl ?_ | refine Ops.bld rfl rfl rfl rfl ?_ | refine Ops.alloc rfl rfl rfl (by first | exact noPd rfl | (intro v A' hR i hi; obtain ⟨b, rfl, rfl⟩ := hR; (repeat (rcases List.mem_cons.1 hi with rfl | hi; · (first | exact Still.ld1 rfl rfl rfl rfl rfl | exact Still.ldN rfl rfl rfl rfl | exact Still.len rfl rfl rfl rfl rfl | exact Still.skip rfl rfl rfl | exact Still.ldRow1 rfl rfl rfl (by assumption) (by assumption) rfl rfl | exact Still.ldR rfl rfl rfl (by apply_assumption) rfl))); cases hi)) (fun b => ?_) | refine Ops.stN rfl rfl rfl rfl rfl rfl (by first | exact noPd rfl | (intro v A' hR i hi; obtain rfl := hR; (repeat (rcases List.mem_cons.1 hi with rfl | hi; · (first | exact Still.ld1 rfl rfl rfl rfl rfl | exact Still.ldN rfl rfl rfl rfl | exact Still.len rfl rfl rfl rfl rfl | exact Still.skip rfl rfl rfl | exact Still.ldRow1 rfl rfl rfl (by assumption) (by assumption) rfl rfl | exact Still.ldR rfl rfl rfl (by apply_assumption) rfl))); cases hi)) ?_ | refine Ops.gSkip rfl rfl rfl ?_ | refine Cd.condT rfl rfl ?_ | refine Cd.condT rfl (by first | rfl | assumption | (simp only [decide_eq_true_eq, decide_eq_false_iff_not, Bool.not_eq_true', Bool.not_eq_false', Bool.not_eq_eq_eq_not, Bool.not_true, Bool.not_false, beq_iff_eq, beq_eq_false_iff_ne, ne_eq, decide_eq_decide, eq_self, true_iff, iff_true, not_true_eq_false, not_false_eq_true]; first | done | omega)) ?_ | ((fail_if_success refine Ops.probe rfl ?_); refine Ops.gSplit rfl rfl (fun hc => ?_) (fun hc => ?_) <;> (try simp only [decide_eq_true_eq, decide_eq_false_iff_not, Bool.not_eq_true', Bool.not_eq_false', Bool.not_eq_eq_eq_not, Bool.not_true, Bool.not_false, Int.not_lt, Int.not_le] at hc)))
  all_goals exact Cd.ret (ret2 rfl (Res.cellN rfl) (Res.tmp rfl) (fun _ h => h.tail) ⟨rfl, rfl⟩)

theorem at_yes (n : Nat) (sv : Value) (bag : List Dg) (sent place : Int) (G : List Blk) (x : Dg) (h : OwnD sv bag G) (h0 : 0 ≤ place) (hx : bag[place.toNat]? = some x) :
    Con Try.prog 9 #[ptr n, .int .i64 place] (NetB n sv sent G) fun v A => v = .tuple #[.agg x.row.toArray, .int .i64 0] ∧ A = NetB n sv sent G := by
  have hlt : place < bag.length := by have := (List.getElem?_eq_some_iff.1 hx).1; omega
  obtain ⟨g, c, spare, rfl, rfl, _, _⟩ := h.some_ (by omega)
  have hr : (bag.map Dg.row)[place.toNat]? = some x.row := by rw [List.getElem?_map, hx]; rfl
  have hk := rows_ok bag
  clear h hx
  refine Con.intro (vs := [_, _]) Try.func9 rfl Try.ntmps9 rfl (fun B => ?_)
  repeat' (first | refine Cd.seq ?_ | refine Cd.reg ?_ | refine Ops.nil ?_ | refine Ops.mv rfl rfl rfl rfl ?_ | refine Ops.asg rfl rfl rfl rfl ?_ | refine Ops.nilP rfl rfl rfl rfl ?_ | refine Ops.fa0 rfl rfl rfl rfl ?_ | refine Ops.ld1 rfl rfl rfl rfl rfl ?_ | refine Ops.lenS rfl rfl rfl rfl ?_ | refine Ops.bin rfl rfl rfl rfl rfl ?_ | refine Ops.pickF rfl rfl rfl rfl rfl ?_ | refine Ops.alloc rfl rfl rfl (by first | exact noPd rfl | (intro v A' hR i hi; obtain ⟨b, rfl, rfl⟩ := hR; (repeat (rcases List.mem_cons.1 hi with rfl | hi; · (first | exact Still.ld1 rfl rfl rfl rfl rfl | exact Still.ldN rfl rfl rfl rfl | exact Still.len rfl rfl rfl rfl rfl | exact Still.skip rfl rfl rfl | exact Still.ldRow1 rfl rfl rfl (by assumption) (by assumption) rfl rfl | exact Still.ldR rfl rfl rfl (by apply_assumption) rfl))); cases hi)) (fun b => ?_) | refine Ops.stN rfl rfl rfl rfl rfl rfl (by first | exact noPd rfl | (intro v A' hR i hi; obtain rfl := hR; (repeat (rcases List.mem_cons.1 hi with rfl | hi; · (first | exact Still.ld1 rfl rfl rfl rfl rfl | exact Still.ldN rfl rfl rfl rfl | exact Still.len rfl rfl rfl rfl rfl | exact Still.skip rfl rfl rfl | exact Still.ldRow1 rfl rfl rfl (by assumption) (by assumption) rfl rfl | exact Still.ldR rfl rfl rfl (by apply_assumption) rfl))); cases hi)) ?_ | refine Cd.skip (Cd.next ?_) | refine Ops.ixa0 rfl rfl rfl rfl (by omega) (by omega) rfl ?_ | refine Ops.ldRow rfl rfl rfl (by assumption) (by assumption) rfl ?_ | refine Cd.condF rfl (by first | rfl | assumption | (simp only [decide_eq_true_eq, decide_eq_false_iff_not, Bool.not_eq_true', Bool.not_eq_false', Bool.not_eq_eq_eq_not, Bool.not_true, Bool.not_false, beq_iff_eq, beq_eq_false_iff_ne, ne_eq, decide_eq_decide, eq_self, true_iff, iff_true, not_true_eq_false, not_false_eq_true]; first | done | omega)) ?_ | ((fail_if_success refine Ops.probe rfl ?_); refine Ops.gF rfl rfl (by first | rfl | assumption | (simp only [decide_eq_true_eq, decide_eq_false_iff_not, Bool.not_eq_true', Bool.not_eq_false', Bool.not_eq_eq_eq_not, Bool.not_true, Bool.not_false, beq_iff_eq, beq_eq_false_iff_ne, ne_eq, decide_eq_decide, eq_self, true_iff, iff_true, not_true_eq_false, not_false_eq_true]; first | done | omega)) ?_))
  exact Cd.ret (ret2 rfl (Res.cellN rfl) (Res.tmp rfl) (fun _ h => h.tail) ⟨rfl, rfl⟩)

theorem send_spec (n : Nat) (sv : Value) (bag : List Dg) (sent fn fl tn tl : Int) (data : ByteArray) (G : List Blk) (h : OwnD sv bag G) (hlen : bag.length ≤ 2305843009213) (hs : 0 ≤ sent) (hs2 : sent ≤ 9223372036854) :
    Con Try.prog 10 #[ptr n, .agg #[.int .i64 fn, .int .i64 fl], .agg #[.int .i64 tn, .int .i64 tl], .string data] (NetB n sv sent G)
      fun v A => v = .int .i64 (sent + 1) ∧ ∃ sv' G', A = NetB n sv' (sent + 1) G' ∧ OwnD sv' (bag ++ [⟨sent + 1, fn, fl, tn, tl, data⟩]) G' := by
  refine Con.intro (vs := [_, _, _, _]) Try.func10 rfl Try.ntmps10 rfl (fun B => ?_)
  repeat' (first | refine Cd.seq ?_ | refine Cd.reg ?_ | refine Ops.mv rfl rfl rfl rfl ?_ | refine Ops.asg rfl rfl rfl rfl ?_ | refine Ops.nilP rfl rfl rfl rfl ?_ | refine Ops.fa0 rfl rfl rfl rfl ?_ | refine Ops.ld1 rfl rfl rfl rfl rfl ?_ | refine Ops.addI rfl rfl rfl rfl (by omega) (by omega) rfl ?_ | refine Ops.box rfl rfl rfl rfl (by first | exact noPd rfl | (intro v A' hR i hi; obtain ⟨b, rfl, rfl⟩ := hR; (repeat (rcases List.mem_cons.1 hi with rfl | hi; · (first | exact Still.ld1 rfl rfl rfl rfl rfl | exact Still.ldN rfl rfl rfl rfl | exact Still.len rfl rfl rfl rfl rfl | exact Still.skip rfl rfl rfl | exact Still.ldRow1 rfl rfl rfl (by assumption) (by assumption) rfl rfl | exact Still.ldR rfl rfl rfl (by apply_assumption) rfl))); cases hi)) (fun b => ?_) | refine Ops.st1 rfl rfl rfl rfl rfl (by first | exact noPd rfl | (intro v A' hR i hi; obtain rfl := hR; (repeat (rcases List.mem_cons.1 hi with rfl | hi; · (first | exact Still.ld1 rfl rfl rfl rfl rfl | exact Still.ldN rfl rfl rfl rfl | exact Still.len rfl rfl rfl rfl rfl | exact Still.skip rfl rfl rfl | exact Still.ldRow1 rfl rfl rfl (by assumption) (by assumption) rfl rfl | exact Still.ldR rfl rfl rfl (by apply_assumption) rfl))); cases hi)) ?_)
  refine Cd.draw [(0, 0, []), (1, 0, []), (2, 0, []), (3, 0, []), (4, 1, []), (5, 0, []), (6, 0, []), (7, 0, []), (8, 1, []), (9, 1, []), (10, 1, []), (11, 0, []), (12, 0, []), (13, 2, [4]), (14, 2, []), (15, 0, []), (16, 0, []), (17, 2, [])] (by kernel_rfl) (by kernel_rfl) (by simp only [picked, nth]; exact rfl) ?_
  repeat' (first | refine Ops.mv rfl rfl rfl rfl ?_ | refine Ops.nilP rfl rfl rfl rfl ?_ | refine Ops.fa0 rfl rfl rfl rfl ?_ | refine Ops.ld1 rfl rfl rfl rfl rfl ?_ | refine Ops.ldN rfl rfl rfl rfl ?_ | refine Ops.bld rfl rfl rfl rfl ?_ | refine Ops.bs1 rfl rfl rfl rfl rfl rfl rfl (by first | exact noPd rfl | (intro v A' hR i hi; obtain ⟨b, rfl, rfl⟩ := hR; (repeat (rcases List.mem_cons.1 hi with rfl | hi; · (first | exact Still.ld1 rfl rfl rfl rfl rfl | exact Still.ldN rfl rfl rfl rfl | exact Still.len rfl rfl rfl rfl rfl | exact Still.skip rfl rfl rfl | exact Still.ldRow1 rfl rfl rfl (by assumption) (by assumption) rfl rfl | exact Still.ldR rfl rfl rfl (by apply_assumption) rfl))); cases hi)) (fun b => ?_))
  refine Ops.app1 (rows := bag.map Dg.row) h (by rw [List.length_map]; omega) (by rw [List.length_map]; omega) rfl rfl rfl rfl (by rfl) (by rfl) rfl (by first | exact noPd rfl | (intro v A' hR i hi; obtain ⟨G2, hR, rfl⟩ := hR; (repeat (rcases List.mem_cons.1 hi with rfl | hi; · (first | exact Still.ld1 rfl rfl rfl rfl rfl | exact Still.ldN rfl rfl rfl rfl | exact Still.len rfl rfl rfl rfl rfl | exact Still.skip rfl rfl rfl | exact Still.ldRow1 rfl rfl rfl (by assumption) (by assumption) rfl rfl | exact Still.ldR rfl rfl rfl (by apply_assumption) rfl))); cases hi)) rfl (fun v G' hG' => ?_)
  obtain ⟨a', c', rfl⟩ := hG'.form
  repeat' (first | refine Cd.seq ?_ | refine Cd.reg ?_ | refine Ops.nil ?_ | refine Ops.mv rfl rfl rfl rfl ?_ | refine Ops.asg rfl rfl rfl rfl ?_ | refine Ops.nilP rfl rfl rfl rfl ?_ | refine Ops.fa0 rfl rfl rfl rfl ?_ | refine Ops.ld1 rfl rfl rfl rfl rfl ?_ | refine Ops.st1 rfl rfl rfl rfl rfl (by first | exact noPd rfl | (intro v A' hR i hi; obtain rfl := hR; (repeat (rcases List.mem_cons.1 hi with rfl | hi; · (first | exact Still.ld1 rfl rfl rfl rfl rfl | exact Still.ldN rfl rfl rfl rfl | exact Still.len rfl rfl rfl rfl rfl | exact Still.skip rfl rfl rfl | exact Still.ldRow1 rfl rfl rfl (by assumption) (by assumption) rfl rfl | exact Still.ldR rfl rfl rfl (by apply_assumption) rfl))); cases hi)) ?_)
  refine Cd.ret ?_
  refine ret1 (A' := NetB n (.slice a' (bag.map Dg.row ++ [Dg.row ⟨sent + 1, fn, fl, tn, tl, data⟩]).length c') (sent + 1) G') rfl (Res.tmp rfl) (fun _ h => h.split) ⟨rfl, _, G', rfl, ?_⟩
  unfold OwnD
  rw [List.map_append]
  exact hG'
end Go.Proofs.Ytcbjdfiikadkbaa
