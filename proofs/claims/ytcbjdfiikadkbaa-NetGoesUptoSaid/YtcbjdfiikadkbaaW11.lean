import Derived.Test.YtcbjdfiikadkbaaW10
import Derived.Test.YtcbjdfiikadkbaaW3
namespace Go.Proofs.Ytcbjdfiikadkbaa
open Go Go.Sep Go.Proofs
set_option maxRecDepth 10000
set_option maxHeartbeats 1000000
set_option linter.unusedSimpArgs false
set_option linter.unusedVariables false

theorem rdup_yes (n : Nat) (sv : Value) (bag : List Dg) (sent place : Int) (G : List Blk) (x : Dg) (h : OwnD sv bag G) (h0 : 0 ≤ place) (hx : bag[place.toNat]? = some x) (hlen : bag.length ≤ 2305843009213) (hs : 0 ≤ sent) (hs2 : sent ≤ 9223372036854) :
    Con Try.prog 28 #[ptr n, .int .i64 place] (RefB n sv sent G)
      fun v A => v = .tuple #[.int .i64 (sent + 1), .int .i64 0] ∧ ∃ sv' G', A = RefB n sv' (sent + 1) G' ∧ OwnD sv' (bag ++ [{ x with num := sent + 1 }]) G' := by
  refine Con.intro (vs := [_, _]) Try.func28 rfl Try.ntmps28 rfl (fun B => ?_)
  repeat' (first | refine Cd.seq ?_ | refine Cd.reg ?_ | refine Ops.mv rfl rfl rfl rfl ?_ | refine Ops.asg rfl rfl rfl rfl ?_)
  refine Ops.call (rat_yes n _ bag sent place _ x h h0 hx) rfl (noPd rfl) rfl rfl rfl (fun v A' hR => ?_)
  obtain ⟨rfl, rfl⟩ := hR
  repeat' (first | refine Cd.seq ?_ | refine Cd.reg ?_ | refine Ops.nil ?_ | refine Ops.mv rfl rfl rfl rfl ?_ | refine Ops.asg rfl rfl rfl rfl ?_ | refine Ops.fa0 rfl rfl rfl rfl ?_ | refine Ops.ld1 rfl rfl rfl rfl rfl ?_ | refine Ops.ldN rfl rfl rfl rfl ?_ | refine Ops.bin rfl rfl rfl rfl rfl ?_ | refine Ops.ext rfl rfl rfl rfl rfl ?_ | refine Ops.alloc rfl rfl rfl (by first | exact noPd rfl | (intro v A' hR i hi; obtain ⟨b, rfl, rfl⟩ := hR; (repeat (rcases List.mem_cons.1 hi with rfl | hi; · (first | exact Still.ld1 rfl rfl rfl rfl rfl | exact Still.ldN rfl rfl rfl rfl | exact Still.len rfl rfl rfl rfl rfl | exact Still.skip rfl rfl rfl | exact Still.ldRow1 rfl rfl rfl (by assumption) (by assumption) rfl rfl | exact Still.ldR rfl rfl rfl (by apply_assumption) rfl))); cases hi)) (fun b => ?_) | refine Ops.stN rfl rfl rfl rfl rfl rfl (by first | exact noPd rfl | (intro v A' hR i hi; obtain rfl := hR; (repeat (rcases List.mem_cons.1 hi with rfl | hi; · (first | exact Still.ld1 rfl rfl rfl rfl rfl | exact Still.ldN rfl rfl rfl rfl | exact Still.len rfl rfl rfl rfl rfl | exact Still.skip rfl rfl rfl | exact Still.ldRow1 rfl rfl rfl (by assumption) (by assumption) rfl rfl | exact Still.ldR rfl rfl rfl (by apply_assumption) rfl))); cases hi)) ?_ | refine Cd.condF rfl rfl ?_ | refine Cd.skip (Cd.next ?_))
  refine Ops.call (rsend_spec n sv bag sent x.fn x.fl x.tn x.tl x.data G h hlen hs hs2) rfl (noPd rfl) rfl rfl rfl (fun v A' hR => ?_)
  obtain ⟨rfl, sv', G', rfl, hG'⟩ := hR
  repeat' (first | refine Ops.nil ?_ | refine Ops.asg rfl rfl rfl rfl ?_)
  exact Cd.ret (ret2 rfl (Res.tmp rfl) (Res.tmp rfl) (fun _ h => h.split) ⟨rfl, sv', G', rfl, hG'⟩)

theorem rdup_no (n : Nat) (sv : Value) (bag : List Dg) (sent place : Int) (G : List Blk) (h : OwnD sv bag G) (hp : place < 0 ∨ (bag.length : Int) ≤ place) :
    Con Try.prog 28 #[ptr n, .int .i64 place] (RefB n sv sent G)
      fun v A => v = .tuple #[.int .i64 0, .int .i64 30] ∧ A = RefB n sv sent G := by
  refine Con.intro (vs := [_, _]) Try.func28 rfl Try.ntmps28 rfl (fun B => ?_)
  repeat' (first | refine Cd.seq ?_ | refine Cd.reg ?_ | refine Ops.mv rfl rfl rfl rfl ?_ | refine Ops.asg rfl rfl rfl rfl ?_)
  refine Ops.call (rat_no n _ bag sent place _ h hp) rfl (noPd rfl) rfl rfl rfl (fun v A' hR => ?_)
  obtain ⟨rfl, rfl⟩ := hR
  repeat' (first | refine Cd.seq ?_ | refine Cd.reg ?_ | refine Ops.nil ?_ | refine Ops.mv rfl rfl rfl rfl ?_ | refine Ops.asg rfl rfl rfl rfl ?_ | refine Ops.bin rfl rfl rfl rfl rfl ?_ | refine Ops.ext rfl rfl rfl rfl rfl ?_ | refine Ops.alloc rfl rfl rfl (by first | exact noPd rfl | (intro v A' hR i hi; obtain ⟨b, rfl, rfl⟩ := hR; (repeat (rcases List.mem_cons.1 hi with rfl | hi; · (first | exact Still.ld1 rfl rfl rfl rfl rfl | exact Still.ldN rfl rfl rfl rfl | exact Still.len rfl rfl rfl rfl rfl | exact Still.skip rfl rfl rfl | exact Still.ldRow1 rfl rfl rfl (by assumption) (by assumption) rfl rfl | exact Still.ldR rfl rfl rfl (by apply_assumption) rfl))); cases hi)) (fun b => ?_) | refine Ops.stN rfl rfl rfl rfl rfl rfl (by first | exact noPd rfl | (intro v A' hR i hi; obtain rfl := hR; (repeat (rcases List.mem_cons.1 hi with rfl | hi; · (first | exact Still.ld1 rfl rfl rfl rfl rfl | exact Still.ldN rfl rfl rfl rfl | exact Still.len rfl rfl rfl rfl rfl | exact Still.skip rfl rfl rfl | exact Still.ldRow1 rfl rfl rfl (by assumption) (by assumption) rfl rfl | exact Still.ldR rfl rfl rfl (by apply_assumption) rfl))); cases hi)) ?_ | refine Cd.condT rfl rfl ?_)
  exact Cd.ret (ret2 rfl (Res.tmp rfl) (Res.tmp rfl) (fun _ h => h.split) ⟨rfl, rfl⟩)

theorem rtake_no (n : Nat) (sv : Value) (bag : List Dg) (sent place : Int) (G : List Blk) (h : OwnD sv bag G) (hp : place < 0 ∨ (bag.length : Int) ≤ place) :
    Con Try.prog 27 #[ptr n, .int .i64 place] (RefB n sv sent G)
      fun v A => v = .tuple #[.agg Dg.zero.row.toArray, .int .i64 30] ∧ A = RefB n sv sent G := by
  refine Con.intro (vs := [_, _]) Try.func27 rfl Try.ntmps27 rfl (fun B => ?_)
  repeat' (first | refine Cd.seq ?_ | refine Cd.reg ?_ | refine Ops.mv rfl rfl rfl rfl ?_ | refine Ops.asg rfl rfl rfl rfl ?_ | refine Ops.alloc rfl rfl rfl (by first | exact noPd rfl | (intro v A' hR i hi; obtain ⟨b, rfl, rfl⟩ := hR; (repeat (rcases List.mem_cons.1 hi with rfl | hi; · (first | exact Still.ld1 rfl rfl rfl rfl rfl | exact Still.ldN rfl rfl rfl rfl | exact Still.len rfl rfl rfl rfl rfl | exact Still.skip rfl rfl rfl | exact Still.ldRow1 rfl rfl rfl (by assumption) (by assumption) rfl rfl | exact Still.ldR rfl rfl rfl (by apply_assumption) rfl))); cases hi)) (fun b => ?_))
  refine Ops.call (rat_no n _ bag sent place _ h hp) rfl (noPd rfl) rfl rfl rfl (fun v A' hR => ?_)
  obtain ⟨rfl, rfl⟩ := hR
  repeat' (first | refine Cd.seq ?_ | refine Cd.reg ?_ | refine Ops.nil ?_ | refine Ops.mv rfl rfl rfl rfl ?_ | refine Ops.asg rfl rfl rfl rfl ?_ | refine Ops.ldN rfl rfl rfl rfl ?_ | refine Ops.bin rfl rfl rfl rfl rfl ?_ | refine Ops.ext rfl rfl rfl rfl rfl ?_ | refine Ops.alloc rfl rfl rfl (by first | exact noPd rfl | (intro v A' hR i hi; obtain ⟨b, rfl, rfl⟩ := hR; (repeat (rcases List.mem_cons.1 hi with rfl | hi; · (first | exact Still.ld1 rfl rfl rfl rfl rfl | exact Still.ldN rfl rfl rfl rfl | exact Still.len rfl rfl rfl rfl rfl | exact Still.skip rfl rfl rfl | exact Still.ldRow1 rfl rfl rfl (by assumption) (by assumption) rfl rfl | exact Still.ldR rfl rfl rfl (by apply_assumption) rfl))); cases hi)) (fun b => ?_) | refine Ops.stN rfl rfl rfl rfl rfl rfl (by first | exact noPd rfl | (intro v A' hR i hi; obtain rfl := hR; (repeat (rcases List.mem_cons.1 hi with rfl | hi; · (first | exact Still.ld1 rfl rfl rfl rfl rfl | exact Still.ldN rfl rfl rfl rfl | exact Still.len rfl rfl rfl rfl rfl | exact Still.skip rfl rfl rfl | exact Still.ldRow1 rfl rfl rfl (by assumption) (by assumption) rfl rfl | exact Still.ldR rfl rfl rfl (by apply_assumption) rfl))); cases hi)) ?_ | refine Cd.condF rfl rfl ?_ | refine Cd.skip (Cd.next ?_))
  exact Cd.ret (ret2 rfl (Res.cellN rfl) (Res.tmp rfl) (fun _ h => h.split) ⟨rfl, rfl⟩)

theorem rtake_yes (n : Nat) (sv : Value) (bag : List Dg) (sent place : Int) (G : List Blk) (x : Dg) (h : OwnD sv bag G) (h0 : 0 ≤ place) (hx : bag[place.toNat]? = some x) (hmax : bag.length ≤ 2305843009213) :
    Con Try.prog 27 #[ptr n, .int .i64 place] (RefB n sv sent G)
      fun v A => v = .tuple #[.agg x.row.toArray, .int .i64 0] ∧ ∃ sv' G', A = RefB n sv' sent G' ∧ OwnD sv' (bag.eraseIdx place.toNat) G' := by
  have hlt : place < bag.length := by have := (List.getElem?_eq_some_iff.1 hx).1; omega
  obtain ⟨g, c, spare, rfl, rfl, hsp, hle⟩ := h.some_ (by omega)
  have hk := rows_ok bag
  refine Con.intro (vs := [_, _]) Try.func27 rfl Try.ntmps27 rfl (fun B => ?_)
  repeat' (first | refine Cd.seq ?_ | refine Cd.reg ?_ | refine Ops.mv rfl rfl rfl rfl ?_ | refine Ops.asg rfl rfl rfl rfl ?_ | refine Ops.alloc rfl rfl rfl (by first | exact noPd rfl | (intro v A' hR i hi; obtain ⟨b, rfl, rfl⟩ := hR; (repeat (rcases List.mem_cons.1 hi with rfl | hi; · (first | exact Still.ld1 rfl rfl rfl rfl rfl | exact Still.ldN rfl rfl rfl rfl | exact Still.len rfl rfl rfl rfl rfl | exact Still.skip rfl rfl rfl | exact Still.ldRow1 rfl rfl rfl (by assumption) (by assumption) rfl rfl | exact Still.ldR rfl rfl rfl (by apply_assumption) rfl))); cases hi)) (fun b => ?_))
  refine Ops.call (rat_yes n _ bag sent place _ x h h0 hx) rfl (noPd rfl) rfl rfl rfl (fun v A' hR => ?_)
  obtain ⟨rfl, rfl⟩ := hR
  repeat' (first | refine Cd.seq ?_ | refine Cd.reg ?_ | refine Ops.nil ?_ | refine Ops.mv rfl rfl rfl rfl ?_ | refine Ops.asg rfl rfl rfl rfl ?_ | refine Ops.nilP rfl rfl rfl rfl ?_ | refine Ops.fa0 rfl rfl rfl rfl ?_ | refine Ops.ld1 rfl rfl rfl rfl rfl ?_ | refine Ops.bin rfl rfl rfl rfl rfl ?_ | refine Ops.ext rfl rfl rfl rfl rfl ?_ | refine Ops.alloc rfl rfl rfl (by first | exact noPd rfl | (intro v A' hR i hi; obtain ⟨b, rfl, rfl⟩ := hR; (repeat (rcases List.mem_cons.1 hi with rfl | hi; · (first | exact Still.ld1 rfl rfl rfl rfl rfl | exact Still.ldN rfl rfl rfl rfl | exact Still.len rfl rfl rfl rfl rfl | exact Still.skip rfl rfl rfl | exact Still.ldRow1 rfl rfl rfl (by assumption) (by assumption) rfl rfl | exact Still.ldR rfl rfl rfl (by apply_assumption) rfl))); cases hi)) (fun b => ?_) | refine Ops.bs0 rfl rfl rfl (by first | exact noPd rfl | (intro v A' hR i hi; obtain ⟨b, rfl, rfl⟩ := hR; (repeat (rcases List.mem_cons.1 hi with rfl | hi; · (first | exact Still.ld1 rfl rfl rfl rfl rfl | exact Still.ldN rfl rfl rfl rfl | exact Still.len rfl rfl rfl rfl rfl | exact Still.skip rfl rfl rfl | exact Still.ldRow1 rfl rfl rfl (by assumption) (by assumption) rfl rfl | exact Still.ldR rfl rfl rfl (by apply_assumption) rfl))); cases hi)) (fun b => ?_) | refine Ops.stN rfl rfl rfl rfl rfl rfl (by first | exact noPd rfl | (intro v A' hR i hi; obtain rfl := hR; (repeat (rcases List.mem_cons.1 hi with rfl | hi; · (first | exact Still.ld1 rfl rfl rfl rfl rfl | exact Still.ldN rfl rfl rfl rfl | exact Still.len rfl rfl rfl rfl rfl | exact Still.skip rfl rfl rfl | exact Still.ldRow1 rfl rfl rfl (by assumption) (by assumption) rfl rfl | exact Still.ldR rfl rfl rfl (by apply_assumption) rfl))); cases hi)) ?_ | refine Cd.condT rfl rfl ?_ | refine Ops.slHi rfl rfl rfl rfl (by omega) (by omega) rfl ?_)
  refine Ops.appS (rows := []) (news := ((bag.map Dg.row).drop 0).take place.toNat) Own.empty (Reads.at_ hk rfl (by simp; omega)) (by simp; omega) (by simp; omega) rfl rfl rfl rfl rfl (noPd rfl) rfl (fun v G' hG' => ?_)
  obtain ⟨a', c', rfl⟩ := hG'.form
  repeat' (first | refine Cd.reg ?_ | refine Ops.mv rfl rfl rfl rfl ?_ | refine Ops.asg rfl rfl rfl rfl ?_ | refine Ops.nilP rfl rfl rfl rfl ?_ | refine Ops.fa0 rfl rfl rfl rfl ?_ | refine Ops.ld1 rfl rfl rfl rfl rfl ?_ | refine Ops.addI rfl rfl rfl rfl (by omega) (by omega) rfl ?_ | refine Ops.slLo rfl rfl rfl rfl (by omega) (by omega) rfl ?_)
  have hi : place.toNat < bag.length := by omega
  have e1 : (place + 1).toNat = place.toNat + 1 := by omega
  rw [e1]
  have hsuf : ∀ A, Has A g (cl ((bag.map Dg.row).flatten ++ spare) 33) → Reads Try.prog B.plain A 6 (.slice (some (slA g c (place.toNat + 1) 6)) (bag.length - (place.toNat + 1)) (c - (place.toNat + 1))) (((bag.map Dg.row).drop (place.toNat + 1)).take (bag.length - (place.toNat + 1))) := fun A hb => by
    unfold slA
    split
    · rw [show bag.length - (place.toNat + 1) = 0 from by omega]
      exact Reads.none
    · exact Reads.at_ (hb := hb) hk rfl (by simp; omega)
  refine Ops.appS hG' (hsuf _ inferInstance) (by simp; omega) (by simp; omega) rfl rfl rfl rfl rfl (noPd rfl) rfl (fun v G2 hG2 => ?_)
  obtain ⟨a2, c2, rfl⟩ := hG2.form
  repeat' (first | refine Cd.seq ?_ | refine Cd.reg ?_ | refine Ops.nil ?_ | refine Ops.mv rfl rfl rfl rfl ?_ | refine Ops.asg rfl rfl rfl rfl ?_ | refine Ops.nilP rfl rfl rfl rfl ?_ | refine Ops.fa0 rfl rfl rfl rfl ?_ | refine Ops.ldN rfl rfl rfl rfl ?_ | refine Ops.st1 rfl rfl rfl rfl rfl (by first | exact noPd rfl | (intro v A' hR i hi; obtain rfl := hR; (repeat (rcases List.mem_cons.1 hi with rfl | hi; · (first | exact Still.ld1 rfl rfl rfl rfl rfl | exact Still.ldN rfl rfl rfl rfl | exact Still.len rfl rfl rfl rfl rfl | exact Still.skip rfl rfl rfl | exact Still.ldRow1 rfl rfl rfl (by assumption) (by assumption) rfl rfl | exact Still.ldR rfl rfl rfl (by apply_assumption) rfl))); cases hi)) ?_ | refine Ops.stN rfl rfl rfl rfl rfl rfl (by first | exact noPd rfl | (intro v A' hR i hi; obtain rfl := hR; (repeat (rcases List.mem_cons.1 hi with rfl | hi; · (first | exact Still.ld1 rfl rfl rfl rfl rfl | exact Still.ldN rfl rfl rfl rfl | exact Still.len rfl rfl rfl rfl rfl | exact Still.skip rfl rfl rfl | exact Still.ldRow1 rfl rfl rfl (by assumption) (by assumption) rfl rfl | exact Still.ldR rfl rfl rfl (by apply_assumption) rfl))); cases hi)) ?_)
  have e2 : ([] : List (List Value)) ++ ((bag.map Dg.row).drop 0).take place.toNat ++ ((bag.map Dg.row).drop (place.toNat + 1)).take (bag.length - (place.toNat + 1)) = (bag.eraseIdx place.toNat).map Dg.row := by
    rw [List.nil_append, List.drop_zero, List.take_of_length_le (l := (bag.map Dg.row).drop (place.toNat + 1)) (by simp), ← erase_map, List.eraseIdx_eq_take_drop_succ]
  refine Cd.ret (ret2 (A' := RefB n _ sent G2) rfl (Res.cellN rfl) (Res.tmp rfl) (fun _ h => h.split) ⟨rfl, _, G2, rfl, by unfold OwnD; rw [← e2]; exact hG2⟩)

theorem rclone_spec (n : Nat) (sv : Value) (bag : List Dg) (sent : Int) (G : List Blk) (h : OwnD sv bag G) (hlen : bag.length ≤ 2305843009213) :
    Con Try.prog 18 #[ptr n] (RefB n sv sent G) fun v A => ∃ n' sv' G', v = ptr n' ∧ A = RefB n' sv' sent (G' ++ RefB n sv sent G) ∧ OwnD sv' bag G' := by
  obtain ⟨a, c, rfl⟩ := h.form
  refine Con.intro (vs := [_]) Try.func18 rfl Try.ntmps18 rfl (fun B => ?_)
  repeat' (first | refine Cd.seq ?_ | refine Cd.reg ?_ | refine Ops.asg rfl rfl rfl rfl ?_ | refine Ops.bs0 rfl rfl rfl (by first | exact noPd rfl | (intro v A' hR i hi; obtain ⟨b, rfl, rfl⟩ := hR; (repeat (rcases List.mem_cons.1 hi with rfl | hi; · (first | exact Still.ld1 rfl rfl rfl rfl rfl | exact Still.ldN rfl rfl rfl rfl | exact Still.len rfl rfl rfl rfl rfl | exact Still.skip rfl rfl rfl | exact Still.ldRow1 rfl rfl rfl (by assumption) (by assumption) rfl rfl | exact Still.ldR rfl rfl rfl (by apply_assumption) rfl))); cases hi)) (fun b => ?_))
  refine Cd.draw [(0, 0, []), (1, 0, []), (2, 0, []), (3, 0, []), (4, 1, []), (6, 0, []), (7, 0, []), (8, 0, []), (9, 1, []), (5, 2, [9]), (10, 0, []), (11, 2, []), (12, 0, [])] (by kernel_rfl) (by kernel_rfl) (by simp only [picked, nth]; exact rfl) ?_
  repeat' (first | refine Ops.mv rfl rfl rfl rfl ?_ | refine Ops.nilP rfl rfl rfl rfl ?_ | refine Ops.fa0 rfl rfl rfl rfl ?_ | refine Ops.ld1 rfl rfl rfl rfl rfl ?_)
  refine Ops.appS (rows := []) (news := bag.map Dg.row) Own.empty (Reads.own h) (by simp; omega) (by simp; omega) rfl rfl rfl rfl rfl (by first | exact noPd rfl | (intro v A' hR i hi; obtain ⟨G2, hR, rfl⟩ := hR; (repeat (rcases List.mem_cons.1 hi with rfl | hi; · (first | exact Still.ld1 rfl rfl rfl rfl rfl | exact Still.ldN rfl rfl rfl rfl | exact Still.len rfl rfl rfl rfl rfl | exact Still.skip rfl rfl rfl | exact Still.ldRow1 rfl rfl rfl (by assumption) (by assumption) rfl rfl | exact Still.ldR rfl rfl rfl (by apply_assumption) rfl))); cases hi)) rfl (fun v G' hG' => ?_)
  obtain ⟨a', c', rfl⟩ := hG'.form
  repeat' (first | refine Ops.nil ?_ | refine Ops.asg rfl rfl rfl rfl ?_ | refine Ops.bld rfl rfl rfl rfl ?_ | refine Ops.box rfl rfl rfl rfl (by first | exact noPd rfl | (intro v A' hR i hi; obtain ⟨b, rfl, rfl⟩ := hR; (repeat (rcases List.mem_cons.1 hi with rfl | hi; · (first | exact Still.ld1 rfl rfl rfl rfl rfl | exact Still.ldN rfl rfl rfl rfl | exact Still.len rfl rfl rfl rfl rfl | exact Still.skip rfl rfl rfl | exact Still.ldRow1 rfl rfl rfl (by assumption) (by assumption) rfl rfl | exact Still.ldR rfl rfl rfl (by apply_assumption) rfl))); cases hi)) (fun b => ?_))
  exact Cd.ret (ret1 (A' := RefB _ (.slice a' ([] ++ bag.map Dg.row).length c') sent (G' ++ RefB n (.slice a bag.length c) sent G)) rfl (Res.tmp rfl) (fun _ h => h.split) ⟨_, _, G', rfl, rfl, by unfold OwnD; simpa using hG'⟩)
end Go.Proofs.Ytcbjdfiikadkbaa
