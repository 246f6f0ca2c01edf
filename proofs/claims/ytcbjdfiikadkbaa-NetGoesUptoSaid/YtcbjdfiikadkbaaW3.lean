import Derived.Test.YtcbjdfiikadkbaaW2
namespace Go.Proofs.Ytcbjdfiikadkbaa
open Go Go.Sep Go.Proofs
set_option maxRecDepth 10000
set_option linter.unusedSimpArgs false
set_option linter.unusedVariables false

theorem erase_map : ∀ (l : List Dg) (i : Nat), (l.map Dg.row).eraseIdx i = (l.eraseIdx i).map Dg.row
  | [], i => by simp
  | x :: l, 0 => by simp
  | x :: l, i + 1 => by simp [erase_map l i]

theorem take_yes (n : Nat) (sv : Value) (bag : List Dg) (sent place : Int) (G : List Blk) (x : Dg) (h : OwnD sv bag G) (h0 : 0 ≤ place) (hx : bag[place.toNat]? = some x) (hmax : (bag.length : Int) ≤ 9223372036854) :
    Con Try.prog 11 #[ptr n, .int .i64 place] (NetB n sv sent G)
      fun v A => v = .tuple #[.agg x.row.toArray, .int .i64 0] ∧ ∃ sv' G', A = NetB n sv' sent G' ∧ OwnD sv' (bag.eraseIdx place.toNat) G' := by
  have hlt : place < bag.length := by have := (List.getElem?_eq_some_iff.1 hx).1; omega
  obtain ⟨g, c, spare, rfl, rfl, hsp, hle⟩ := h.some_ (by omega)
  have hk := rows_ok bag
  refine Con.intro (vs := [_, _]) Try.func11 rfl Try.ntmps11 rfl (fun B => ?_)
  repeat' (first | refine Cd.seq ?_ | refine Cd.reg ?_ | refine Ops.mv rfl rfl rfl rfl ?_ | refine Ops.asg rfl rfl rfl rfl ?_ | refine Ops.alloc rfl rfl rfl (by first | exact noPd rfl | (intro v A' hR i hi; obtain ⟨b, rfl, rfl⟩ := hR; (repeat (rcases List.mem_cons.1 hi with rfl | hi; · (first | exact Still.ld1 rfl rfl rfl rfl rfl | exact Still.ldN rfl rfl rfl rfl | exact Still.len rfl rfl rfl rfl rfl | exact Still.skip rfl rfl rfl | exact Still.ldRow1 rfl rfl rfl (by assumption) (by assumption) rfl rfl | exact Still.ldR rfl rfl rfl (by apply_assumption) rfl))); cases hi)) (fun b => ?_))
  refine Ops.call (at_yes n _ bag sent place _ x h h0 hx) rfl (noPd rfl) rfl rfl rfl (fun v A' hR => ?_)
  obtain ⟨rfl, rfl⟩ := hR
  repeat' (first | refine Cd.seq ?_ | refine Cd.reg ?_ | refine Ops.nil ?_ | refine Ops.mv rfl rfl rfl rfl ?_ | refine Ops.asg rfl rfl rfl rfl ?_ | refine Ops.nilP rfl rfl rfl rfl ?_ | refine Ops.fa0 rfl rfl rfl rfl ?_ | refine Ops.ld1 rfl rfl rfl rfl rfl ?_ | refine Ops.addI rfl rfl rfl rfl (by omega) (by omega) rfl ?_ | refine Ops.bin rfl rfl rfl rfl rfl ?_ | refine Ops.ext rfl rfl rfl rfl rfl ?_ | refine Ops.alloc rfl rfl rfl (by first | exact noPd rfl | (intro v A' hR i hi; obtain ⟨b, rfl, rfl⟩ := hR; (repeat (rcases List.mem_cons.1 hi with rfl | hi; · (first | exact Still.ld1 rfl rfl rfl rfl rfl | exact Still.ldN rfl rfl rfl rfl | exact Still.len rfl rfl rfl rfl rfl | exact Still.skip rfl rfl rfl | exact Still.ldRow1 rfl rfl rfl (by assumption) (by assumption) rfl rfl | exact Still.ldR rfl rfl rfl (by apply_assumption) rfl))); cases hi)) (fun b => ?_) | refine Ops.stN rfl rfl rfl rfl rfl rfl (by first | exact noPd rfl | (intro v A' hR i hi; obtain rfl := hR; (repeat (rcases List.mem_cons.1 hi with rfl | hi; · (first | exact Still.ld1 rfl rfl rfl rfl rfl | exact Still.ldN rfl rfl rfl rfl | exact Still.len rfl rfl rfl rfl rfl | exact Still.skip rfl rfl rfl | exact Still.ldRow1 rfl rfl rfl (by assumption) (by assumption) rfl rfl | exact Still.ldR rfl rfl rfl (by apply_assumption) rfl))); cases hi)) ?_ | refine Cd.condT rfl rfl ?_)
  refine Ops.call (del_spec g c bag.length place ((bag.map Dg.row).flatten ++ spare) h0 hlt hle (by rw [List.length_append]; exact hsp) (fun u hu => ?_) hmax) rfl (noPd rfl) rfl rfl rfl (fun v A' hR => ?_)
  · have hl := hk.len
    rw [List.length_map] at hl
    rw [← hl, List.take_left'] at hu
    · obtain ⟨r, hr, hu⟩ := List.mem_flatten.1 hu
      exact oneAll_mem (hk r hr).2 u hu
    · rfl
  obtain ⟨rfl, rfl⟩ := hR
  repeat' (first | refine Cd.seq ?_ | refine Cd.reg ?_ | refine Ops.nil ?_ | refine Ops.mv rfl rfl rfl rfl ?_ | refine Ops.asg rfl rfl rfl rfl ?_ | refine Ops.nilP rfl rfl rfl rfl ?_ | refine Ops.fa0 rfl rfl rfl rfl ?_ | refine Ops.ldN rfl rfl rfl rfl ?_ | refine Ops.st1 rfl rfl rfl rfl rfl (by first | exact noPd rfl | (intro v A' hR i hi; obtain rfl := hR; (repeat (rcases List.mem_cons.1 hi with rfl | hi; · (first | exact Still.ld1 rfl rfl rfl rfl rfl | exact Still.ldN rfl rfl rfl rfl | exact Still.len rfl rfl rfl rfl rfl | exact Still.skip rfl rfl rfl | exact Still.ldRow1 rfl rfl rfl (by assumption) (by assumption) rfl rfl | exact Still.ldR rfl rfl rfl (by apply_assumption) rfl))); cases hi)) ?_ | refine Ops.stN rfl rfl rfl rfl rfl rfl (by first | exact noPd rfl | (intro v A' hR i hi; obtain rfl := hR; (repeat (rcases List.mem_cons.1 hi with rfl | hi; · (first | exact Still.ld1 rfl rfl rfl rfl rfl | exact Still.ldN rfl rfl rfl rfl | exact Still.len rfl rfl rfl rfl rfl | exact Still.skip rfl rfl rfl | exact Still.ldRow1 rfl rfl rfl (by assumption) (by assumption) rfl rfl | exact Still.ldR rfl rfl rfl (by apply_assumption) rfl))); cases hi)) ?_)
  refine Cd.ret ?_
  refine ret2 (A' := NetB n (.slice (some ⟨g, 0, none⟩) (bag.length - 1) c) sent [(g, cl (delL ((bag.map Dg.row).flatten ++ spare) bag.length place.toNat) 33)]) rfl (Res.cellN rfl) (Res.tmp rfl) (fun _ h => h.split) ⟨rfl, _, _, rfl, ?_⟩
  have hi : place.toNat < bag.length := by omega
  have e1 := delL_rows (bag.map Dg.row) spare place.toNat hk (by rw [List.length_map]; exact hi)
  rw [List.length_map] at e1
  have e2 : (bag.map Dg.row).eraseIdx place.toNat = (bag.eraseIdx place.toNat).map Dg.row := erase_map _ _
  have e3 : (bag.eraseIdx place.toNat).length = bag.length - 1 := by rw [List.length_eraseIdx, if_pos hi]
  have hl := hk.len
  have hl2 := (rows_ok (bag.eraseIdx place.toNat)).len
  rw [List.length_map] at hl hl2
  rw [e1, e2]
  refine ⟨rows_ok _, .inr ⟨g, c, Dg.zero.row ++ spare, by rw [List.length_map, e3], rfl, ?_, by rw [List.length_map, e3]; omega⟩⟩
  rw [hl2, List.length_append, e3]
  have : Dg.zero.row.length = 6 := rfl
  omega

theorem take_no (n : Nat) (sv : Value) (bag : List Dg) (sent place : Int) (G : List Blk) (h : OwnD sv bag G) (hp : place < 0 ∨ (bag.length : Int) ≤ place) :
    Con Try.prog 11 #[ptr n, .int .i64 place] (NetB n sv sent G)
      fun v A => v = .tuple #[.agg Dg.zero.row.toArray, .int .i64 30] ∧ A = NetB n sv sent G := by
  refine Con.intro (vs := [_, _]) Try.func11 rfl Try.ntmps11 rfl (fun B => ?_)
  repeat' (first | refine Cd.seq ?_ | refine Cd.reg ?_ | refine Ops.mv rfl rfl rfl rfl ?_ | refine Ops.asg rfl rfl rfl rfl ?_ | refine Ops.alloc rfl rfl rfl (by first | exact noPd rfl | (intro v A' hR i hi; obtain ⟨b, rfl, rfl⟩ := hR; (repeat (rcases List.mem_cons.1 hi with rfl | hi; · (first | exact Still.ld1 rfl rfl rfl rfl rfl | exact Still.ldN rfl rfl rfl rfl | exact Still.len rfl rfl rfl rfl rfl | exact Still.skip rfl rfl rfl | exact Still.ldRow1 rfl rfl rfl (by assumption) (by assumption) rfl rfl | exact Still.ldR rfl rfl rfl (by apply_assumption) rfl))); cases hi)) (fun b => ?_))
  refine Ops.call (at_no n _ bag sent place _ h hp) rfl (noPd rfl) rfl rfl rfl (fun v A' hR => ?_)
  obtain ⟨rfl, rfl⟩ := hR
  repeat' (first | refine Cd.seq ?_ | refine Cd.reg ?_ | refine Ops.nil ?_ | refine Ops.mv rfl rfl rfl rfl ?_ | refine Ops.asg rfl rfl rfl rfl ?_ | refine Ops.ldN rfl rfl rfl rfl ?_ | refine Ops.bin rfl rfl rfl rfl rfl ?_ | refine Ops.ext rfl rfl rfl rfl rfl ?_ | refine Ops.alloc rfl rfl rfl (by first | exact noPd rfl | (intro v A' hR i hi; obtain ⟨b, rfl, rfl⟩ := hR; (repeat (rcases List.mem_cons.1 hi with rfl | hi; · (first | exact Still.ld1 rfl rfl rfl rfl rfl | exact Still.ldN rfl rfl rfl rfl | exact Still.len rfl rfl rfl rfl rfl | exact Still.skip rfl rfl rfl | exact Still.ldRow1 rfl rfl rfl (by assumption) (by assumption) rfl rfl | exact Still.ldR rfl rfl rfl (by apply_assumption) rfl))); cases hi)) (fun b => ?_) | refine Ops.stN rfl rfl rfl rfl rfl rfl (by first | exact noPd rfl | (intro v A' hR i hi; obtain rfl := hR; (repeat (rcases List.mem_cons.1 hi with rfl | hi; · (first | exact Still.ld1 rfl rfl rfl rfl rfl | exact Still.ldN rfl rfl rfl rfl | exact Still.len rfl rfl rfl rfl rfl | exact Still.skip rfl rfl rfl | exact Still.ldRow1 rfl rfl rfl (by assumption) (by assumption) rfl rfl | exact Still.ldR rfl rfl rfl (by apply_assumption) rfl))); cases hi)) ?_ | refine Cd.condF rfl rfl ?_ | refine Cd.skip (Cd.next ?_))
  exact Cd.ret (ret2 rfl (Res.cellN rfl) (Res.tmp rfl) (fun _ h => h.split) ⟨rfl, rfl⟩)

theorem drop_yes (n : Nat) (sv : Value) (bag : List Dg) (sent place : Int) (G : List Blk) (x : Dg) (h : OwnD sv bag G) (h0 : 0 ≤ place) (hx : bag[place.toNat]? = some x) (hmax : (bag.length : Int) ≤ 9223372036854) :
    Con Try.prog 12 #[ptr n, .int .i64 place] (NetB n sv sent G)
      fun v A => v = .int .i64 0 ∧ ∃ sv' G', A = NetB n sv' sent G' ∧ OwnD sv' (bag.eraseIdx place.toNat) G' := by
  refine Con.intro (vs := [_, _]) Try.func12 rfl Try.ntmps12 rfl (fun B => ?_)
  repeat' (first | refine Cd.seq ?_ | refine Cd.reg ?_ | refine Ops.mv rfl rfl rfl rfl ?_ | refine Ops.asg rfl rfl rfl rfl ?_)
  refine Ops.call (take_yes n _ bag sent place _ x h h0 hx hmax) rfl (noPd rfl) rfl rfl rfl (fun v A' hR => ?_)
  obtain ⟨rfl, sv', G', rfl, hG'⟩ := hR
  repeat' (first | refine Cd.seq ?_ | refine Cd.reg ?_ | refine Ops.nil ?_ | refine Ops.mv rfl rfl rfl rfl ?_ | refine Ops.asg rfl rfl rfl rfl ?_ | refine Ops.ext rfl rfl rfl rfl rfl ?_ | refine Ops.alloc rfl rfl rfl (by first | exact noPd rfl | (intro v A' hR i hi; obtain ⟨b, rfl, rfl⟩ := hR; (repeat (rcases List.mem_cons.1 hi with rfl | hi; · (first | exact Still.ld1 rfl rfl rfl rfl rfl | exact Still.ldN rfl rfl rfl rfl | exact Still.len rfl rfl rfl rfl rfl | exact Still.skip rfl rfl rfl | exact Still.ldRow1 rfl rfl rfl (by assumption) (by assumption) rfl rfl | exact Still.ldR rfl rfl rfl (by apply_assumption) rfl))); cases hi)) (fun b => ?_) | refine Ops.stN rfl rfl rfl rfl rfl rfl (by first | exact noPd rfl | (intro v A' hR i hi; obtain rfl := hR; (repeat (rcases List.mem_cons.1 hi with rfl | hi; · (first | exact Still.ld1 rfl rfl rfl rfl rfl | exact Still.ldN rfl rfl rfl rfl | exact Still.len rfl rfl rfl rfl rfl | exact Still.skip rfl rfl rfl | exact Still.ldRow1 rfl rfl rfl (by assumption) (by assumption) rfl rfl | exact Still.ldR rfl rfl rfl (by apply_assumption) rfl))); cases hi)) ?_)
  exact Cd.ret (ret1 rfl (Res.tmp rfl) (fun _ h => h.split) ⟨rfl, sv', G', rfl, hG'⟩)

theorem drop_no (n : Nat) (sv : Value) (bag : List Dg) (sent place : Int) (G : List Blk) (h : OwnD sv bag G) (hp : place < 0 ∨ (bag.length : Int) ≤ place) :
    Con Try.prog 12 #[ptr n, .int .i64 place] (NetB n sv sent G)
      fun v A => v = .int .i64 30 ∧ A = NetB n sv sent G := by
  refine Con.intro (vs := [_, _]) Try.func12 rfl Try.ntmps12 rfl (fun B => ?_)
  repeat' (first | refine Cd.seq ?_ | refine Cd.reg ?_ | refine Ops.mv rfl rfl rfl rfl ?_ | refine Ops.asg rfl rfl rfl rfl ?_)
  refine Ops.call (take_no n _ bag sent place _ h hp) rfl (noPd rfl) rfl rfl rfl (fun v A' hR => ?_)
  obtain ⟨rfl, rfl⟩ := hR
  repeat' (first | refine Cd.seq ?_ | refine Cd.reg ?_ | refine Ops.nil ?_ | refine Ops.mv rfl rfl rfl rfl ?_ | refine Ops.asg rfl rfl rfl rfl ?_ | refine Ops.ext rfl rfl rfl rfl rfl ?_ | refine Ops.alloc rfl rfl rfl (by first | exact noPd rfl | (intro v A' hR i hi; obtain ⟨b, rfl, rfl⟩ := hR; (repeat (rcases List.mem_cons.1 hi with rfl | hi; · (first | exact Still.ld1 rfl rfl rfl rfl rfl | exact Still.ldN rfl rfl rfl rfl | exact Still.len rfl rfl rfl rfl rfl | exact Still.skip rfl rfl rfl | exact Still.ldRow1 rfl rfl rfl (by assumption) (by assumption) rfl rfl | exact Still.ldR rfl rfl rfl (by apply_assumption) rfl))); cases hi)) (fun b => ?_) | refine Ops.stN rfl rfl rfl rfl rfl rfl (by first | exact noPd rfl | (intro v A' hR i hi; obtain rfl := hR; (repeat (rcases List.mem_cons.1 hi with rfl | hi; · (first | exact Still.ld1 rfl rfl rfl rfl rfl | exact Still.ldN rfl rfl rfl rfl | exact Still.len rfl rfl rfl rfl rfl | exact Still.skip rfl rfl rfl | exact Still.ldRow1 rfl rfl rfl (by assumption) (by assumption) rfl rfl | exact Still.ldR rfl rfl rfl (by apply_assumption) rfl))); cases hi)) ?_)
  exact Cd.ret (ret1 rfl (Res.tmp rfl) (fun _ h => h.split) ⟨rfl, rfl⟩)

theorem dup_yes (n : Nat) (sv : Value) (bag : List Dg) (sent place : Int) (G : List Blk) (x : Dg) (h : OwnD sv bag G) (h0 : 0 ≤ place) (hx : bag[place.toNat]? = some x) (hlen : bag.length ≤ 2305843009213) (hs : 0 ≤ sent) (hs2 : sent ≤ 9223372036854) :
    Con Try.prog 13 #[ptr n, .int .i64 place] (NetB n sv sent G)
      fun v A => v = .tuple #[.int .i64 (sent + 1), .int .i64 0] ∧ ∃ sv' G', A = NetB n sv' (sent + 1) G' ∧ OwnD sv' (bag ++ [{ x with num := sent + 1 }]) G' := by
  refine Con.intro (vs := [_, _]) Try.func13 rfl Try.ntmps13 rfl (fun B => ?_)
  repeat' (first | refine Cd.seq ?_ | refine Cd.reg ?_ | refine Ops.mv rfl rfl rfl rfl ?_ | refine Ops.asg rfl rfl rfl rfl ?_)
  refine Ops.call (at_yes n _ bag sent place _ x h h0 hx) rfl (noPd rfl) rfl rfl rfl (fun v A' hR => ?_)
  obtain ⟨rfl, rfl⟩ := hR
  repeat' (first | refine Cd.seq ?_ | refine Cd.reg ?_ | refine Ops.nil ?_ | refine Ops.mv rfl rfl rfl rfl ?_ | refine Ops.asg rfl rfl rfl rfl ?_ | refine Ops.fa0 rfl rfl rfl rfl ?_ | refine Ops.ld1 rfl rfl rfl rfl rfl ?_ | refine Ops.ldN rfl rfl rfl rfl ?_ | refine Ops.bin rfl rfl rfl rfl rfl ?_ | refine Ops.ext rfl rfl rfl rfl rfl ?_ | refine Ops.alloc rfl rfl rfl (by first | exact noPd rfl | (intro v A' hR i hi; obtain ⟨b, rfl, rfl⟩ := hR; (repeat (rcases List.mem_cons.1 hi with rfl | hi; · (first | exact Still.ld1 rfl rfl rfl rfl rfl | exact Still.ldN rfl rfl rfl rfl | exact Still.len rfl rfl rfl rfl rfl | exact Still.skip rfl rfl rfl | exact Still.ldRow1 rfl rfl rfl (by assumption) (by assumption) rfl rfl | exact Still.ldR rfl rfl rfl (by apply_assumption) rfl))); cases hi)) (fun b => ?_) | refine Ops.stN rfl rfl rfl rfl rfl rfl (by first | exact noPd rfl | (intro v A' hR i hi; obtain rfl := hR; (repeat (rcases List.mem_cons.1 hi with rfl | hi; · (first | exact Still.ld1 rfl rfl rfl rfl rfl | exact Still.ldN rfl rfl rfl rfl | exact Still.len rfl rfl rfl rfl rfl | exact Still.skip rfl rfl rfl | exact Still.ldRow1 rfl rfl rfl (by assumption) (by assumption) rfl rfl | exact Still.ldR rfl rfl rfl (by apply_assumption) rfl))); cases hi)) ?_ | refine Cd.condF rfl rfl ?_ | refine Cd.skip (Cd.next ?_))
  refine Ops.call (send_spec n sv bag sent x.fn x.fl x.tn x.tl x.data G h hlen hs hs2) rfl (noPd rfl) rfl rfl rfl (fun v A' hR => ?_)
  obtain ⟨rfl, sv', G', rfl, hG'⟩ := hR
  repeat' (first | refine Ops.nil ?_ | refine Ops.asg rfl rfl rfl rfl ?_)
  exact Cd.ret (ret2 rfl (Res.tmp rfl) (Res.tmp rfl) (fun _ h => h.split) ⟨rfl, sv', G', rfl, hG'⟩)

theorem dup_no (n : Nat) (sv : Value) (bag : List Dg) (sent place : Int) (G : List Blk) (h : OwnD sv bag G) (hp : place < 0 ∨ (bag.length : Int) ≤ place) :
    Con Try.prog 13 #[ptr n, .int .i64 place] (NetB n sv sent G)
      fun v A => v = .tuple #[.int .i64 0, .int .i64 30] ∧ A = NetB n sv sent G := by
  refine Con.intro (vs := [_, _]) Try.func13 rfl Try.ntmps13 rfl (fun B => ?_)
  repeat' (first | refine Cd.seq ?_ | refine Cd.reg ?_ | refine Ops.mv rfl rfl rfl rfl ?_ | refine Ops.asg rfl rfl rfl rfl ?_)
  refine Ops.call (at_no n _ bag sent place _ h hp) rfl (noPd rfl) rfl rfl rfl (fun v A' hR => ?_)
  obtain ⟨rfl, rfl⟩ := hR
  repeat' (first | refine Cd.seq ?_ | refine Cd.reg ?_ | refine Ops.nil ?_ | refine Ops.mv rfl rfl rfl rfl ?_ | refine Ops.asg rfl rfl rfl rfl ?_ | refine Ops.bin rfl rfl rfl rfl rfl ?_ | refine Ops.ext rfl rfl rfl rfl rfl ?_ | refine Ops.alloc rfl rfl rfl (by first | exact noPd rfl | (intro v A' hR i hi; obtain ⟨b, rfl, rfl⟩ := hR; (repeat (rcases List.mem_cons.1 hi with rfl | hi; · (first | exact Still.ld1 rfl rfl rfl rfl rfl | exact Still.ldN rfl rfl rfl rfl | exact Still.len rfl rfl rfl rfl rfl | exact Still.skip rfl rfl rfl | exact Still.ldRow1 rfl rfl rfl (by assumption) (by assumption) rfl rfl | exact Still.ldR rfl rfl rfl (by apply_assumption) rfl))); cases hi)) (fun b => ?_) | refine Ops.stN rfl rfl rfl rfl rfl rfl (by first | exact noPd rfl | (intro v A' hR i hi; obtain rfl := hR; (repeat (rcases List.mem_cons.1 hi with rfl | hi; · (first | exact Still.ld1 rfl rfl rfl rfl rfl | exact Still.ldN rfl rfl rfl rfl | exact Still.len rfl rfl rfl rfl rfl | exact Still.skip rfl rfl rfl | exact Still.ldRow1 rfl rfl rfl (by assumption) (by assumption) rfl rfl | exact Still.ldR rfl rfl rfl (by apply_assumption) rfl))); cases hi)) ?_ | refine Cd.condT rfl rfl ?_)
  exact Cd.ret (ret2 rfl (Res.tmp rfl) (Res.tmp rfl) (fun _ h => h.split) ⟨rfl, rfl⟩)
end Go.Proofs.Ytcbjdfiikadkbaa
