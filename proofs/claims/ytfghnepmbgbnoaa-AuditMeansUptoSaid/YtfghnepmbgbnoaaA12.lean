import Derived.Test.YtfghnepmbgbnoaaA6
import Derived.Test.YtfghnepmbgbnoaaSep28
namespace Go.Proofs.Ytfghnepmbgbnoaa
open Go Go.Sep Go.Proofs
set_option maxRecDepth 10000
set_option maxHeartbeats 4000000
set_option synthInstance.maxSize 2000
set_option linter.unusedSimpArgs false
set_option linter.unusedVariables false

/-! equal neighbours are taken out -/
theorem compact_id (sv : Value) (xs : List Int) (G : List Blk) (h : OwnI sv xs G) (hd : xs.Pairwise (· < ·)) (hl : xs.length ≤ 100) :
    Con Try.prog 35 #[sv] G fun v A => v = sv ∧ A = G := by
  obtain ⟨a, c, rfl⟩ := h.form
  by_cases h2 : xs.length < 2
  · have h2' : (xs.length : Int) < 2 := by omega
    refine Con.intro (vs := [_]) Try.func35 rfl Try.ntmps35 rfl (fun B => ?_)
    repeat' (first | refine Cd.seq ?_ | refine Cd.reg ?_ | refine Ops.nil ?_ | refine Ops.mv rfl rfl rfl rfl ?_ | refine Ops.asg rfl rfl rfl rfl ?_ | refine Ops.lenS rfl rfl rfl rfl ?_ | refine Ops.bin rfl rfl rfl rfl rfl ?_ | refine Cd.condT rfl (by first | rfl | assumption | (simp only [decide_eq_true_eq, decide_eq_false_iff_not, Bool.not_eq_true', Bool.not_eq_false', Bool.not_eq_eq_eq_not, Bool.not_true, Bool.not_false, beq_iff_eq, beq_eq_false_iff_ne, ne_eq, decide_eq_decide, eq_self, true_iff, iff_true, not_true_eq_false, not_false_eq_true]; first | done | omega)) ?_)
    exact Cd.ret (ret1 (A' := G) rfl (Res.tmp rfl) (fun _ h => h) ⟨rfl, rfl⟩)
  · have h2' : ¬ (xs.length : Int) < 2 := by omega
    have hll : (xs.map irow).length = xs.length := List.length_map _
    obtain ⟨g, c', spare, e1, rfl, hsp, hle⟩ := Own.some_ h (by rw [hll]; omega)
    rw [hll] at e1 hle
    injection e1 with q1 q2 q3
    subst q1; subst q3
    have hok := irows_ok xs
    refine Con.intro (vs := [_]) Try.func35 rfl Try.ntmps35 rfl (fun B => ?_)
    repeat' (first | refine Cd.seq ?_ | refine Cd.reg ?_ | refine Ops.nil ?_ | refine Ops.mv rfl rfl rfl rfl ?_ | refine Ops.asg rfl rfl rfl rfl ?_ | refine Ops.lenS rfl rfl rfl rfl ?_ | refine Ops.bin rfl rfl rfl rfl rfl ?_ | refine Cd.block ?_ | refine Cd.skip (Cd.next ?_) | refine Cd.condF rfl (by first | rfl | assumption | (simp only [decide_eq_true_eq, decide_eq_false_iff_not, Bool.not_eq_true', Bool.not_eq_false', Bool.not_eq_eq_eq_not, Bool.not_true, Bool.not_false, beq_iff_eq, beq_eq_false_iff_ne, ne_eq, decide_eq_decide, eq_self, true_iff, iff_true, not_true_eq_false, not_false_eq_true]; first | done | omega)) ?_)
    refine Cd.loopK (fun i : Nat => 1 ≤ i ∧ i ≤ xs.length) (fun i => [(0, .slice (some ⟨g, 0, none⟩) xs.length c), (3, .int .i64 i)]) (fun _ => [(g, cl ((xs.map irow).flatten ++ spare) 3)]) (fun i => xs.length - i) 1 ⟨Nat.le_refl _, by omega⟩ ⟨rfl, rfl, trivial⟩ (fun w h => h) (fun i hI => ?_)
    obtain ⟨hi1, hi⟩ := hI
    by_cases hil : i < xs.length
    · have hil' : (i : Int) < xs.length := by omega
      obtain ⟨x, hx⟩ : ∃ x, xs[i]? = some x := ⟨_, List.getElem?_eq_getElem hil⟩
      obtain ⟨y, hy⟩ : ∃ y, xs[i - 1]? = some y := ⟨_, List.getElem?_eq_getElem (by omega)⟩
      have hne : ¬ x = y := fun e => by
        obtain ⟨p1, p2⟩ := List.getElem?_eq_some_iff.1 hx
        obtain ⟨p3, p4⟩ := List.getElem?_eq_some_iff.1 hy
        have := List.pairwise_iff_getElem.1 hd (i - 1) i p3 p1 (by omega)
        omega
      have hrx : (xs.map irow)[(i : Int).toNat]? = some [.int .i64 x] := by rw [Int.toNat_natCast, List.getElem?_map, hx]; rfl
      have hry : (xs.map irow)[((i : Int) - 1).toNat]? = some [.int .i64 y] := by rw [show ((i : Int) - 1).toNat = i - 1 from by omega, List.getElem?_map, hy]; rfl
      repeat' (first | refine Cd.seq ?_ | refine Cd.reg ?_ | refine Ops.nil ?_ | refine Ops.mv rfl rfl rfl rfl ?_ | refine Ops.lenS rfl rfl rfl rfl ?_ | refine Ops.bin rfl rfl rfl rfl rfl ?_ | refine Cd.block ?_ | refine Cd.skip (Cd.next ?_) | refine Cd.condT rfl (by first | rfl | assumption | (simp only [decide_eq_true_eq, decide_eq_false_iff_not, Bool.not_eq_true', Bool.not_eq_false', Bool.not_eq_eq_eq_not, Bool.not_true, Bool.not_false, beq_iff_eq, beq_eq_false_iff_ne, ne_eq, decide_eq_decide, eq_self, true_iff, iff_true, not_true_eq_false, not_false_eq_true]; first | done | omega)) ?_)
      refine Cd.draw [(0, 0, []), (1, 0, []), (2, 0, []), (3, 1, []), (4, 0, []), (5, 0, []), (6, 0, []), (7, 0, []), (8, 1, []), (9, 0, [])] (by kernel_rfl) (by kernel_rfl) (by simp only [picked, nth]; exact rfl) ?_
      repeat' (first | refine Cd.reg ?_ | refine Ops.nil ?_ | refine Ops.mv rfl rfl rfl rfl ?_ | refine Ops.asg rfl rfl rfl rfl ?_ | refine Ops.addI rfl rfl rfl rfl (by omega) (by omega) rfl ?_ | refine Ops.subI rfl rfl rfl rfl (by omega) (by omega) rfl ?_ | refine Ops.bin rfl rfl rfl rfl rfl ?_ | refine Cd.skip (Cd.next (Q' := fun _ _ _ => True) ?_) | refine Ops.ixa0 rfl rfl rfl rfl (by omega) (by omega) rfl ?_ | refine Ops.ldCell rfl rfl rfl (by assumption) (by assumption) rfl ?_ | refine Cd.condF rfl (by first | rfl | assumption | (simp only [decide_eq_true_eq, decide_eq_false_iff_not, Bool.not_eq_true', Bool.not_eq_false', Bool.not_eq_eq_eq_not, Bool.not_true, Bool.not_false, beq_iff_eq, beq_eq_false_iff_ne, ne_eq, decide_eq_decide, eq_self, true_iff, iff_true, not_true_eq_false, not_false_eq_true]; first | done | omega)) ?_)
      exact Ops.nilN (round_end (i + 1) ⟨by show 1 ≤ i + 1; omega, by show i + 1 ≤ xs.length; omega⟩ (by show xs.length - (i + 1) < xs.length - i; omega) ⟨rfl, rfl, trivial⟩ (fun w h => h))
    · obtain rfl : i = xs.length := by omega
      have hil' : ¬ ((xs.length : Nat) : Int) < xs.length := by omega
      repeat' (first | refine Cd.seq ?_ | refine Cd.reg ?_ | refine Ops.nil ?_ | refine Ops.mv rfl rfl rfl rfl ?_ | refine Ops.asg rfl rfl rfl rfl ?_ | refine Ops.lenS rfl rfl rfl rfl ?_ | refine Ops.bin rfl rfl rfl rfl rfl ?_ | refine Cd.exit (Cd.next (Q' := fun _ _ _ => True) ?_) | refine Cd.condF rfl (by first | rfl | assumption | (simp only [decide_eq_true_eq, decide_eq_false_iff_not, Bool.not_eq_true', Bool.not_eq_false', Bool.not_eq_eq_eq_not, Bool.not_true, Bool.not_false, beq_iff_eq, beq_eq_false_iff_ne, ne_eq, decide_eq_decide, eq_self, true_iff, iff_true, not_true_eq_false, not_false_eq_true]; first | done | omega)) ?_)
      exact Cd.ret (ret1 (A' := [(g, cl ((xs.map irow).flatten ++ spare) 3)]) rfl (Res.tmp rfl) (fun _ h => h) ⟨rfl, rfl⟩)
theorem compact_two (sv : Value) (x : Int) (G : List Blk) (h : OwnI sv [x, x] G) :
    Con Try.prog 35 #[sv] G fun v A => OwnI v [x] A := by
  obtain ⟨g, c', spare, e1, rfl, hsp0, hle0⟩ := Own.some_ h (by simp)
  obtain rfl : sv = .slice (some ⟨g, 0, none⟩) 2 c' := e1
  have hsp : 2 + spare.length = c' := by simp at hsp0; omega
  have hle : 2 ≤ c' := by simpa using hle0
  clear hsp0 hle0
  have hok : RowsOk 1 [[Value.int .i64 x], [Value.int .i64 x]] := irows_ok [x, x]
  refine Con.intro (vs := [_]) Try.func35 rfl Try.ntmps35 rfl (fun B => ?_)
  repeat' (first | refine Cd.seq ?_ | refine Cd.reg ?_ | refine Ops.nil ?_ | refine Ops.mv rfl rfl rfl rfl ?_ | refine Ops.asg rfl rfl rfl rfl ?_ | refine Ops.lenS rfl rfl rfl rfl ?_ | refine Ops.bin rfl rfl rfl rfl rfl ?_ | refine Cd.condF rfl rfl ?_ | refine Cd.block ?_ | refine Cd.skip (Cd.next ?_))
  refine Cd.loopK (σ := Unit) (fun _ => True) (fun _ => [(0, .slice (some ⟨g, 0, none⟩) 2 c'), (3, .int .i64 1)]) (fun _ => [(g, cl (([[Value.int .i64 x], [Value.int .i64 x]] : List (List Value)).flatten ++ spare) 3)]) (fun _ => 0) () trivial ⟨rfl, rfl, trivial⟩ (fun w h => h) (fun _ _ => ?_)
  have hrx : ([[Value.int .i64 x], [Value.int .i64 x]] : List (List Value))[(1 : Int).toNat]? = some [.int .i64 x] := rfl
  have hry : ([[Value.int .i64 x], [Value.int .i64 x]] : List (List Value))[((1 : Int) - 1).toNat]? = some [.int .i64 x] := rfl
  repeat' (first | refine Cd.seq ?_ | refine Cd.reg ?_ | refine Ops.nil ?_ | refine Ops.mv rfl rfl rfl rfl ?_ | refine Ops.lenS rfl rfl rfl rfl ?_ | refine Ops.bin rfl rfl rfl rfl rfl ?_ | refine Cd.condT rfl rfl ?_ | refine Cd.block ?_ | refine Cd.skip (Cd.next ?_))
  refine Cd.draw [(0, 0, []), (1, 0, []), (2, 0, []), (3, 1, []), (4, 0, []), (5, 0, []), (6, 0, []), (7, 0, []), (8, 1, []), (9, 0, [])] (by kernel_rfl) (by kernel_rfl) (by simp only [picked, nth]; exact rfl) ?_
  repeat' (first | refine Cd.seq ?_ | refine Cd.reg ?_ | refine Ops.nil ?_ | refine Ops.mv rfl rfl rfl rfl ?_ | refine Ops.asg rfl rfl rfl rfl ?_ | refine Ops.ld1 rfl rfl rfl rfl rfl ?_ | refine Ops.subI rfl rfl rfl rfl (by omega) (by omega) rfl ?_ | refine Ops.bin rfl rfl rfl rfl rfl ?_ | refine Cd.block ?_ | refine Ops.ixa0 rfl rfl rfl rfl (by omega) (by omega) rfl ?_ | refine Ops.slLo rfl rfl rfl rfl (by omega) (by omega) rfl ?_ | refine Cd.condT rfl (by first | rfl | assumption | (simp only [decide_eq_true_eq, decide_eq_false_iff_not, Bool.not_eq_true', Bool.not_eq_false', Bool.not_eq_eq_eq_not, Bool.not_true, Bool.not_false, beq_iff_eq, beq_eq_false_iff_ne, ne_eq, decide_eq_decide, eq_self, true_iff, iff_true, not_true_eq_false, not_false_eq_true]; first | done | omega)) ?_)
  refine Cd.loopK (σ := Unit) (fun _ => True) (fun _ => [(0, .slice (some ⟨g, 0, none⟩) 2 c'), (3, .int .i64 1), (4, .slice (some (slA g c' 1 1)) 1 (c' - 1)), (5, .int .i64 1)]) (fun _ => [(g, cl (([[Value.int .i64 x], [Value.int .i64 x]] : List (List Value)).flatten ++ spare) 3)]) (fun _ => 0) () trivial ⟨rfl, rfl, rfl, rfl, trivial⟩ (fun w h => h) (fun _ _ => ?_)
  repeat' (first | refine Cd.seq ?_ | refine Cd.reg ?_ | refine Ops.nil ?_ | refine Ops.mv rfl rfl rfl rfl ?_ | refine Ops.lenS rfl rfl rfl rfl ?_ | refine Ops.bin rfl rfl rfl rfl rfl ?_ | refine Cd.condF rfl rfl ?_ | refine Cd.exit (Cd.next (Q' := fun _ _ _ => True) ?_) | refine Ops.slLo rfl rfl rfl rfl (by omega) (by omega) rfl ?_)
  refine Ops.clr (L := (([[Value.int .i64 x], [Value.int .i64 x]] : List (List Value)).flatten ++ spare)) (c := c') (i := 1) rfl rfl rfl (by simp; omega) (by omega) (by omega) rfl rfl (noPd rfl) ?_
  repeat' (first | refine Cd.seq ?_ | refine Cd.reg ?_ | refine Ops.nil ?_ | refine Ops.mv rfl rfl rfl rfl ?_ | refine Ops.asg rfl rfl rfl rfl ?_ | refine Ops.slHi rfl rfl rfl rfl (by omega) (by omega) rfl ?_)
  refine Cd.ret (ret1 (A' := _) rfl (Res.tmp rfl) (fun _ h => h) ?_)
  refine ⟨irows_ok [x], .inr ⟨g, c', .int .i64 0 :: spare, rfl, ?_, by simp; omega, by simp; omega⟩⟩
  simp [ins]

/-! faults -/
@[reducible] def frow (f : Int × Int) : List Value := [.int .i64 f.1, .int .i64 f.2]
def OwnF (sv : Value) (l : List (Int × Int)) (G : List Blk) : Prop := Own 30 2 sv (l.map frow) G
def RsF (sv : Value) (l : List (Int × Int)) (G : List Blk) : Prop := Rs 30 2 sv (l.map frow) G
theorem fr_ok (l : List (Int × Int)) : RowsOk 2 (l.map frow) := rows_map (f := frow) (fun _ => ⟨rfl, rfl⟩) l
theorem OwnF.form {sv : Value} {l : List (Int × Int)} {G : List Blk} (h : OwnF sv l G) : ∃ a c, sv = .slice a l.length c := by
  obtain ⟨a, c, h⟩ := Own.form h
  exact ⟨a, c, by rw [h, List.length_map]⟩
theorem RsF.form {sv : Value} {l : List (Int × Int)} {G : List Blk} (h : RsF sv l G) : ∃ a c, sv = .slice a l.length c := by
  obtain ⟨a, c, h⟩ := Rs.form h
  exact ⟨a, c, by rw [h, List.length_map]⟩
theorem clip_spec (sv : Value) (l : List (Int × Int)) (G : List Blk) (h : OwnF sv l G) : Con Try.prog 17 #[sv] [] fun v A => RsF v l G ∧ A = [] := by
  refine Con.intro (vs := [_]) Try.func17 rfl Try.ntmps17 rfl (fun B => ?_)
  rcases h.2 with ⟨rfl, hb, rfl⟩ | ⟨g, c, spare, rfl, rfl, hsp, hle⟩
  · repeat' (first | refine Cd.seq ?_ | refine Cd.reg ?_ | refine Ops.mv rfl rfl rfl rfl ?_ | refine Ops.asg rfl rfl rfl rfl ?_ | refine Ops.lenS rfl rfl rfl rfl ?_)
    refine Ops.slHM rfl rfl rfl rfl rfl (by omega) (by omega) (by omega) rfl ?_
    repeat' (first | refine Ops.nil ?_ | refine Ops.asg rfl rfl rfl rfl ?_)
    exact Cd.ret (ret1 rfl (Res.tmp rfl) (fun _ h => h) ⟨⟨h.1, .inl ⟨rfl, hb, rfl⟩⟩, rfl⟩)
  · repeat' (first | refine Cd.seq ?_ | refine Cd.reg ?_ | refine Ops.mv rfl rfl rfl rfl ?_ | refine Ops.asg rfl rfl rfl rfl ?_ | refine Ops.lenS rfl rfl rfl rfl ?_)
    refine Ops.slHM rfl rfl rfl rfl rfl (by omega) (by omega) (by omega) rfl ?_
    repeat' (first | refine Ops.nil ?_ | refine Ops.asg rfl rfl rfl rfl ?_)
    exact Cd.ret (ret1 rfl (Res.tmp rfl) (fun _ h => h) ⟨⟨h.1, .inr ⟨g, _, spare, rfl, rfl⟩⟩, rfl⟩)

/-! the rules -/
@[reducible] def meth (f ab : Nat) : Value := .func (.func f) [ptr ab].toArray [].toArray
@[reducible] def rules (ab vb cm pn : Nat) : List (List Value) :=
  [[.int .i64 2, meth 23 ab], [.int .i64 5, meth 24 ab], [.int .i64 8, meth 25 ab],
   [.int .i64 6, meth 26 ab], [.int .i64 7, meth 26 ab], [.int .i64 9, meth 27 ab],
   [.int .i64 13, meth 28 ab], [.int .i64 4, meth 29 ab], [.int .i64 14, meth 30 ab],
   [.int .i64 10, .func (.func 31) [.map (some cm)].toArray [].toArray], [.int .i64 11, .func (.func 31) [.map (some pn)].toArray [].toArray],
   [.int .i64 12, .func (.func 32) [].toArray [ptr vb].toArray]]
@[reducible] def RB (ab vb rb cm pn : Nat) : List Blk := [(vb, cl [ptr ab] 48), (rb, cl ((rules ab vb cm pn).flatten ++ []) 71)]
theorem rules_ok (ab vb cm pn : Nat) : RowsOk 2 (rules ab vb cm pn) := fun r hr => by
  simp only [rules, List.mem_cons, List.not_mem_nil, or_false] at hr
  rcases hr with rfl | rfl | rfl | rfl | rfl | rfl | rfl | rfl | rfl | rfl | rfl | rfl <;> exact ⟨rfl, rfl⟩

theorem new_spec : Con Try.prog 15 #[] [] fun v A => ∃ ab vb rb cm pn em, v = ptr ab ∧
    A = AuL ab none 0 0 ⟨0, cm, pn, em, Ad.new, false, 0, .slice (some ⟨rb, 0, none⟩) 12 12⟩ (.slice none 0 0) [] [] [] [] (eents []) [] [] ++ RB ab vb rb cm pn := by
  refine Con.intro (vs := []) Try.func15 rfl Try.ntmps15 rfl (fun B => ?_)
  refine Cd.seq ?_
  refine Cd.reg ?_
  repeat' (first | refine Ops.mkM rfl rfl rfl (noPd rfl) (fun b => ?_) | refine Cd.seq ?_ | refine Cd.reg ?_ | refine Ops.asg rfl rfl rfl rfl ?_ | refine Ops.bld rfl rfl rfl rfl ?_ | refine Ops.box rfl rfl rfl rfl (noPd rfl) (fun b => ?_) | refine Ops.alloc rfl rfl rfl (noPd rfl) (fun b => ?_) | refine Ops.st1 rfl rfl rfl rfl rfl (noPd rfl) ?_)
  rename Nat => vb
  rename_i cm pn em
  refine Cd.draw [(0, 1, []), (1, 1, []), (2, 0, []), (3, 0, []), (4, 1, []), (5, 0, []), (6, 0, []), (7, 1, []), (8, 0, []), (9, 0, []), (10, 1, []), (11, 0, []), (12, 0, []), (13, 1, []), (14, 0, []), (15, 0, []), (16, 1, []), (17, 0, []), (18, 0, []), (19, 1, []), (20, 0, []), (21, 0, []), (22, 1, []), (23, 0, []), (24, 0, []), (25, 1, []), (26, 0, []), (27, 0, []), (28, 1, []), (29, 0, []), (30, 0, []), (31, 1, []), (32, 0, []), (33, 0, []), (34, 1, []), (35, 0, []), (36, 0, []), (37, 1, []), (38, 0, []), (39, 0, []), (40, 0, []), (41, 0, []), (42, 2, [0]), (43, 0, []), (44, 0, []), (45, 2, [])] (by kernel_rfl) (by kernel_rfl) (by simp only [picked, nth]; exact rfl) ?_
  repeat' (first | refine Ops.mkF rfl rfl rfl rfl rfl ?_ | refine Ops.nilP rfl rfl rfl rfl ?_ | refine Ops.fa0 rfl rfl rfl rfl ?_ | refine Ops.ld1 rfl rfl rfl rfl rfl ?_ | refine Ops.bld rfl rfl rfl rfl ?_)
  refine Ops.bsN (rules b vb cm pn) rfl rfl rfl rfl rfl rfl rfl rfl rfl rfl (by first | exact noPd rfl | (intro v A' hR i hi; obtain ⟨b, rfl, rfl⟩ := hR; (repeat (rcases List.mem_cons.1 hi with rfl | hi; · (first | exact Still.ld1 rfl rfl rfl rfl rfl | exact Still.ldN rfl rfl rfl rfl | exact Still.len rfl rfl rfl rfl rfl | exact Still.skip rfl rfl rfl | exact Still.ldRow1 rfl rfl rfl (by assumption) (by assumption) rfl rfl | exact Still.ldR rfl rfl rfl (by apply_assumption) rfl))); cases hi)) (fun rb => ?_)
  repeat' (first | refine Cd.seq ?_ | refine Cd.reg ?_ | refine Ops.nil ?_ | refine Ops.asg rfl rfl rfl rfl ?_ | refine Ops.nilP rfl rfl rfl rfl ?_ | refine Ops.fa0 rfl rfl rfl rfl ?_ | refine Ops.ld1 rfl rfl rfl rfl rfl ?_ | refine Ops.st1 rfl rfl rfl rfl rfl (noPd rfl) ?_)
  exact Cd.ret (ret1 (A' := AuL b none 0 0 ⟨0, cm, pn, em, Ad.new, false, 0, .slice (some ⟨rb, 0, none⟩) 12 12⟩ (.slice none 0 0) [] [] [] [] (eents []) [] [] ++ RB b vb rb cm pn) rfl (Res.tmp rfl) (fun _ h => (h.split : Sat _ [AB b none 0 0 ⟨0, cm, pn, em, ⟨0, 0, 0, 0, 0, 0, 0, 0, 0, 0, 0, 0, 0, 0, 0, 0, 0, 0⟩, false, 0, .slice (some ⟨rb, 0, none⟩) 12 12⟩ (.slice none 0 0), (cm, mpo [] 0), (pn, mpo [] 0), (em, mpo [] 0), (vb, cl [ptr b] 48), (rb, cl ((rules b vb cm pn).flatten ++ []) 71)] _)) ⟨b, vb, rb, cm, pn, em, rfl, rfl⟩)
end Go.Proofs.Ytfghnepmbgbnoaa
