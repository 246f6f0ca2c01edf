import Derived.Test.YtfghnepmbgbnoaaSepJ
import Derived.Test.YtfghnepmbgbnoaaSep22
namespace Go.Proofs.Ytfghnepmbgbnoaa
open Go Go.Sep Go.Proofs
set_option maxRecDepth 10000
set_option maxHeartbeats 2000000
set_option synthInstance.maxSize 2000
set_option linter.unusedSimpArgs false
set_option linter.unusedVariables false

theorem u64_small {n : Int} (h0 : 0 ≤ n) (h1 : n ≤ 12) : IntKind.u64.wrap n = n := by simp [IntKind.wrap, IntKind.bits, IntKind.signed]; omega
theorem u8_small {n : Int} (h0 : 0 ≤ n) (h1 : n ≤ 12) : IntKind.u8.wrap n = n := by simp [IntKind.wrap, IntKind.bits, IntKind.signed]; omega
theorem i64_small {n : Int} (h0 : 0 ≤ n) (h1 : n ≤ 255) : IntKind.i64.wrap n = n := by simp [IntKind.wrap, IntKind.bits, IntKind.signed]; omega

theorem nan_spec (a : Int) : Con Try.prog 79 #[.int .i64 a] [] fun v A => v = .bool false ∧ A = [] := by
  refine Con.intro (vs := [_]) Try.func79 rfl Try.ntmps79 rfl (fun B => ?_)
  repeat' (first | refine Cd.seq ?_ | refine Cd.reg ?_ | refine Ops.nil ?_ | refine Ops.mv rfl rfl rfl rfl ?_ | refine Ops.asg rfl rfl rfl rfl ?_ | refine Ops.bin rfl rfl rfl rfl rfl ?_)
  exact Cd.ret (ret1 rfl (Res.tmp rfl) (fun _ h => h) ⟨by simp, rfl⟩)
theorem less_spec (a b : Int) : Con Try.prog 68 #[.int .i64 a, .int .i64 b] [] fun v A => v = .bool (decide (a < b)) ∧ A = [] := by
  refine Con.intro (vs := [_, _]) Try.func68 rfl Try.ntmps68 rfl (fun B => ?_)
  repeat' (first | refine Cd.seq ?_ | refine Cd.reg ?_ | refine Ops.mv rfl rfl rfl rfl ?_ | refine Ops.asg rfl rfl rfl rfl ?_)
  refine Ops.call (nan_spec a) rfl (noPd rfl) rfl rfl rfl (fun v A' hR => ?_)
  obtain ⟨rfl, rfl⟩ := hR
  repeat' (first | refine Ops.nil ?_ | refine Ops.mv rfl rfl rfl rfl ?_ | refine Ops.asg rfl rfl rfl rfl ?_ | refine Ops.bin rfl rfl rfl rfl rfl ?_ | refine Ops.pickF rfl rfl rfl rfl rfl ?_ | refine Ops.gSkip rfl rfl rfl ?_)
  exact Cd.ret (ret1 rfl (Res.tmp rfl) (fun _ h => h) ⟨rfl, rfl⟩)

theorem len64_spec (n : Int) (h0 : 0 ≤ n) (h1 : n ≤ 12) : Con Try.prog 72 #[.int .u64 n] [] fun v A => (∃ k, v = .int .i64 k) ∧ A = [] := by
  refine Con.intro (vs := [_]) Try.func72 rfl Try.ntmps72 rfl (fun B => ?_)
  repeat' (first | refine Cd.seq ?_ | refine Cd.reg ?_ | refine Ops.nil ?_ | refine Ops.mv rfl rfl rfl rfl ?_ | refine Ops.asg rfl rfl rfl rfl ?_ | refine Ops.bin rfl rfl rfl rfl rfl ?_ | refine Cd.skip (Cd.next ?_) | refine Cd.condF rfl (by first | rfl | assumption | (simp only [decide_eq_true_eq, decide_eq_false_iff_not, Bool.not_eq_true', Bool.not_eq_false', Bool.not_eq_eq_eq_not, Bool.not_true, Bool.not_false, beq_iff_eq, beq_eq_false_iff_ne, ne_eq, decide_eq_decide, eq_self, true_iff, iff_true, not_true_eq_false, not_false_eq_true]; first | done | omega)) ?_)
  refine Ops.cvI rfl rfl rfl rfl ?_
  rw [u8_small h0 h1]
  refine Ops.ixE rfl rfl rfl rfl h0 (Nat.lt_of_le_of_lt (show n.toNat ≤ 12 from by omega) (by decide +kernel)) rfl (fun b _ => ?_)
  skip
  refine Ops.cvI rfl rfl rfl rfl ?_
  repeat' (first | refine Ops.nil ?_ | refine Ops.asg rfl rfl rfl rfl ?_ | refine Ops.bin rfl rfl rfl rfl rfl ?_)
  exact Cd.ret (ret1 rfl (Res.tmp rfl) (fun _ h => h) ⟨⟨_, rfl⟩, rfl⟩)

theorem blen_spec (n : Int) (h0 : 0 ≤ n) (h1 : n ≤ 12) : Con Try.prog 51 #[.int .u64 n] [] fun v A => (∃ k, v = .int .i64 k) ∧ A = [] := by
  refine Con.intro (vs := [_]) Try.func51 rfl Try.ntmps51 rfl (fun B => ?_)
  repeat' (first | refine Cd.seq ?_ | refine Cd.reg ?_ | refine Ops.mv rfl rfl rfl rfl ?_ | refine Ops.asg rfl rfl rfl rfl ?_ | refine Cd.condF rfl rfl ?_ | refine Cd.skip (Cd.next ?_))
  refine Ops.call (len64_spec n h0 h1) rfl (noPd rfl) rfl rfl rfl (fun v A' hR => ?_)
  obtain ⟨⟨k, rfl⟩, rfl⟩ := hR
  repeat' (first | refine Ops.nil ?_ | refine Ops.asg rfl rfl rfl rfl ?_)
  exact Cd.ret (ret1 rfl (Res.tmp rfl) (fun _ h => h) ⟨⟨_, rfl⟩, rfl⟩)

/-! insertion -/
@[reducible] def irow (x : Int) : List Value := [.int .i64 x]
theorem irows_ok (xs : List Int) : RowsOk 1 (xs.map irow) := rows_map (f := irow) (fun _ => ⟨rfl, rfl⟩) xs
def OwnI (sv : Value) (xs : List Int) (G : List Blk) : Prop := Own 3 1 sv (xs.map irow) G
@[reducible] def IB (g : Nat) (xs : List Int) (sp : List Value) : List Blk := [(g, cl ((xs.map irow).flatten ++ sp) 3)]

theorem pw_app {a b : List Int} (h : (a ++ b).Pairwise (· ≤ ·)) : a.Pairwise (· ≤ ·) ∧ b.Pairwise (· ≤ ·) ∧ ∀ x ∈ a, ∀ y ∈ b, x ≤ y := List.pairwise_append.1 h

theorem swap_rows (L' R' : List Int) (x y : Int) : ((((L' ++ [y]) ++ x :: R').map irow).set (L'.length + 1) [.int .i64 y]).set L'.length [.int .i64 x] = (L' ++ x :: (y :: R')).map irow := by
  simp [List.set_append]

theorem ins_spec (g n c : Nat) (xs : List Int) (sp : List Value) (hn : xs.length = n) (hc : n ≤ c) (hbig : n ≤ 1000000) :
    Con Try.prog 62 #[.slice (some ⟨g, 0, none⟩) n c, .int .i64 0, .int .i64 n] (IB g xs sp) fun v A => ∃ ys, A = IB g ys sp ∧ ys.Perm xs ∧ ys.Pairwise (· ≤ ·) := by
  refine Con.intro (vs := [_, _, _]) Try.func62 rfl Try.ntmps62 rfl (fun B => ?_)
  repeat' (first | refine Cd.seq ?_ | refine Cd.reg ?_ | refine Ops.nil ?_ | refine Ops.mv rfl rfl rfl rfl ?_ | refine Ops.asg rfl rfl rfl rfl ?_ | refine Ops.addI rfl rfl rfl rfl (by omega) (by omega) rfl ?_ | refine Cd.block ?_)
  refine Cd.loopK (fun s : Nat × List Int => 1 ≤ s.1 ∧ (s.1 ≤ n ∨ s.1 = 1) ∧ s.2.Perm xs ∧ (s.2.take s.1).Pairwise (· ≤ ·)) (fun s => [(0, .slice (some ⟨g, 0, none⟩) n c), (1, .int .i64 0), (2, .int .i64 n), (6, .int .i64 s.1)])
    (fun s => IB g s.2 sp) (fun s => n - s.1) (1, xs) ⟨Nat.le_refl _, .inr rfl, .refl _, by
      cases xs with
      | nil => exact List.Pairwise.nil
      | cons x xs => simp⟩ ⟨rfl, rfl, rfl, rfl, trivial⟩ (fun w h => h) (fun s hI => ?_)
  obtain ⟨i, zs⟩ := s
  obtain ⟨hi1, hin, hp, hs⟩ := hI
  dsimp only at hi1 hin hp hs ⊢
  have hzl : zs.length = n := by rw [hp.length_eq, hn]
  by_cases hil : i < n
  · have hil' : (i : Int) < n := by omega
    obtain ⟨x, hx⟩ : ∃ x, zs[i]? = some x := ⟨_, List.getElem?_eq_getElem (by omega)⟩
    have hsplit : zs = zs.take i ++ x :: zs.drop (i + 1) := by
      obtain ⟨h1, h2⟩ := List.getElem?_eq_some_iff.1 hx
      have e := List.take_append_drop i zs
      rw [List.drop_eq_getElem_cons h1, h2] at e
      exact e.symm
    have htl : (zs.take i).length = i := by rw [List.length_take]; omega
    generalize zs.take i = L0 at hsplit hs htl
    generalize hrest : zs.drop (i + 1) = rest at hsplit
    repeat' (first | refine Cd.seq ?_ | refine Cd.reg ?_ | refine Ops.nil ?_ | refine Ops.mv rfl rfl rfl rfl ?_ | refine Ops.asg rfl rfl rfl rfl ?_ | refine Ops.bin rfl rfl rfl rfl rfl ?_ | refine Cd.block ?_ | refine Cd.skip (Cd.next ?_) | refine Cd.condT rfl (by first | rfl | assumption | (simp only [decide_eq_true_eq, decide_eq_false_iff_not, Bool.not_eq_true', Bool.not_eq_false', Bool.not_eq_eq_eq_not, Bool.not_true, Bool.not_false, beq_iff_eq, beq_eq_false_iff_ne, ne_eq, decide_eq_decide, eq_self, true_iff, iff_true, not_true_eq_false, not_false_eq_true]; first | done | omega)) ?_)
    refine Cd.loopK (fun s : List Int × List Int => s.1.length + s.2.length = i ∧ (s.1 ++ s.2).Pairwise (· ≤ ·) ∧ (∀ y ∈ s.2, x ≤ y) ∧ (s.1 ++ x :: (s.2 ++ rest)).Perm xs) (fun s => [(0, .slice (some ⟨g, 0, none⟩) n c), (1, .int .i64 0), (2, .int .i64 n), (6, .int .i64 i), (7, .int .i64 s.1.length)])
      (fun s => IB g (s.1 ++ x :: (s.2 ++ rest)) sp) (fun s => s.1.length) (L0, []) ⟨by simp [htl], by simpa using hs, by simp, by rw [List.nil_append, ← hsplit]; exact hp⟩
      ⟨rfl, rfl, rfl, rfl, by rw [htl]; rfl, trivial⟩ (fun w h => by rw [List.nil_append, ← hsplit]; exact h) (fun s hJ => ?_)
    obtain ⟨L, R⟩ := s
    obtain ⟨hl, hpw, hge, hperm⟩ := hJ
    dsimp only at hl hpw hge hperm ⊢
    have hlen : (L ++ x :: (R ++ rest)).length = n := by rw [hperm.length_eq, hn]
    have hk := irows_ok (L ++ x :: (R ++ rest))
    have hxj : ((L ++ x :: (R ++ rest)).map irow)[(L.length : Int).toNat]? = some [.int .i64 x] := by
      rw [Int.toNat_natCast, List.getElem?_map, List.getElem?_append_right (Nat.le_refl _), Nat.sub_self]; rfl
    have fin2 : (∀ y ∈ L, y ≤ x) → ((L ++ x :: (R ++ rest)).take (i + 1)).Pairwise (· ≤ ·) := fun hle => by
      rw [show L ++ x :: (R ++ rest) = (L ++ x :: R) ++ rest from by simp, List.take_left' (by simp; omega)]
      obtain ⟨a1, a2, a3⟩ := pw_app hpw
      rw [List.pairwise_append]
      refine ⟨a1, List.pairwise_cons.2 ⟨hge, a2⟩, fun y hy z hz => ?_⟩
      rcases List.mem_cons.1 hz with rfl | hz
      · exact hle y hy
      · exact a3 y hy z hz
    have done : ∀ y' : List Int, y'.Perm xs → (y'.take (i + 1)).Pairwise (· ≤ ·) → 1 ≤ i + 1 ∧ (i + 1 ≤ n ∨ i + 1 = 1) ∧ y'.Perm xs ∧ (y'.take (i + 1)).Pairwise (· ≤ ·) := fun y' h1 h2 => ⟨by omega, .inl (by omega), h1, h2⟩
    clear hsplit hs htl hx hrest hp hzl
    rcases List.eq_nil_or_concat L with rfl | ⟨L', y, rfl⟩
    · have hz : ([] : List Int).length = 0 := rfl
      rw [hz]
      repeat' (first | refine Cd.seq ?_)
      refine Cd.draw [(0, 0, []), (1, 0, []), (2, 0, []), (3, 0, []), (4, 0, []), (5, 0, []), (6, 0, []), (7, 1, []), (8, 0, []), (9, 0, []), (10, 0, []), (11, 0, []), (12, 1, []), (13, 2, []), (14, 0, [])] (by kernel_rfl) (by kernel_rfl) (by simp only [picked, nth]; exact rfl) ?_
      repeat' (first | refine Cd.reg ?_ | refine Ops.nil ?_ | refine Ops.mv rfl rfl rfl rfl ?_ | refine Ops.asg rfl rfl rfl rfl ?_ | refine Ops.addI rfl rfl rfl rfl (by omega) (by omega) rfl ?_ | refine Ops.bin rfl rfl rfl rfl rfl ?_ | refine Ops.pickF rfl rfl rfl rfl rfl ?_ | refine Ops.gSkip rfl rfl rfl ?_ | refine Ops.gSkipE rfl (noPd rfl) rfl rfl ?_ | refine Cd.condF rfl rfl ?_ | refine Cd.exit (Cd.next (Q' := fun _ _ _ => True) ?_))
      have h9 := fin2 (fun y hy => by cases hy)
      exact Ops.nilN (round_end (i + 1, ([] : List Int) ++ x :: (R ++ rest)) (done _ hperm h9) (by show n - (i + 1) < n - i; omega) ⟨rfl, rfl, rfl, rfl, trivial⟩ (fun w h => h))
    · rw [List.concat_eq_append] at *
      have hyj : (((L' ++ [y]) ++ x :: (R ++ rest)).map irow)[(((L'.length + 1 : Nat) : Int) - 1).toNat]? = some [.int .i64 y] := by
        rw [show (((L'.length + 1 : Nat) : Int) - 1).toNat = L'.length from by omega, List.getElem?_map, List.getElem?_append_left (by simp), List.getElem?_append_right (Nat.le_refl _), Nat.sub_self]; try rfl
      rw [show (L' ++ [y]).length = L'.length + 1 from by simp] at hxj hl
      have hbd : L'.length + 1 < n := by rw [← hlen]; simp
      rw [show (L' ++ [y]).length = L'.length + 1 from by simp]
      repeat' (first | refine Cd.seq ?_)
      refine Cd.draw [(0, 0, []), (1, 0, []), (2, 0, []), (3, 0, []), (4, 0, []), (5, 0, []), (6, 0, []), (7, 1, []), (8, 0, []), (9, 0, []), (10, 0, []), (11, 0, []), (12, 1, []), (13, 2, []), (14, 0, [])] (by kernel_rfl) (by kernel_rfl) (by simp only [picked, nth]; exact rfl) ?_
      repeat' (first | refine Ops.mv rfl rfl rfl rfl ?_ | refine Ops.subI rfl rfl rfl rfl (by omega) (by omega) rfl ?_ | refine Ops.bin rfl rfl rfl rfl rfl ?_ | refine Ops.ixa0 rfl rfl rfl rfl (by omega) (by omega) rfl ?_ | refine Ops.ldCell rfl rfl rfl (by assumption) (by assumption) rfl ?_ | ((fail_if_success refine Ops.probe rfl ?_); refine Ops.gT rfl rfl (by first | rfl | assumption | (simp only [decide_eq_true_eq, decide_eq_false_iff_not, Bool.not_eq_true', Bool.not_eq_false', Bool.not_eq_eq_eq_not, Bool.not_true, Bool.not_false, beq_iff_eq, beq_eq_false_iff_ne, ne_eq, decide_eq_decide, eq_self, true_iff, iff_true, not_true_eq_false, not_false_eq_true]; first | done | omega)) ?_))
      refine Ops.call (less_spec x y) rfl (noPd rfl) rfl rfl rfl (fun v A' hR => ?_)
      obtain ⟨rfl, rfl⟩ := hR
      by_cases hlt : x < y
      · repeat' (first | refine Cd.seq ?_ | refine Ops.nil ?_ | refine Ops.pickT rfl rfl rfl rfl rfl ?_ | refine Cd.block ?_ | refine Cd.skip (Cd.next ?_) | refine Cd.condT rfl (by first | rfl | assumption | (simp only [decide_eq_true_eq, decide_eq_false_iff_not, Bool.not_eq_true', Bool.not_eq_false', Bool.not_eq_eq_eq_not, Bool.not_true, Bool.not_false, beq_iff_eq, beq_eq_false_iff_ne, ne_eq, decide_eq_decide, eq_self, true_iff, iff_true, not_true_eq_false, not_false_eq_true]; first | done | omega)) ?_)
        refine Cd.draw [(0, 0, []), (1, 0, []), (2, 0, []), (3, 0, []), (4, 0, []), (5, 0, []), (6, 0, []), (7, 0, []), (8, 0, []), (9, 1, []), (10, 0, []), (11, 0, []), (12, 0, []), (13, 1, []), (14, 0, []), (15, 2, []), (16, 0, []), (17, 2, [])] (by kernel_rfl) (by kernel_rfl) (by simp only [picked, nth]; exact rfl) ?_
        repeat' (first | refine Ops.mv rfl rfl rfl rfl ?_ | refine Ops.subI rfl rfl rfl rfl (by omega) (by omega) rfl ?_ | refine Ops.ixa0 rfl rfl rfl rfl (by omega) (by omega) rfl ?_ | refine Ops.ldCell rfl rfl rfl (by assumption) (by assumption) rfl ?_)
        refine Ops.stRow rfl rfl rfl rfl rfl rfl hk (by rw [List.length_map, hlen, Int.toNat_natCast]; omega) (noPd rfl) ?_
        repeat' (first | refine Ops.ixa0 rfl rfl rfl rfl (by omega) (by omega) rfl ?_)
        refine Ops.stRow rfl rfl rfl rfl rfl rfl (hk.set rfl rfl) (by rw [List.length_set, List.length_map, hlen]; omega) (noPd rfl) ?_
        repeat' (first | refine Ops.nilN (inB (Cd.next ?_)) | refine Cd.reg ?_ | refine Ops.mv rfl rfl rfl rfl ?_ | refine Ops.asg rfl rfl rfl rfl ?_ | refine Ops.subI rfl rfl rfl rfl (by omega) (by omega) rfl ?_)
        have e1 : (((L'.length + 1 : Nat) : Int) - 1).toNat = L'.length := by omega
        obtain ⟨a1, a2, a3⟩ := pw_app hpw
        obtain ⟨b1, b2, b3⟩ := pw_app a1
        have g1 : ∀ z ∈ y :: R, x ≤ z := fun z hz => by
          rcases List.mem_cons.1 hz with rfl | hz
          · omega
          · have := a3 y (by simp) z hz; omega
        have g2 : (L' ++ x :: (y :: R ++ rest)).Perm xs := by
          refine List.Perm.trans ?_ hperm
          simp only [List.append_assoc, List.cons_append, List.nil_append]
          exact (List.Perm.swap y x _).append_left L'
        exact Ops.nilN (round_end ((L', y :: R) : List Int × List Int) ⟨by show L'.length + (y :: R).length = i; simp; omega, by show (L' ++ y :: R).Pairwise (· ≤ ·); simpa using hpw, g1, g2⟩ (by show L'.length < L'.length + 1; omega) ⟨rfl, rfl, rfl, rfl, congrArg (fun x => some (Value.int .i64 x)) (by show ((L'.length + 1 : Nat) : Int) - 1 = L'.length; omega), trivial⟩ (fun w h => by
          rw [e1, Int.toNat_natCast, swap_rows] at h
          exact h))
      · repeat' (first | refine Cd.reg ?_ | refine Ops.nil ?_ | refine Ops.mv rfl rfl rfl rfl ?_ | refine Ops.asg rfl rfl rfl rfl ?_ | refine Ops.addI rfl rfl rfl rfl (by omega) (by omega) rfl ?_ | refine Ops.pickT rfl rfl rfl rfl rfl ?_ | refine Cd.exit (Cd.next (Q' := fun _ _ _ => True) ?_) | refine Cd.condF rfl (by first | rfl | assumption | (simp only [decide_eq_true_eq, decide_eq_false_iff_not, Bool.not_eq_true', Bool.not_eq_false', Bool.not_eq_eq_eq_not, Bool.not_true, Bool.not_false, beq_iff_eq, beq_eq_false_iff_ne, ne_eq, decide_eq_decide, eq_self, true_iff, iff_true, not_true_eq_false, not_false_eq_true]; first | done | omega)) ?_)
        have h9 := fin2 (fun z hz => by
          rcases List.mem_append.1 hz with hz | hz
          · have := (pw_app (pw_app hpw).1).2.2 z hz y (by simp); omega
          · obtain rfl := List.mem_singleton.1 hz; omega)
        exact Ops.nilN (round_end (i + 1, (L' ++ [y]) ++ x :: (R ++ rest)) (done _ hperm h9) (by show n - (i + 1) < n - i; omega) ⟨rfl, rfl, rfl, rfl, trivial⟩ (fun w h => h))
  · have hil' : ¬ (i : Int) < n := by omega
    have : zs.take i = zs := List.take_of_length_le (by omega)
    rw [this] at hs
    repeat' (first | refine Cd.seq ?_ | refine Cd.reg ?_ | refine Ops.nil ?_ | refine Ops.mv rfl rfl rfl rfl ?_ | refine Ops.bin rfl rfl rfl rfl rfl ?_ | refine Cd.condF rfl (by first | rfl | assumption | (simp only [decide_eq_true_eq, decide_eq_false_iff_not, Bool.not_eq_true', Bool.not_eq_false', Bool.not_eq_eq_eq_not, Bool.not_true, Bool.not_false, beq_iff_eq, beq_eq_false_iff_ne, ne_eq, decide_eq_decide, eq_self, true_iff, iff_true, not_true_eq_false, not_false_eq_true]; first | done | omega)) ?_)
    exact Cd.exit (end0 (A' := IB g zs sp) rfl (fun w h => h) ⟨zs, rfl, hp, hs⟩)
end Go.Proofs.Ytfghnepmbgbnoaa
