import Derived.Test.YtkcmjgjfodipfaaGreatA12
import Derived.Test.YtkcmjgjfodipfaaGreatA07
import Derived.Test.YtkcmjgjfodipfaaGreatA08
import Derived.Test.YtkcmjgjfodipfaaGreatA16
import Derived.Test.YtkcmjgjfodipfaaGreatA20
import Derived.Test.YtkcmjgjfodipfaaGreatA21
import Derived.Test.YtkcmjgjfodipfaaGreatA19
namespace Go.Proofs.YtkcmjgjfodipfaaGreat.Se
open Go Go.Sep Go.Proofs
set_option maxRecDepth 10000
set_option maxHeartbeats 1000000
set_option linter.unusedSimpArgs false
set_option linter.unusedVariables false
/-- A table's row. -/
structure Dk where
  slot : Int
  life : Int
  session : Int
  last : Int
  reply : ByteArray
@[reducible] def Dk.row (d : Dk) : List Value := [.int .i64 d.slot, .int .i64 d.life, .int .i64 d.session, .int .i64 d.last, .string d.reply]
@[reducible] def Dk.zero (i : Int) : Dk := ⟨i, 0, 0, 0, ⟨#[]⟩⟩
def dks (rs : List Dk) : List (List Value) := rs.map Dk.row
theorem dks_len (rs : List Dk) : (dks rs).length = rs.length := by simp [dks]
theorem dks_ok (rs : List Dk) : RowsOk 5 (dks rs) := fun r hr => by
  obtain ⟨d, _, rfl⟩ := List.mem_map.1 hr
  exact ⟨rfl, rfl⟩
def OwnK (sv : Value) (rs : List Dk) (G : List Blk) : Prop := Own 123 5 sv (dks rs) G
@[reducible] def TabB (n : Nat) (sv : Value) (G : List Blk) : List Blk := (n, cl [sv] 308) :: G
theorem OwnK.form {sv : Value} {rs : List Dk} {G : List Blk} (h : OwnK sv rs G) : ∃ a c, sv = .slice a rs.length c := by
  obtain ⟨a, c, h⟩ := Own.form h
  exact ⟨a, c, by rw [h, dks_len]⟩
theorem OwnK.some_ {sv : Value} {rs : List Dk} {G : List Blk} (h : OwnK sv rs G) (hn : 0 < rs.length) :
    ∃ g c spare, sv = .slice (some ⟨g, 0, none⟩) rs.length c ∧ G = [(g, cl ((dks rs).flatten ++ spare) 123)] ∧ (dks rs).flatten.length + spare.length = c * 5 ∧ rs.length ≤ c := by
  obtain ⟨g, c, spare, h1, h2, h3, h4⟩ := Own.some_ h (by rw [dks_len]; exact hn)
  rw [dks_len] at h1 h4
  exact ⟨g, c, spare, h1, h2, h3, h4⟩
structure NtS where
  i : Nat
  sv : Value
  G : List Blk
def fresh (k : Nat) : List Dk := (List.range k).map fun i : Nat => Dk.zero (i : Int)
theorem fresh_app (k : Nat) {v : Value} {G : List Blk} (h : Own 123 5 v (dks (fresh k) ++ [[.int .i64 (k : Int), .int .i64 0, .int .i64 0, .int .i64 0, .string ⟨#[]⟩]]) G) : ∃ a c, v = .slice a (k + 1) c ∧ OwnK v (fresh (k + 1)) G := by
  have h' : OwnK v (fresh (k + 1)) G := by
    unfold OwnK
    have : dks (fresh (k + 1)) = dks (fresh k) ++ [[.int .i64 (k : Int), .int .i64 0, .int .i64 0, .int .i64 0, .string ⟨#[]⟩]] := by simp [dks, fresh, List.range_succ]
    rw [this]; exact h
  obtain ⟨a, c, e⟩ := h'.form
  exact ⟨a, c, by rw [e]; simp [fresh], h'⟩
theorem newt_yes (r : Nat) (h1 : 1 ≤ r) (h2 : r ≤ 8) : Con Tryz.prog 128 #[.int .i64 r] [] fun v A => ∃ b sv G, v = .tuple #[ptr b, .int .i64 0] ∧ A = TabB b sv G ∧ OwnK sv (fresh r) G := by
  refine Con.intro (vs := [_]) Tryz.func128 rfl Tryz.ntmps128 rfl (fun B => ?_)
  repeat' (first | refine Cd.seq ?_ | refine Cd.reg ?_ | refine Ops.nil ?_ | refine Ops.mv rfl rfl rfl rfl ?_ | refine Ops.asg rfl rfl rfl rfl ?_ | refine Ops.bin rfl rfl rfl rfl rfl ?_ | refine Ops.pickF rfl rfl rfl rfl rfl ?_ | refine Ops.bld rfl rfl rfl rfl ?_ | refine Ops.box rfl rfl rfl rfl (noPd rfl) (fun b => ?_) | refine Cd.block ?_ | refine Cd.skip (Cd.next ?_) | refine Cd.condF rfl (by first | rfl | assumption | (simp only [decide_eq_true_eq, decide_eq_false_iff_not, Bool.not_eq_true', Bool.not_eq_false', Bool.not_eq_eq_eq_not, Bool.not_true, Bool.not_false, beq_iff_eq, beq_eq_false_iff_ne, ne_eq, decide_eq_decide, eq_self, true_iff, iff_true, not_true_eq_false, not_false_eq_true]; first | done | omega)) ?_ | ((fail_if_success refine Ops.probe rfl ?_); refine Ops.gF rfl rfl (by first | rfl | assumption | (simp only [decide_eq_true_eq, decide_eq_false_iff_not, Bool.not_eq_true', Bool.not_eq_false', Bool.not_eq_eq_eq_not, Bool.not_true, Bool.not_false, beq_iff_eq, beq_eq_false_iff_ne, ne_eq, decide_eq_decide, eq_self, true_iff, iff_true, not_true_eq_false, not_false_eq_true]; first | done | omega)) ?_))
  rename Nat => tb
  refine Cd.loopK (fun s : NtS => s.i ≤ r ∧ OwnK s.sv (fresh s.i) s.G) (fun s => [(4, ptr tb), (14, .int .i64 r), (15, .int .i64 s.i)]) (fun s => TabB tb s.sv s.G) (fun s => r - s.i) ⟨0, .slice none 0 0, []⟩ ⟨Nat.zero_le _, (Own.none : OwnK _ [] _)⟩ ⟨rfl, rfl, rfl, trivial⟩
    (fun w h => (h.split : Sat _ (TabB tb (.slice none 0 0) []) w)) (fun s hI => ?_)
  obtain ⟨i, sv, G⟩ := s
  obtain ⟨hi, hO⟩ := hI
  dsimp only at hi hO ⊢
  by_cases hil : i < r
  · repeat' (first | refine Cd.seq ?_ | refine Cd.reg ?_ | refine Ops.mv rfl rfl rfl rfl ?_ | refine Ops.asg rfl rfl rfl rfl ?_ | refine Ops.nilP rfl rfl rfl rfl ?_ | refine Ops.fa0 rfl rfl rfl rfl ?_ | refine Ops.ld1 rfl rfl rfl rfl rfl ?_ | refine Ops.bin rfl rfl rfl rfl rfl ?_ | refine Ops.bld rfl rfl rfl rfl ?_ | refine Ops.bs1 rfl rfl rfl rfl rfl rfl rfl (noPd rfl) (fun b => ?_) | refine Cd.block ?_ | refine Cd.skip (Cd.next ?_) | refine Cd.condT rfl (by first | rfl | assumption | (simp only [decide_eq_true_eq, decide_eq_false_iff_not, Bool.not_eq_true', Bool.not_eq_false', Bool.not_eq_eq_eq_not, Bool.not_true, Bool.not_false, beq_iff_eq, beq_eq_false_iff_ne, ne_eq, decide_eq_decide, eq_self, true_iff, iff_true, not_true_eq_false, not_false_eq_true]; first | done | omega)) ?_)
    refine Ops.app1 (rows := dks (fresh i)) hO (by rw [dks_len]; simp [fresh]; omega) (by rw [dks_len]; simp [fresh]; omega) rfl rfl rfl rfl (by rfl) (by rfl) rfl (noPd rfl) rfl (fun v G' hG' => ?_)
    obtain ⟨a, c, rfl, hG'⟩ := fresh_app i hG'
    repeat' (first | refine Cd.reg ?_ | refine Ops.mv rfl rfl rfl rfl ?_ | refine Ops.nilP rfl rfl rfl rfl ?_ | refine Ops.fa0 rfl rfl rfl rfl ?_ | refine Ops.addI rfl rfl rfl rfl (by omega) (by omega) rfl ?_ | refine Ops.st1 rfl rfl rfl rfl rfl (noPd rfl) ?_)
    exact Ops.nilN (round_end (⟨i + 1, _, G'⟩ : NtS) ⟨by show i + 1 ≤ r; omega, hG'⟩ (by show r - (i + 1) < r - i; omega) ⟨rfl, rfl, rfl, trivial⟩ (fun w h => (h.split : Sat _ (TabB tb (.slice a (i + 1) c) G') w)))
  · obtain rfl : i = r := by omega
    repeat' (first | refine Cd.seq ?_ | refine Cd.reg ?_ | refine Ops.nil ?_ | refine Ops.mv rfl rfl rfl rfl ?_ | refine Ops.asg rfl rfl rfl rfl ?_ | refine Ops.bin rfl rfl rfl rfl rfl ?_ | refine Cd.exit (Cd.next (Q' := fun _ _ _ => True) ?_) | refine Cd.condF rfl (by first | rfl | assumption | (simp only [decide_eq_true_eq, decide_eq_false_iff_not, Bool.not_eq_true', Bool.not_eq_false', Bool.not_eq_eq_eq_not, Bool.not_true, Bool.not_false, beq_iff_eq, beq_eq_false_iff_ne, ne_eq, decide_eq_decide, eq_self, true_iff, iff_true, not_true_eq_false, not_false_eq_true]; first | done | omega)) ?_)
    exact Cd.ret (ret2 rfl (Res.tmp rfl) (Res.tmp rfl) (fun _ h => h) ⟨_, _, _, rfl, rfl, hO⟩)
def cntB (n : Int) : Bool := decide (1 ≤ n ∧ n ≤ 1099511627776)
theorem counts_spec (x : Int) : Con Tryz.prog 391 #[.int .i64 x] [] fun v A => v = .bool (cntB x) ∧ A = [] := by
  refine Con.intro (vs := [_]) Tryz.func391 rfl Tryz.ntmps391 rfl (fun B => ?_)
  repeat' (first | refine Cd.seq ?_ | refine Cd.reg ?_ | refine Ops.nil ?_ | refine Ops.mv rfl rfl rfl rfl ?_ | refine Ops.asg rfl rfl rfl rfl ?_ | refine Ops.bin rfl rfl rfl rfl rfl ?_ | refine Ops.pickT rfl rfl rfl rfl rfl ?_ | refine Ops.pickF rfl rfl rfl rfl rfl ?_ | refine Ops.gSkip rfl rfl rfl ?_ | ((fail_if_success refine Ops.probe rfl ?_); refine Ops.gSplit rfl rfl (fun hc => ?_) (fun hc => ?_) <;> (try simp only [decide_eq_true_eq, decide_eq_false_iff_not, Bool.not_eq_true', Bool.not_eq_false', Bool.not_eq_eq_eq_not, Bool.not_true, Bool.not_false, Int.not_lt, Int.not_le] at hc)))
  all_goals refine Cd.ret (ret1 rfl (Res.tmp rfl) (fun _ h => h) ⟨?_, rfl⟩)
  all_goals (unfold cntB; refine congrArg Value.bool ?_; first | (simp only [decide_eq_decide]; omega) | (symm; simp only [decide_eq_true_eq, decide_eq_false_iff_not]; omega))
end Go.Proofs.YtkcmjgjfodipfaaGreat.Se
namespace Go.Proofs.YtkcmjgjfodipfaaGreat.Se
open Go Go.Sep Go.Proofs
set_option maxRecDepth 10000
set_option maxHeartbeats 1000000
set_option linter.unusedSimpArgs false
set_option linter.unusedVariables false
end Go.Proofs.YtkcmjgjfodipfaaGreat.Se
namespace Go.Proofs.YtkcmjgjfodipfaaGreat.Se
open Go Go.Sep Go.Proofs
set_option maxRecDepth 10000
set_option maxHeartbeats 1000000
set_option linter.unusedSimpArgs false
set_option linter.unusedVariables false
end Go.Proofs.YtkcmjgjfodipfaaGreat.Se
namespace Go.Proofs.YtkcmjgjfodipfaaGreat.Se
open Go Go.Sep Go.Proofs
set_option maxRecDepth 10000
set_option maxHeartbeats 1000000
set_option linter.unusedSimpArgs false
set_option linter.unusedVariables false
def RowsI (rs : List Dk) : Prop := ∀ r ∈ rs, 0 ≤ r.last ∧ r.last ≤ 1099511627776
theorem RowsI.set {rs : List Dk} {i : Nat} {r : Dk} (h : RowsI rs) (h0 : 0 ≤ r.last) (h1 : r.last ≤ 1099511627776) : RowsI (rs.set i r) := fun x hx => by
  rcases List.mem_or_eq_of_mem_set hx with hx | hx
  · exact h x hx
  · subst hx; exact ⟨h0, h1⟩
theorem RowsI.fresh (k : Nat) : RowsI (fresh k) := fun r hr => by
  obtain ⟨i, _, rfl⟩ := List.mem_map.1 hr
  exact ⟨Int.le_refl _, by show (0 : Int) ≤ 1099511627776; omega⟩
end Go.Proofs.YtkcmjgjfodipfaaGreat.Se
namespace Go.Proofs.YtkcmjgjfodipfaaGreat
open Go Go.Sep Go.Proofs
set_option maxRecDepth 10000
set_option maxHeartbeats 40000000
set_option synthInstance.maxSize 2000
set_option linter.unusedSimpArgs false
set_option linter.unusedVariables false
/-! a coordinator begins -/
@[reducible] def CoB (xb lb tb cb mb db wb sb : Nat) (c : Cf) (tv : Value) (dead : Bool) : Blk :=
  (xb, cl [ptr lb, ptr tb, ptr cb, .map (some mb), .int .i64 c.runners, .int .i64 c.lease, .int .i64 c.resend, .int .i64 c.attempts, .int .i64 c.window, .int .i64 c.quantum, .int .i64 c.block, .int .i64 c.every, .int .i64 c.half, ptr db, ptr wb, ptr sb, tv, .bool dead] 162)
theorem newt_int (r : Int) (h1 : 1 ≤ r) (h2 : r ≤ 8) : Con Tryz.prog 128 #[.int .i64 r] [] fun v A => ∃ b sv G, v = .tuple #[ptr b, .int .i64 0] ∧ A = Se.TabB b sv G ∧ Se.OwnK sv (Se.fresh r.toNat) G := by
  obtain ⟨n, rfl⟩ := Int.eq_ofNat_of_zero_le (show 0 ≤ r by omega)
  exact Se.newt_yes n (by omega) (by omega)
theorem begun_spec (c : Cf) (hc : CfOk c) (r : Int) (h0 : 0 ≤ r) (h1 : r ≤ 1099511627776) : Con Tryz.prog 62 #[.agg c.row.toArray, .int .i64 r] [] fun v A => ∃ lb lm tb sv G cb mb, v = .agg [ptr lb, ptr tb, ptr cb, .map (some mb)].toArray ∧ A = Ls.TB lb lm c.lease [] 0 ++ (Se.TabB tb sv G ++ [CtB cb c.block r r, (mb, mpo [] 0)]) ∧ Se.OwnK sv (Se.fresh c.runners.toNat) G := by
  obtain ⟨⟨a1, a2⟩, ⟨b1, b2⟩, _, _, _, _, ⟨g1, g2⟩, _, _⟩ := hc
  refine Con.intro (vs := [_, _]) Tryz.func62 rfl Tryz.ntmps62 rfl (fun B => ?_)
  repeat' (first | refine Cd.seq ?_ | refine Cd.reg ?_ | refine Ops.fa0 rfl rfl rfl rfl ?_ | refine Ops.ld1 rfl rfl rfl rfl rfl ?_ | refine Ops.box rfl rfl rfl rfl (noPd rfl) (fun b => ?_) | refine Ops.alloc rfl rfl rfl (noPd rfl) (fun b => ?_))
  refine Ops.call (Ls.new_yes c.lease b1 b2) rfl (noPd rfl) rfl rfl rfl (fun v A' hR => ?_)
  obtain ⟨lb, lm, rfl, rfl⟩ := hR
  repeat' (first | refine Cd.seq ?_ | refine Cd.reg ?_ | refine Ops.mv rfl rfl rfl rfl ?_ | refine Ops.fa0 rfl rfl rfl rfl ?_ | refine Ops.ld1 rfl rfl rfl rfl rfl ?_ | refine Ops.ext rfl rfl rfl rfl rfl ?_ | refine Ops.st1 rfl rfl rfl rfl rfl (noPd rfl) ?_)
  refine Ops.call (newt_int c.runners a1 a2) rfl (noPd rfl) rfl rfl rfl (fun v A' hR => ?_)
  obtain ⟨tb, sv, G, rfl, rfl, hO⟩ := hR
  repeat' (first | refine Cd.seq ?_ | refine Cd.reg ?_ | refine Ops.mv rfl rfl rfl rfl ?_ | refine Ops.fa0 rfl rfl rfl rfl ?_ | refine Ops.ld1 rfl rfl rfl rfl rfl ?_ | refine Ops.ext rfl rfl rfl rfl rfl ?_ | refine Ops.st1 rfl rfl rfl rfl rfl (noPd rfl) ?_)
  refine Ops.call (bnew_yes c.block r g1 g2 h0 h1) rfl (noPd rfl) rfl rfl rfl (fun v A' hR => ?_)
  obtain ⟨cb, rfl, rfl⟩ := hR
  repeat' (first | refine Ops.mkM rfl rfl rfl (noPd rfl) (fun b => ?_) | refine Cd.seq ?_ | refine Cd.reg ?_ | refine Ops.nil ?_ | refine Ops.mv rfl rfl rfl rfl ?_ | refine Ops.fa0 rfl rfl rfl rfl ?_ | refine Ops.ldN rfl rfl rfl rfl ?_ | refine Ops.ext rfl rfl rfl rfl rfl ?_ | refine Ops.st1 rfl rfl rfl rfl rfl (noPd rfl) ?_ | refine Ops.stN rfl rfl rfl rfl rfl rfl (noPd rfl) ?_)
  rename Nat => mb
  exact Cd.ret (ret1 (A' := Ls.TB lb lm c.lease [] 0 ++ (Se.TabB tb sv G ++ [CtB cb c.block r r, (mb, mpo [] 0)])) rfl (Res.cellN rfl) (fun _ h => h.split) ⟨lb, lm, tb, sv, G, cb, mb, rfl, rfl, hO⟩)
/-- Behind New and Open: nothing is there yet but the log. -/
theorem loaded_new (B0 : Base) (n : Int) (h1 : 1 ≤ n) (h2 : n ≤ 8) (a : Option Addr) (c : Nat) : ConB Tryz.prog B0 59 #[.int .i64 n, .string ⟨#[]⟩, .slice a 0 c] [] fun v A => ∃ sb, v = ptr sb ∧ StA sb ⟨n, [], 0, [], []⟩ A := by
  refine ConB.intro (vs := [_, _, _]) Tryz.func59 rfl Tryz.ntmps59 rfl (fun B hB => ?_)
  repeat' (first | refine Cd.seq ?_ | refine Cd.reg ?_ | refine Ops.mv rfl rfl rfl rfl ?_ | refine Ops.asg rfl rfl rfl rfl ?_)
  refine Ops.call (snew_yes n h1 h2) rfl (noPd rfl) rfl rfl rfl (fun v A' hR => ?_)
  obtain ⟨sb, qb, rfl, rfl⟩ := hR
  repeat' (first | refine Cd.seq ?_ | refine Cd.reg ?_ | refine Ops.nil ?_ | refine Ops.mv rfl rfl rfl rfl ?_ | refine Ops.asg rfl rfl rfl rfl ?_ | refine Ops.lenS rfl rfl rfl rfl ?_ | refine Ops.bin rfl rfl rfl rfl rfl ?_ | refine Ops.ext rfl rfl rfl rfl rfl ?_ | refine Cd.condF rfl rfl ?_ | refine Cd.block ?_ | refine Cd.skip (Cd.next ?_))
  refine Cd.loopK (σ := Unit) (fun _ => True) (fun _ => [(7, ptr sb), (31, .int .i64 0), (32, .int .i64 0)]) (fun _ => [StB sb qb 0 (.slice none 0 0) (.slice none 0 0), QuB qb n (.slice none 0 0)]) (fun _ => 0) () trivial ⟨rfl, rfl, rfl, trivial⟩ (fun w h => h.split) (fun _ _ => ?_)
  repeat' (first | refine Cd.seq ?_ | refine Cd.reg ?_ | refine Ops.nil ?_ | refine Ops.mv rfl rfl rfl rfl ?_ | refine Ops.asg rfl rfl rfl rfl ?_ | refine Ops.bin rfl rfl rfl rfl rfl ?_ | refine Cd.condF rfl rfl ?_ | refine Cd.exit (Cd.next (Q' := fun _ _ _ => True) ?_))
  exact Cd.ret (ret1 (A' := [StB sb qb 0 (.slice none 0 0) (.slice none 0 0), QuB qb n (.slice none 0 0)]) rfl (Res.tmp rfl) (fun _ h => h.split) ⟨sb, rfl, qb, .slice none 0 0, [], .slice none 0 0, [], .slice none 0 0, [], [], rfl, Own.none, Own.none, Own.none, fun x hx => (by cases hx), rfl⟩)
theorem stOk_new {n : Int} (h1 : 1 ≤ n) (h2 : n ≤ 8) : StOk ⟨n, [], 0, [], []⟩ := ⟨h1, h2, by simp, rfl, rfl, fun l h => (by cases h), fun i r h => (by cases h), fun r h => (by cases h)⟩
theorem view_own (B0 : Base) (sb : Nat) (s : StP) (D : List Blk) (hD : StA sb s D) (ok : StOk s) : ConB Tryz.prog B0 64 #[ptr sb] D fun v X => ∃ A', ViewA v s A' ∧ X = A' ++ D :=
  ConB.lend (A1 := []) fun B1 e hG => view_spec B1 sb s (hD.in_ hG) ok
theorem res_own (sb : Nat) (s : StP) (D : List Blk) (hD : StA sb s D) : Con Tryz.prog 63 #[ptr sb] D fun v A => v = .int .i64 s.res ∧ A = D := by
  obtain ⟨qb, rv, RG, pv, PG, lv, LG, ls, rfl, h⟩ := hD
  refine ((reserved_spec sb qb s.res pv lv).beside (F := QuB qb s.att rv :: (RG ++ (PG ++ (LG ++ ls.flatMap Lg.G))))).mono fun v A hR => ?_
  obtain ⟨A', ⟨rfl, rfl⟩, rfl⟩ := hR
  exact ⟨rfl, rfl⟩
/-- A coordinator at its beginning, of no jobs. -/
@[reducible] def CoN (xb lb lm tb cb mb db wb sb : Nat) (c : Cf) (sv : Value) (G SD D : List Blk) (h : Hd) : List Blk :=
  CoB xb lb tb cb mb db wb sb c (.slice none 0 0) false :: (Ls.TB lb lm c.lease [] 0 ++ (Se.TabB tb sv G ++ (CtB cb c.block 0 0 :: (mb, mpo [] 0) :: WlB wb db ⟨h, 0, false⟩ :: (SD ++ D))))
def OpenN (c : Cf) (db : Nat) (D : List Blk) (h : Hd) (v : Value) (A : List Blk) : Prop :=
  ∃ xb lb lm tb cb mb wb sb sv G SD, v = .tuple #[ptr xb, .int .i64 0] ∧ A = CoN xb lb lm tb cb mb db wb sb c sv G SD D h ∧ Se.OwnK sv (Se.fresh c.runners.toNat) G ∧ StA sb ⟨c.attempts, [], 0, [], []⟩ SD
theorem open_new (B0 : Base) (c : Cf) (hc : CfOk c) (db : Nat) (x : Dk) (k : Nat) (D : List Blk) (hD : DkA db x k D) (hf : (x.S.length : Int) = 2 + 2 * c.half) (h : Hd) (how : openW x = (some (h, ⟨#[]⟩, []), 0)) :
    ConB Tryz.prog B0 28 #[.agg c.row.toArray, ptr db] D (OpenN c db D h) := by
  refine ConB.intro (vs := [_, _]) Tryz.func28 rfl Tryz.ntmps28 rfl (fun B hB => ?_)
  have hfit : fitsF c x = true := by unfold fitsF; rw [show checkC c = 0 from if_pos hc]; simp [hf]
  repeat' (first | refine Cd.seq ?_ | refine Cd.reg ?_ | refine Ops.mv rfl rfl rfl rfl ?_ | refine Ops.asg rfl rfl rfl rfl ?_ | refine Ops.ldN rfl rfl rfl rfl ?_ | refine Ops.box rfl rfl rfl rfl (noPd rfl) (fun b => ?_))
  rename Nat => bc
  refine Ops.call (fits_spec c db x k D hD) rfl (noPd rfl) rfl rfl rfl (fun v A' hR => ?_)
  obtain ⟨rfl, e⟩ := hR
  subst A'
  rw [hfit]
  repeat' (first | refine Cd.seq ?_ | refine Cd.reg ?_ | refine Ops.nil ?_ | refine Ops.mv rfl rfl rfl rfl ?_ | refine Ops.un rfl rfl rfl rfl ?_ | refine Cd.condF rfl rfl ?_ | refine Cd.skip (Cd.next ?_))
  refine Ops.callB (wopen_spec B0 db x k D hD) hB rfl (noPd rfl) rfl rfl rfl (fun v A' hR => ?_)
  rcases hR with ⟨hn, _⟩ | ⟨h2, s2, l2, wb, rv, RG, ho2, rfl, rfl, hrs⟩
  · rw [how] at hn; cases hn
  rw [how] at ho2
  injection ho2 with ho2 _
  injection ho2 with ho2
  injection ho2 with e1 ho2
  injection ho2 with e2 e3
  subst e1
  subst e2
  subst e3
  obtain ⟨ra, rc, rfl⟩ := hrs.form
  repeat' (first | refine Cd.seq ?_ | refine Cd.reg ?_ | refine Ops.nil ?_ | refine Ops.mv rfl rfl rfl rfl ?_ | refine Ops.asg rfl rfl rfl rfl ?_ | refine Ops.fa0 rfl rfl rfl rfl ?_ | refine Ops.ld1 rfl rfl rfl rfl rfl ?_ | refine Ops.bin rfl rfl rfl rfl rfl ?_ | refine Ops.ext rfl rfl rfl rfl rfl ?_ | refine Cd.condF rfl rfl ?_ | refine Cd.skip (Cd.next ?_))
  rw [show ([] : List ByteArray).length = 0 from rfl, show (((0 : Nat) : Int)) = 0 from rfl]
  obtain ⟨⟨a1, a2⟩, ⟨b1, b2⟩, _, ⟨c1, c2⟩, _⟩ := id hc
  refine Ops.callB (loaded_new B0 c.attempts c1 c2 ra rc) hB rfl (noPd rfl) rfl rfl rfl (fun v A' hR => ?_)
  obtain ⟨sb, rfl, hS⟩ := hR
  rename List Blk => SD
  repeat' (first | refine Cd.seq ?_ | refine Cd.reg ?_ | refine Ops.nil ?_ | refine Ops.mv rfl rfl rfl rfl ?_ | refine Ops.asg rfl rfl rfl rfl ?_ | refine Ops.lenS rfl rfl rfl rfl ?_ | refine Ops.bin rfl rfl rfl rfl rfl ?_ | refine Ops.pickF rfl rfl rfl rfl rfl ?_ | refine Ops.gSkip rfl rfl rfl ?_ | refine Cd.condF rfl rfl ?_ | refine Cd.skip (Cd.next ?_))
  refine Cd.draw [(0, 1, []), (1, 0, []), (4, 1, []), (5, 0, []), (6, 0, []), (7, 0, []), (2, 2, [0, 4]), (3, 2, [4]), (8, 0, []), (9, 2, []), (10, 0, [])] (by kernel_rfl) (by kernel_rfl) (by simp only [picked, nth]; exact rfl) ?_
  repeat' (first | refine Ops.mv rfl rfl rfl rfl ?_ | refine Ops.ldN rfl rfl rfl rfl ?_ | fail)
  refine Ops.call (res_own sb _ SD hS) rfl (by first | exact noPd rfl | (intro v A' hR i hi; obtain ⟨A2, hR, rfl⟩ := hR; (try obtain ⟨rfl, rfl⟩ := hR); (repeat (rcases List.mem_cons.1 hi with rfl | hi; · (first | exact Still.ld1 rfl rfl rfl rfl rfl | exact Still.ldN rfl rfl rfl rfl | exact Still.len rfl rfl rfl rfl rfl | exact Still.skip rfl rfl rfl | exact Still.ldRow1 rfl rfl rfl (by assumption) (by assumption) rfl rfl | exact Still.ldR rfl rfl rfl (by apply_assumption) rfl))); cases hi)) rfl rfl rfl (fun v A' hR => ?_)
  obtain ⟨rfl, e⟩ := hR
  subst A'
  skip
  refine Ops.call (begun_spec c hc 0 (by omega) (by omega)) rfl (by intro v A' hR i hi; obtain ⟨A2, hR, rfl⟩ := hR; obtain ⟨lb, lm, tb, sv, G, cb, mb, rfl, rfl, hO⟩ := hR; (repeat (rcases List.mem_cons.1 hi with rfl | hi; · (first | exact Still.ld1 rfl rfl rfl rfl rfl | exact Still.ldN rfl rfl rfl rfl | exact Still.len rfl rfl rfl rfl rfl | exact Still.skip rfl rfl rfl | exact Still.ldRow1 rfl rfl rfl (by assumption) (by assumption) rfl rfl | exact Still.ldR rfl rfl rfl (by apply_assumption) rfl))); cases hi) rfl rfl rfl (fun v A' hR => ?_)
  obtain ⟨lb, lm, tb, sv, G, cb, mb, rfl, rfl, hO⟩ := hR
  repeat' (first | refine Cd.seq ?_ | refine Cd.reg ?_ | refine Ops.nil ?_ | refine Ops.mv rfl rfl rfl rfl ?_ | refine Ops.asg rfl rfl rfl rfl ?_ | refine Ops.bld rfl rfl rfl rfl ?_ | refine Ops.box rfl rfl rfl rfl (by first | exact noPd rfl | (intro v A' hR i hi; obtain ⟨b, rfl, rfl⟩ := hR; (repeat (rcases List.mem_cons.1 hi with rfl | hi; · (first | exact Still.ld1 rfl rfl rfl rfl rfl | exact Still.ldN rfl rfl rfl rfl | exact Still.len rfl rfl rfl rfl rfl | exact Still.skip rfl rfl rfl | exact Still.ldRow1 rfl rfl rfl (by assumption) (by assumption) rfl rfl | exact Still.ldR rfl rfl rfl (by apply_assumption) rfl))); cases hi)) (fun b => ?_))
  rename Nat => xb
  refine Ops.callB (view_own B0 sb _ SD hS (stOk_new c1 c2)) hB rfl (noPd rfl) rfl rfl rfl (fun v A' hR => ?_)
  obtain ⟨VG, ⟨va, ps, JG, rfl, rfl, hJ, hT, hps⟩, rfl⟩ := hR
  dsimp only [List.length_nil]
  refine Ops.fld ⟨_, _, _, Tryz.underlying85, rfl, Tryz.underlying83, rfl, rfl⟩ rfl rfl rfl rfl rfl ?_
  repeat' (first | refine Ops.nil ?_ | refine Ops.mv rfl rfl rfl rfl ?_ | refine Ops.lenS rfl rfl rfl rfl ?_ | refine Cd.block ?_)
  refine Cd.loopK (σ := Unit) (fun _ => True) (fun _ => [(11, ptr xb), (60, .int .i64 0), (61, .int .i64 0)]) (fun _ => CoN xb lb lm tb cb mb db wb sb c sv G SD D h) (fun _ => 0) () trivial ⟨rfl, rfl, rfl, trivial⟩ (fun w h => h.split) (fun _ _ => ?_)
  repeat' (first | refine Cd.seq ?_ | refine Cd.reg ?_ | refine Ops.nil ?_ | refine Ops.mv rfl rfl rfl rfl ?_ | refine Ops.asg rfl rfl rfl rfl ?_ | refine Ops.bin rfl rfl rfl rfl rfl ?_ | refine Cd.condF rfl rfl ?_ | refine Cd.exit (Cd.next (Q' := fun _ _ _ => True) ?_))
  exact Cd.ret (ret2 (A' := CoN xb lb lm tb cb mb db wb sb c sv G SD D h) rfl (Res.tmp rfl) (Res.tmp rfl) (fun _ h => h.split) ⟨xb, lb, lm, tb, cb, mb, wb, sb, sv, G, SD, rfl, rfl, hO, hS⟩)
end Go.Proofs.YtkcmjgjfodipfaaGreat
namespace Go.Proofs.YtkcmjgjfodipfaaGreat
open Go Go.Sep Go.Proofs
set_option maxRecDepth 10000
set_option maxHeartbeats 40000000
set_option synthInstance.maxSize 2000
set_option linter.unusedSimpArgs false
set_option linter.unusedVariables false
/-! a coordinator on a disk of noughts; is it dead? -/
theorem new_new (B0 : Base) (c : Cf) (hc : CfOk c) (db : Nat) (x x1 : Dk) (k : Nat) (D : List Blk) (hD : DkA db x k D) (hk : k < 900000000000) (hf : (x.S.length : Int) = 2 + 2 * c.half) (hfm : formatF x = (x1, 0)) (hf1 : (x1.S.length : Int) = 2 + 2 * c.half) (h : Hd) (how : openW x1 = (some (h, ⟨#[]⟩, []), 0)) :
    ConB Tryz.prog B0 16 #[.agg c.row.toArray, ptr db] D (fun v A => ∃ D', DkA db x1 (k + 1) D' ∧ OpenN c db D' h v A) := by
  refine ConB.intro (vs := [_, _]) Tryz.func16 rfl Tryz.ntmps16 rfl (fun B hB => ?_)
  have hfit : fitsF c x = true := by unfold fitsF; rw [show checkC c = 0 from if_pos hc]; simp [hf]
  repeat' (first | refine Cd.seq ?_ | refine Cd.reg ?_ | refine Ops.mv rfl rfl rfl rfl ?_ | refine Ops.asg rfl rfl rfl rfl ?_ | refine Ops.ldN rfl rfl rfl rfl ?_ | refine Ops.box rfl rfl rfl rfl (noPd rfl) (fun b => ?_))
  rename Nat => bc
  refine Ops.call (fits_spec c db x k D hD) rfl (noPd rfl) rfl rfl rfl (fun v A' hR => ?_)
  obtain ⟨rfl, e⟩ := hR
  subst A'
  rw [hfit]
  repeat' (first | refine Cd.seq ?_ | refine Cd.reg ?_ | refine Ops.nil ?_ | refine Ops.mv rfl rfl rfl rfl ?_ | refine Ops.un rfl rfl rfl rfl ?_ | refine Cd.condF rfl rfl ?_ | refine Cd.skip (Cd.next ?_))
  refine Ops.callB (format_spec B0 db x k D hD hk) hB rfl (noPd rfl) rfl rfl rfl (fun v A' hR => ?_)
  rw [hfm] at hR
  obtain ⟨rfl, hD1⟩ := hR
  rename List Blk => D1
  repeat' (first | refine Cd.seq ?_ | refine Cd.reg ?_ | refine Ops.nil ?_ | refine Ops.mv rfl rfl rfl rfl ?_ | refine Ops.asg rfl rfl rfl rfl ?_ | refine Ops.ldN rfl rfl rfl rfl ?_ | refine Ops.bin rfl rfl rfl rfl rfl ?_ | refine Cd.condT rfl rfl ?_ | refine Cd.block ?_ | refine Cd.skip (Cd.next (Q' := fun _ _ _ => True) ?_))
  refine Ops.callB (open_new B0 c hc db x1 (k + 1) D1 hD1 hf1 h how) hB rfl (noPd rfl) rfl rfl rfl (fun v A' hR => ?_)
  obtain ⟨xb, lb, lm, tb, cb, mb, wb, sb, sv, G, SD, rfl, rfl, hO, hS⟩ := hR
  repeat' (first | refine Ops.nil ?_ | refine Ops.asg rfl rfl rfl rfl ?_ | refine Ops.ext rfl rfl rfl rfl rfl ?_)
  exact Cd.ret (ret2 (A' := CoN xb lb lm tb cb mb db wb sb c sv G SD D1 h) rfl (Res.tmp rfl) (Res.tmp rfl) (fun _ h => h.split) ⟨D1, hD1, xb, lb, lm, tb, cb, mb, wb, sb, sv, G, SD, rfl, rfl, hO, hS⟩)
end Go.Proofs.YtkcmjgjfodipfaaGreat
namespace Go.Proofs.YtkcmjgjfodipfaaGreat
open Go Go.Sep Go.Proofs
set_option maxRecDepth 10000
set_option linter.unusedSimpArgs false
set_option linter.unusedVariables false
/-! a disk that is not armed never fails -/
structure Calm (x : Dk) (len : Nat) : Prop where
  de : x.de = false
  ar : x.ar = 0
  len : x.S.length = len
  sz : ∀ s ∈ x.S, s.size = 128
theorem write_calm {x : Dk} {len i : Nat} {s : ByteArray} (h : Calm x len) (hi : i < len) (hs : s.size = 128) : (x.write (i : Int) s).2 = 0 ∧ Calm (x.write (i : Int) s).1 len := by
  obtain ⟨S, ar, bd, de⟩ := x
  obtain ⟨h1, h2, h3, h4⟩ := h
  dsimp only at h1 h2 h3 h4
  subst h1
  subst h2
  have e : writeD S 0 bd false (i : Int) s = ((S.set i s, 0, false), 0) := by
    unfold writeD
    rw [if_neg (by simp), if_neg (by omega), if_neg (by omega), if_neg (by decide)]
    rfl
  unfold Dk.write Dk.put
  dsimp only
  rw [e]
  refine ⟨rfl, rfl, rfl, by simpa using h3, fun t ht => ?_⟩
  rcases List.mem_or_eq_of_mem_set ht with ht | rfl
  · exact h4 t ht
  · exact hs
end Go.Proofs.YtkcmjgjfodipfaaGreat
namespace Go.Proofs.YtkcmjgjfodipfaaGreat
open Go Go.Sep Go.Proofs
set_option maxRecDepth 100000
set_option linter.unusedSimpArgs false
set_option linter.unusedVariables false
/-! a new log on a disk of noughts -/
def cfm : Cf := ⟨1, 40, 2, 2, 2, 8, 4, 4, 160⟩
theorem cfm_ok : CfOk cfm := by decide
def dk0 : Dk := ⟨List.replicate 322 zs, 0, 0, false⟩
def sec1 : ByteArray := sectorF ⟨1, 0, 0, 0⟩
theorem dk0_calm : Calm dk0 322 := ⟨rfl, rfl, by show (List.replicate 322 zs).length = 322; simp, fun s hs => by
  rw [show dk0.S = List.replicate 322 zs from rfl, List.mem_replicate] at hs
  rw [hs.2]; simp [zs, ByteArray.size]⟩
def dk1 : Dk := (dk0.write 1 sec1).1
theorem dk1_calm : Calm dk1 322 ∧ (dk0.write 1 sec1).2 = 0 := by
  have h := write_calm dk0_calm (i := 1) (by decide) (sectorF_size ⟨1, 0, 0, 0⟩)
  exact ⟨h.2, h.1⟩
theorem zs_none (S : List ByteArray) (at_ : Nat) (h : S.getD at_ .empty = zs) : foundF S at_ = none := by
  unfold foundF
  rw [h]
  have e : ofF (zs.extract 0 8) = 0 := by kernel_rfl
  dsimp only
  rw [if_pos (.inl (by rw [e]; decide))]
theorem counts0 : countsF dk0.S = none := by
  have h : ∀ i, i < 322 → dk0.S.getD i .empty = zs := fun i hi => by
    rw [show dk0.S = List.replicate 322 zs from rfl, List.getD_eq_getElem?_getD, List.getElem?_replicate_of_lt hi]; rfl
  unfold countsF
  rw [zs_none _ 0 (h 0 (by decide)), zs_none _ 1 (h 1 (by decide))]
theorem format0 : formatF dk0 = (dk1, 0) := by
  unfold formatF
  rw [if_neg (by decide), if_neg (by rw [dk0_calm.len]; decide), counts0]
  rw [if_neg (by decide)]
  exact Prod.ext rfl dk1_calm.2
theorem dk1_S : dk1.S = (List.replicate 322 zs).set 1 sec1 := by kernel_rfl
theorem open1 : openW dk1 = (some (⟨1, 0, 0, 0⟩, ⟨#[]⟩, []), 0) := by
  have h0 : dk1.S.getD 0 .empty = zs := by rw [dk1_S]; rfl
  have h1 : dk1.S.getD 1 .empty = sec1 := by rw [dk1_S]; rfl
  have hf : foundF dk1.S 1 = some (⟨1, 0, 0, 0⟩, ⟨#[]⟩, []) := by
    unfold foundF
    rw [h1]
    have e1 : ofF (sec1.extract 0 8) = 1 := by kernel_rfl
    have e2 : rdN sec1 9 13 = 0 := by kernel_rfl
    have e3 : rdN sec1 13 17 = 0 := by kernel_rfl
    have e4 : bat sec1 8 = 0 := by kernel_rfl
    dsimp only
    rw [e1, e2, e3, e4, if_neg (by decide), if_neg (by
      rintro (q | q | q)
      · exact q rfl
      · omega
      · omega)]
    have e5 : (bytesF dk1.S 0 0).extract 0 0 = ⟨#[]⟩ := by
      apply ByteArray.ext
      simp [ByteArray.data_extract]
    rw [show (0 : Nat) + 0 = 0 from rfl, e5]
    have e6 : framesG ⟨#[]⟩ 0 = some [] := by
      unfold framesG
      rw [dif_neg (by decide)]
    rw [e6]
    rfl
  unfold openW
  rw [if_neg (by rw [dk1_calm.1.de]; decide), if_neg (by rw [dk1_calm.1.len]; decide)]
  unfold countsF
  rw [zs_none _ 0 h0, hf]
end Go.Proofs.YtkcmjgjfodipfaaGreat
