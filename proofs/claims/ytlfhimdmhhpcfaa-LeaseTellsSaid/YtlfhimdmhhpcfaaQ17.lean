import Derived.Test.YtlfhimdmhhpcfaaQ13
namespace Go.Proofs.Ytlfhimdmhhpcfaa
open Go Go.Sep Go.Proofs
set_option maxRecDepth 10000
set_option maxHeartbeats 4000000
set_option synthInstance.maxSize 2000
set_option linter.unusedSimpArgs false
set_option linter.unusedVariables false

/-- The document's lists lie in blocks that nobody writes. -/
def InP (pool : List Blk) (rv : Value) (l : List LE) : Prop := ∃ G P', RsL rv l G ∧ pool.Perm (G ++ P')
theorem InP.more {pool : List Blk} {rv : Value} {l : List LE} (h : InP pool rv l) (N : List Blk) : InP (N ++ pool) rv l := by
  obtain ⟨G, P', hO, hp⟩ := h
  exact ⟨G, N ++ P', hO, (hp.append_left N).trans (List.perm_append_comm_assoc _ _ _)⟩
theorem InP.left {pool : List Blk} {rv rv' : Value} {l l' : List LE} {N : List Blk} (h : InP pool rv l) (hL : Left rv rv' l l' N) : InP (N ++ pool) rv' l' := by
  rcases hL with ⟨rfl, rfl⟩ | hR
  · exact h.more N
  · exact ⟨N, pool, hR, .refl _⟩
theorem InP.form {pool : List Blk} {rv : Value} {l : List LE} (h : InP pool rv l) : ∃ a c, rv = .slice a l.length c := by
  obtain ⟨G, P', hO, hp⟩ := h
  exact hO.form
/-- A contract that reads some blocks of a pool reads the pool. -/
theorem con_pool {P : Program} {f : FuncId} {args : Array Value} {R0 G P' pool : List Blk} {Φ : Value → List Blk → List Blk → Prop} (hp : pool.Perm (G ++ P')) (h : Con P f args (R0 ++ G) fun v A => ∃ R1 N, A = R1 ++ (N ++ G) ∧ Φ v R1 N) :
    Con P f args (R0 ++ pool) fun v A => ∃ R1 N, A = R1 ++ (N ++ pool) ∧ Φ v R1 N := by
  intro B w hS
  have hS2 : Sat B ((R0 ++ G) ++ P') w := hS.perm (by rw [List.append_assoc]; exact hp.append_left R0)
  refine (h.frame hS2).mono fun e w' ⟨v, A', he, ⟨R1, N, hA, hΦ⟩, hS'⟩ => ⟨v, _, he, ⟨R1, N, rfl, hΦ⟩, ?_⟩
  rw [hA] at hS'
  refine hS'.perm ?_
  rw [List.append_assoc, List.append_assoc]
  exact (((hp.symm).append_left N)).append_left R1
theorem pgrant (m : Nat) (rv : Value) (l : List LE) (pool : List Blk) (job badge node life : Int) (h : InP pool rv l) (hlen : l.length ≤ 8) :
    Con Try.prog 12 #[ptr m, .int .i64 job, .int .i64 badge, .agg [.int .i64 node, .int .i64 life].toArray] (RT m 3 rv ++ pool)
      fun v A => ∃ R1 N, A = R1 ++ (N ++ pool) ∧ v = .int .i64 (grantF 3 l job badge node life).1 ∧ ∃ rv', R1 = RT m 3 rv' ∧ InP (N ++ pool) rv' (grantF 3 l job badge node life).2 := by
  have h' := h
  obtain ⟨G, P', hO, hp⟩ := h'
  refine (con_pool (Φ := fun v R1 N => v = .int .i64 (grantF 3 l job badge node life).1 ∧ ∃ rv', R1 = RT m 3 rv' ∧ Left rv rv' l (grantF 3 l job badge node life).2 N) hp ((rgrant_spec m 3 rv l G job badge node life hO hlen).mono fun v A ⟨hv, rv', N, hA, hL⟩ => ⟨RT m 3 rv', N, hA, hv, rv', rfl, hL⟩)).mono fun v A ⟨R1, N, hA, hv, rv', hR, hL⟩ => ⟨R1, N, hA, hv, rv', hR, h.left hL⟩
theorem pdrop (m : Nat) (rv : Value) (l : List LE) (pool : List Blk) (b : Int) (h : InP pool rv l) (hlen : l.length ≤ 8) :
    Con Try.prog 18 #[ptr m, .int .i64 b] (RT m 3 rv ++ pool)
      fun v A => ∃ R1 N, A = R1 ++ (N ++ pool) ∧ v = .int .i64 (dropF l b).1 ∧ ∃ rv', R1 = RT m 3 rv' ∧ InP (N ++ pool) rv' (dropF l b).2 := by
  have h' := h
  obtain ⟨G, P', hO, hp⟩ := h'
  refine (con_pool (Φ := fun v R1 N => v = .int .i64 (dropF l b).1 ∧ ∃ rv', R1 = RT m 3 rv' ∧ Left rv rv' l (dropF l b).2 N) hp ((rdrop_spec m 3 rv l G b hO hlen).mono fun v A ⟨hv, rv', N, hA, hL⟩ => ⟨RT m 3 rv', N, hA, hv, rv', rfl, hL⟩)).mono fun v A ⟨R1, N, hA, hv, rv', hR, hL⟩ => ⟨R1, N, hA, hv, rv', hR, h.left hL⟩
theorem ptick (m : Nat) (rv : Value) (l : List LE) (pool : List Blk) (h : InP pool rv l) (hl : LOk 3 l) :
    Con Try.prog 16 #[ptr m] (RT m 3 rv ++ pool)
      fun v A => ∃ R1 N, A = R1 ++ (N ++ pool) ∧ ∃ rv', R1 = RT m 3 rv' ∧ InP (N ++ pool) rv' (restF l) := by
  have h' := h
  obtain ⟨G, P', hO, hp⟩ := h'
  refine (con_pool (Φ := fun v R1 N => ∃ rv' G' G2, R1 = RT m 3 rv' ∧ N = G' ++ G2 ∧ RsL rv' (restF l) G') hp ((rtick_spec m 3 rv l G hO hl).mono fun v A ⟨rv', G', G2, hA, hv, hL⟩ => ⟨RT m 3 rv', G' ++ G2, by rw [hA, List.append_assoc], rv', G', G2, rfl, rfl, hL⟩)).mono fun v A ⟨R1, N, hA, rv', G', G2, hR, hN, hL⟩ => ⟨R1, N, hA, rv', hR, G', G2 ++ pool, hL, by rw [hN, List.append_assoc]⟩
theorem psame (v1 rv : Value) (l : List LE) (G1 pool : List Blk) (h1 : OwnL v1 l G1) (h : InP pool rv l) (hlen : l.length ≤ 8) : Con Try.prog 20 #[v1, rv] (G1 ++ pool) fun v A => v = .bool true ∧ A = G1 ++ pool := by
  obtain ⟨G, P', hO, hp⟩ := h
  refine (con_pool (Φ := fun v R1 N => v = .bool true ∧ R1 = G1 ∧ N = []) hp ((same_eq v1 rv l G1 G h1.rs.1 hO.1 (by omega)).mono fun v A ⟨hv, hA⟩ => ⟨G1, [], by rw [hA]; rfl, hv, rfl, rfl⟩)).mono fun v A ⟨R1, N, hA, hv, hR, hN⟩ => ⟨hv, by rw [hA, hR, hN]; rfl⟩

theorem place_in (x : Int) (many : Nat) (h1 : 0 < many) (h2 : many ≤ 1000000) : Con Try.prog 14 #[.int .i64 x, .int .i64 many] [] fun v A => (∃ j : Nat, j < many ∧ v = .int .i64 j) ∧ A = [] := by
  obtain ⟨j, hj, hjr⟩ := round_in x h1
  refine Con.intro (vs := [_, _]) Try.func14 rfl Try.ntmps14 rfl (fun B => ?_)
  repeat' (first | refine Cd.seq ?_ | refine Cd.reg ?_ | refine Ops.mv rfl rfl rfl rfl ?_ | refine Ops.asg rfl rfl rfl rfl ?_)
  refine Ops.remI rfl rfl rfl rfl (by omega) rfl ?_
  rcases hjr with ⟨hneg, hj2⟩ | ⟨hpos, hj2⟩
  · have hlow : 0 ≤ x.tmod many + many := by omega
    repeat' (first | refine Cd.seq ?_ | refine Cd.reg ?_ | refine Ops.nil ?_ | refine Ops.mv rfl rfl rfl rfl ?_ | refine Ops.asg rfl rfl rfl rfl ?_ | refine Ops.addI rfl rfl rfl rfl (by omega) (by omega) rfl ?_ | refine Ops.bin rfl rfl rfl rfl rfl ?_ | refine Cd.condT rfl (by first | rfl | assumption | (simp only [decide_eq_true_eq, decide_eq_false_iff_not, Bool.not_eq_true', Bool.not_eq_false', Bool.not_eq_eq_eq_not, Bool.not_true, Bool.not_false, beq_iff_eq, beq_eq_false_iff_ne, ne_eq, decide_eq_decide, eq_self, true_iff, iff_true, not_true_eq_false, not_false_eq_true]; first | done | omega)) ?_)
    exact Cd.ret (ret1 rfl (Res.tmp rfl) (fun _ h => h) ⟨⟨j, hj, by rw [hj2]⟩, rfl⟩)
  · repeat' (first | refine Cd.seq ?_ | refine Cd.reg ?_ | refine Ops.nil ?_ | refine Ops.mv rfl rfl rfl rfl ?_ | refine Ops.asg rfl rfl rfl rfl ?_ | refine Ops.bin rfl rfl rfl rfl rfl ?_ | refine Cd.skip (Cd.next ?_) | refine Cd.condF rfl (by first | rfl | assumption | (simp only [decide_eq_true_eq, decide_eq_false_iff_not, Bool.not_eq_true', Bool.not_eq_false', Bool.not_eq_eq_eq_not, Bool.not_true, Bool.not_false, beq_iff_eq, beq_eq_false_iff_ne, ne_eq, decide_eq_decide, eq_self, true_iff, iff_true, not_true_eq_false, not_false_eq_true]; first | done | omega)) ?_)
    exact Cd.ret (ret1 rfl (Res.tmp rfl) (fun _ h => h) ⟨⟨j, hj, by rw [hj2]⟩, rfl⟩)

/-- Numbers, where they lie. -/
def Nums (B : Base) (a : Option Addr) (len : Nat) (l : List Int) : Prop :=
  l.length = len ∧ ∀ (i : Nat) (x : Int), l[i]? = some x → ∃ b off, a = some ⟨b, off, none⟩ ∧ ∀ (A : List Blk), Rd B A b (off + i * 1) (.int .i64 x)
structure TS where
  i : Nat
  l : List LE
  es : List ME
  ck : Nat
  rv : Value
  pool : List Blk
@[reducible] def HB (b3 b4 b5 b7 n mb m : Nat) (stop : Int) (es : List ME) (ck : Nat) (rv : Value) (pool : List Blk) : List Blk :=
  (b3, cl [.int .i64 stop] 3) :: (b4, cl [.bool false] 4) :: (b5, cl [ptr n] 23) :: (b7, cl [ptr m] 27) :: (TB n mb 3 es ck ++ (RT m 3 rv ++ pool))
@[reducible] def LT (b13 b11 : Nat) (k : Nat) (rv0 : Value) (R : List Blk) : List Blk := (b13, cl [.int .i64 k] 3) :: (b11, cl [rv0] 33) :: R
theorem HB.perm {b3 b4 b5 b7 n mb m : Nat} {stop : Int} {es : List ME} {ck : Nat} {rv : Value} {p q : List Blk} (h : p.Perm q) : (HB b3 b4 b5 b7 n mb m stop es ck rv p).Perm (HB b3 b4 b5 b7 n mb m stop es ck rv q) :=
  (((((h.append_left _).append_left _).cons _).cons _).cons _).cons _
/-- What holds in the first range. -/
def YI (l0 : List LE) (rv0 : Value) (pre l : List LE) (es : List ME) (ck : Nat) (rv : Value) (pool : List Blk) : Prop :=
  TOk 3 l es ck ∧ InP pool rv l ∧ InP pool rv0 l0 ∧ pre = l0.take pre.length

theorem lease_tells (w : World) (sa : Option Addr) (len cap : Nat) (stop : Int) (xs : List Int) (hs : Nums (baseOf w) sa len xs) (hlen : len ≤ 18000000000000) :
    Calls Try.prog 3 #[.slice sa len cap, .int .i64 stop] w fun e w' => e = .returned (.bool true) ∧ RowKit.Below w.heap.size w w' := by
  refine calls_base (vs := [_, _]) Try.func3 rfl Try.ntmps3 rfl ?_
  refine Cd.seq ?_
  refine Cd.reg ?_
  refine Ops.box rfl rfl rfl rfl (noPd rfl) (fun b3 => ?_)
  refine Ops.alloc rfl rfl rfl (noPd rfl) (fun b4 => ?_)
  repeat' (first | refine Cd.seq ?_ | refine Cd.reg ?_)
  refine Ops.call (new_yes 3 (by decide) (by decide)) rfl (noPd rfl) rfl rfl rfl (fun v A' hR => ?_)
  obtain ⟨n, mb, rfl, rfl⟩ := hR
  repeat' (first | refine Cd.seq ?_ | refine Cd.reg ?_ | refine Ops.mv rfl rfl rfl rfl ?_ | refine Ops.asg rfl rfl rfl rfl ?_ | refine Ops.ext rfl rfl rfl rfl rfl ?_ | refine Ops.alloc rfl rfl rfl (noPd rfl) (fun b => ?_) | refine Ops.st1 rfl rfl rfl rfl rfl (noPd rfl) ?_)
  rename Nat => b5
  refine Ops.call (rnew_yes 3 (by decide) (by decide)) rfl (noPd rfl) rfl rfl rfl (fun v A' hR => ?_)
  obtain ⟨m, rfl, rfl⟩ := hR
  repeat' (first | refine Cd.seq ?_ | refine Cd.reg ?_ | refine Ops.nil ?_ | refine Ops.mv rfl rfl rfl rfl ?_ | refine Ops.asg rfl rfl rfl rfl ?_ | refine Ops.ld1 rfl rfl rfl rfl rfl ?_ | refine Ops.bin rfl rfl rfl rfl rfl ?_ | refine Ops.pickF rfl rfl rfl rfl rfl ?_ | refine Ops.ext rfl rfl rfl rfl rfl ?_ | refine Ops.alloc rfl rfl rfl (noPd rfl) (fun b => ?_) | refine Ops.st1 rfl rfl rfl rfl rfl (noPd rfl) ?_ | refine Cd.condF rfl rfl ?_ | refine Cd.block ?_ | refine Cd.skip (Cd.next ?_))
  rename Nat => b7
  refine Cd.loopK (σ := TS) (fun s => s.i ≤ len ∧ TOk 3 s.l s.es s.ck ∧ InP s.pool s.rv s.l) (fun s => [(0, .slice sa len cap), (3, ptr b3), (4, ptr b4), (5, ptr b5), (7, ptr b7), (9, .int .i64 s.i)])
    (fun s => HB b3 b4 b5 b7 n mb m stop s.es s.ck s.rv s.pool) (fun s => len - s.i) ⟨0, [], [], 0, .slice none 0 0, []⟩ ⟨Nat.zero_le _, TOk.new (by decide) (by decide), [], [], ⟨⟨RowsOk.nil, .inl ⟨rfl, rfl, rfl⟩⟩, Nat.le_refl 0⟩, .refl _⟩ ⟨rfl, rfl, rfl, rfl, rfl, rfl, trivial⟩
    (fun w h => (h.split : Sat _ ((b3, cl [.int .i64 stop] 3) :: (b4, cl [.bool false] 4) :: (b5, cl [ptr n] 23) :: (b7, cl [ptr m] 27) :: (TB n mb 3 [] 0 ++ RT m 3 (.slice none 0 0))) w)) (fun s hI => ?_)
  obtain ⟨i, l, es, ck, rv, pool⟩ := s
  obtain ⟨hi, hT, hP⟩ := hI
  dsimp only at hi hT hP ⊢
  have hfew := hT.lok.few
  by_cases hil : i < len
  · have hil' : (i : Int) < len := by omega
    obtain ⟨x, hx⟩ : ∃ x, xs[i]? = some x := ⟨_, List.getElem?_eq_getElem (by rw [hs.1]; exact hil)⟩
    obtain ⟨b0, off, rfl, hrd⟩ := hs.2 i x hx
    have hr0 : ∀ A, Rd (baseOf w) A b0 (off + (i : Int).toNat * 1) (.int .i64 x) := fun A => by rw [Int.toNat_natCast]; exact hrd A
    have ht9 := tmod_in (i : Int) (b := 9) (by decide)
    have hstay := hP
    obtain ⟨pa, pc, rfl⟩ := hstay.form
    repeat' (first | refine Cd.seq ?_ | refine Cd.reg ?_ | refine Ops.nil ?_ | refine Ops.mv rfl rfl rfl rfl ?_ | refine Ops.lenS rfl rfl rfl rfl ?_ | refine Ops.bin rfl rfl rfl rfl rfl ?_ | refine Cd.block ?_ | refine Cd.skip (Cd.next ?_) | refine Ops.ixa rfl rfl rfl rfl (by omega) (by omega) rfl ?_ | refine Cd.condT rfl (by first | rfl | assumption | (simp only [decide_eq_true_eq, decide_eq_false_iff_not, Bool.not_eq_true', Bool.not_eq_false', Bool.not_eq_eq_eq_not, Bool.not_true, Bool.not_false, beq_iff_eq, beq_eq_false_iff_ne, ne_eq, decide_eq_decide, eq_self, true_iff, iff_true, not_true_eq_false, not_false_eq_true]; first | done | omega)) ?_)
    refine Ops.ldR rfl rfl rfl (hr0 _) rfl ?_
    repeat' (first | refine Cd.seq ?_ | refine Ops.bld rfl rfl rfl rfl ?_ | refine Ops.alloc rfl rfl rfl (noPd rfl) (fun b => ?_) | refine Ops.stN rfl rfl rfl rfl rfl rfl (noPd rfl) ?_)
    rename Nat => b10
    refine Cd.draw [(0, 1, []), (1, 0, []), (2, 0, []), (3, 0, []), (4, 0, []), (5, 0, []), (6, 0, []), (7, 1, []), (8, 1, []), (10, 1, []), (11, 0, []), (12, 0, []), (13, 0, []), (14, 0, []), (15, 0, []), (16, 0, []), (17, 1, []), (18, 1, []), (9, 2, [10, 17, 18]), (19, 2, []), (20, 0, [])] (by kernel_rfl) (by kernel_rfl) (by simp only [picked, nth]; exact rfl) ?_
    repeat' (first | refine Ops.mv rfl rfl rfl rfl ?_ | refine Ops.ld1 rfl rfl rfl rfl rfl ?_)
    refine Ops.remI rfl rfl rfl rfl (by decide) rfl ?_
    repeat' (first | refine Ops.mv rfl rfl rfl rfl ?_ | refine Ops.addI rfl rfl rfl rfl (by omega) (by omega) rfl ?_ | refine Ops.ixa rfl rfl rfl rfl (by omega) (by omega) rfl ?_)
    refine Ops.ldR rfl rfl rfl (hr0 _) rfl ?_
    repeat' (first | refine Ops.mv rfl rfl rfl rfl ?_ | refine Ops.ld1 rfl rfl rfl rfl rfl ?_ | refine Ops.ldN rfl rfl rfl rfl ?_)
    refine Ops.remI rfl rfl rfl rfl (by decide) rfl ?_
    repeat' (first | refine Ops.mv rfl rfl rfl rfl ?_ | refine Ops.addI rfl rfl rfl rfl (by omega) (by omega) rfl ?_ | refine Ops.ixa rfl rfl rfl rfl (by omega) (by omega) rfl ?_)
    refine Ops.ldR rfl rfl rfl (hr0 _) rfl ?_
    repeat' (first | refine Ops.ldN rfl rfl rfl rfl ?_)
    refine Ops.call (grant_spec n mb 3 l es ck (1 + (i : Int).tmod 9) x i x hT) rfl (by first | exact noPd rfl | (intro v A' hR i hi; obtain ⟨A2, hR, rfl⟩ := hR; (try obtain ⟨rfl, rfl⟩ := hR); (repeat (rcases List.mem_cons.1 hi with rfl | hi; · (first | exact Still.ld1 rfl rfl rfl rfl rfl | exact Still.ldN rfl rfl rfl rfl | exact Still.len rfl rfl rfl rfl rfl | exact Still.skip rfl rfl rfl | exact Still.ldRow1 rfl rfl rfl (by assumption) (by assumption) rfl rfl | exact Still.ldR rfl rfl rfl (by apply_assumption) rfl))); cases hi)) rfl rfl rfl (fun v A' hR => ?_)
    obtain ⟨rfl, es', ck', rfl, hT'⟩ := hR
    skip
    refine Ops.call (pgrant m (.slice pa l.length pc) l pool (1 + (i : Int).tmod 9) x i x hP hfew) rfl (noPd rfl) rfl rfl rfl (fun v A' hR => ?_)
    obtain ⟨R1, N, rfl, rfl, rv', rfl, hP'⟩ := hR
    repeat' (first | refine Cd.reg ?_ | refine Ops.nil ?_ | refine Ops.mv rfl rfl rfl rfl ?_ | refine Ops.asg rfl rfl rfl rfl ?_ | refine Ops.addI rfl rfl rfl rfl (by omega) (by omega) rfl ?_ | refine Ops.bin rfl rfl rfl rfl rfl ?_ | refine Cd.skip (Cd.next (Q' := fun _ _ _ => True) ?_) | refine Cd.condF rfl (by first | rfl | assumption | (simp only [decide_eq_true_eq, decide_eq_false_iff_not, Bool.not_eq_true', Bool.not_eq_false', Bool.not_eq_eq_eq_not, Bool.not_true, Bool.not_false, beq_iff_eq, beq_eq_false_iff_ne, ne_eq, decide_eq_decide, eq_self, true_iff, iff_true, not_true_eq_false, not_false_eq_true]; first | done | omega)) ?_)
    exact Ops.nilN (round_end (⟨i + 1, _, es', ck', rv', N ++ pool⟩ : TS) ⟨by show i + 1 ≤ len; omega, hT', hP'⟩ (by show len - (i + 1) < len - i; omega) ⟨rfl, rfl, rfl, rfl, rfl, rfl, trivial⟩ (fun w h => (h.split : Sat _ ((b3, cl [.int .i64 stop] 3) :: (b4, cl [.bool false] 4) :: (b5, cl [ptr n] 23) :: (b7, cl [ptr m] 27) :: (TB n mb 3 es' ck' ++ (RT m 3 rv' ++ (N ++ pool)))) w)))
  · have hil' : ¬ (i : Int) < len := by omega
    obtain ⟨ra, rc, rfl⟩ := hP.form
    repeat' (first | refine Cd.seq ?_ | refine Cd.reg ?_ | refine Ops.nil ?_ | refine Ops.mv rfl rfl rfl rfl ?_ | refine Ops.nilP rfl rfl rfl rfl ?_ | refine Ops.fa0 rfl rfl rfl rfl ?_ | refine Ops.ld1 rfl rfl rfl rfl rfl ?_ | refine Ops.lenS rfl rfl rfl rfl ?_ | refine Ops.bin rfl rfl rfl rfl rfl ?_ | refine Ops.alloc rfl rfl rfl (noPd rfl) (fun b => ?_) | refine Ops.st1 rfl rfl rfl rfl rfl (noPd rfl) ?_ | refine Cd.exit (Cd.next (Q' := fun _ _ _ => True) ?_) | refine Cd.condF rfl (by first | rfl | assumption | (simp only [decide_eq_true_eq, decide_eq_false_iff_not, Bool.not_eq_true', Bool.not_eq_false', Bool.not_eq_eq_eq_not, Bool.not_true, Bool.not_false, beq_iff_eq, beq_eq_false_iff_ne, ne_eq, decide_eq_decide, eq_self, true_iff, iff_true, not_true_eq_false, not_false_eq_true]; first | done | omega)) ?_)
    rename Nat => b11
    refine Ops.call (all_spec n) rfl (noPd rfl) rfl rfl rfl (fun v A' hR => ?_)
    obtain ⟨bA, rfl, rfl⟩ := hR
    repeat' (first | refine Cd.seq ?_ | refine Cd.reg ?_ | refine Ops.nil ?_ | refine Ops.mv rfl rfl rfl rfl ?_ | refine Ops.asg rfl rfl rfl rfl ?_ | refine Ops.bin rfl rfl rfl rfl rfl ?_ | refine Ops.alloc rfl rfl rfl (noPd rfl) (fun b => ?_) | refine Ops.st1 rfl rfl rfl rfl rfl (noPd rfl) ?_ | refine Cd.condF rfl rfl ?_ | refine Cd.block ?_ | refine Cd.skip (Cd.next ?_))
    rename Nat => b13
    generalize hrv0 : Value.slice ra l.length rc = rv0 at *
    refine Cd.range (X := LE) (C0 := LT b13 b11 0 rv0 (HB b3 b4 b5 b7 n mb m stop es ck rv0 pool)) (all_iter n bA mb 3 l es ck hT) rfl rfl (ps := [75]) rfl (fun _ => rfl)
      (fun pre C => ∃ l1 es1 ck1 rv1 pool1, YI l rv0 pre l1 es1 ck1 rv1 pool1 ∧ (pre = [] → C = LT b13 b11 0 rv0 (HB b3 b4 b5 b7 n mb m stop es ck rv0 pool)) ∧ C = LT b13 b11 pre.length rv0 (HB b3 b4 b5 b7 n mb m stop es1 ck1 rv1 pool1))
      (fun _ _ _ => False)
      (fun pre x T C => Told l (pre ++ [x]) ∧ ∃ l1 es1 ck1 rv1 pool1 b14, YI l rv0 pre l1 es1 ck1 rv1 pool1 ∧ T = [(3, ptr b3), (4, ptr b4), (5, ptr b5), (7, ptr b7), (11, ptr b11), (13, ptr b13), (14, ptr b14)] ∧ C = (b14, cl x.row 40) :: LT b13 b11 pre.length rv0 (HB b3 b4 b5 b7 n mb m stop es1 ck1 rv1 pool1))
      (fun w hw => (hw.split : Sat _ ((bA, cl [ptr n] 23) :: LT b13 b11 0 rv0 (HB b3 b4 b5 b7 n mb m stop es ck rv0 pool)) w))
      ⟨l, es, ck, rv0, pool, ⟨hT, hP, hP, rfl⟩, fun _ => rfl, rfl⟩
      (fun C ⟨_, _, _, _, _, _, hC, _⟩ => ⟨(b13, cl [.int .i64 ((0 : Nat) : Int)] 3) :: (b11, cl [rv0] 33) :: (b3, cl [.int .i64 stop] 3) :: (b4, cl [.bool false] 4) :: (b5, cl [ptr n] 23) :: (b7, cl [ptr m] 27) :: (RT m 3 rv0 ++ pool), by
        rw [hC rfl]
        exact (Split.perm (A := LT b13 b11 0 rv0 (HB b3 b4 b5 b7 n mb m stop es ck rv0 pool)) (A1 := TB n mb 3 es ck))⟩)
      ?_ ?_ ?_ ?_
    · rintro B2 pre x C hx hok ⟨l1, es1, ck1, rv1, pool1, hY, _, rfl⟩
      repeat' (first | refine Cd.reg ?_ | refine Ops.alloc rfl rfl rfl (noPd rfl) (fun b => ?_) | refine Ops.stN rfl rfl rfl rfl rfl rfl (noPd rfl) ?_)
      exact Ops.nilN (asg_end ⟨hok, l1, es1, ck1, rv1, pool1, _, hY, rfl, rfl⟩ (fun a hF => hF.keeps ⟨rfl, rfl, rfl, rfl, rfl, rfl, rfl, trivial⟩) (fun w h => h))
    · rintro lp r B2 pre x T C hro hlp hx hok ⟨htold, l1, es1, ck1, rv1, pool1, b14, ⟨hT1, hP1, hP0, hpre⟩, rfl, rfl⟩
      obtain ⟨q, hq1, hq2, hq3⟩ := told_inv htold
      have hql := (List.getElem?_eq_some_iff.1 hq2).1
      subst hq3
      have hpre' : pre ++ [x] = l.take (pre ++ [x]).length := by
        rw [List.length_append]
        show _ = l.take (pre.length + 1)
        rw [← take_next hq2, ← hpre]
      have hkl : ¬ (l.length : Int) ≤ pre.length := by omega
      have hxr : (l.map LE.row)[(pre.length : Int).toNat]? = some x.row := map_at hq2
      have hk1 := lrows_ok l
      have hP0' := hP0
      obtain ⟨G0, P0, hR0, hp0⟩ := hP0'
      obtain ⟨g, c, sp, e1, rfl⟩ := hR0.some_ (by omega)
      have hfew1 := hT1.lok.few
      generalize hc20 : Code.seq (Code.seq (Code.region 20 _ _) _) _ = c20
      refine Cd.blk (A' := (b14, cl x.row 40) :: LT b13 b11 pre.length rv0 (HB b3 b4 b5 b7 n mb m stop es1 ck1 rv1 ([(g, cl ((l.map LE.row).flatten ++ sp) 40)] ++ P0))) ?_ (fun w h => h.perm ((((HB.perm hp0).cons _).cons _).cons _))
      rw [e1]
      repeat' (first | refine Cd.seq ?_ | refine Cd.block ?_)
      refine Cd.draw [(0, 1, []), (1, 1, []), (2, 1, []), (3, 0, []), (4, 0, []), (5, 1, []), (6, 1, []), (7, 1, []), (8, 0, []), (9, 1, []), (10, 0, []), (11, 0, [])] (by kernel_rfl) (by kernel_rfl) (by simp only [picked, nth]; exact rfl) ?_
      repeat' (first | refine Ops.nil ?_ | refine Ops.mv rfl rfl rfl rfl ?_ | refine Ops.ld1 rfl rfl rfl rfl rfl ?_ | refine Ops.ldN rfl rfl rfl rfl ?_ | refine Ops.lenS rfl rfl rfl rfl ?_ | refine Ops.bin rfl rfl rfl rfl rfl ?_ | refine Ops.pickF rfl rfl rfl rfl rfl ?_ | refine Cd.condF rfl rfl ?_ | refine Cd.skip (Cd.next ?_) | refine Ops.ixa0 rfl rfl rfl rfl (by omega) (by omega) rfl ?_ | refine Ops.ldRow rfl rfl rfl (by assumption) (by assumption) rfl ?_ | ((fail_if_success refine Ops.probe rfl ?_); refine Ops.gF rfl rfl (by first | rfl | assumption | (simp only [decide_eq_true_eq, decide_eq_false_iff_not, Bool.not_eq_true', Bool.not_eq_false', Bool.not_eq_eq_eq_not, Bool.not_true, Bool.not_false, beq_iff_eq, beq_eq_false_iff_ne, ne_eq, decide_eq_decide, eq_self, true_iff, iff_true, not_true_eq_false, not_false_eq_true]; first | done | omega)) ?_))
      subst hc20
      refine Cd.blk (A' := (b14, cl x.row 40) :: LT b13 b11 pre.length (.slice (some ⟨g, 0, none⟩) l.length c) (HB b3 b4 b5 b7 n mb m stop es1 ck1 rv1 pool1)) ?_ (fun w h => h.perm ((((HB.perm hp0.symm).cons _).cons _).cons _))
      rw [e1] at hP0
      clear hR0 hp0 P0 e1
      repeat' (first | refine Cd.seq ?_)
      refine Cd.draw [(0, 1, []), (1, 1, []), (2, 2, [0]), (3, 0, [])] (by kernel_rfl) (by kernel_rfl) (by simp only [picked, nth]; exact rfl) ?_
      repeat' (first | refine Ops.ld1 rfl rfl rfl rfl rfl ?_)
      refine Ops.call (place_in stop 9 (by decide) (by decide)) rfl (by first | exact noPd rfl | (intro v A' hR i hi; obtain ⟨A2, hR, rfl⟩ := hR; (try obtain ⟨rfl, rfl⟩ := hR); (repeat (rcases List.mem_cons.1 hi with rfl | hi; · (first | exact Still.ld1 rfl rfl rfl rfl rfl | exact Still.ldN rfl rfl rfl rfl | exact Still.len rfl rfl rfl rfl rfl | exact Still.skip rfl rfl rfl | exact Still.ldRow1 rfl rfl rfl (by assumption) (by assumption) rfl rfl | exact Still.ldR rfl rfl rfl (by apply_assumption) rfl))); cases hi)) rfl rfl rfl (fun v A' hR => ?_)
      obtain ⟨⟨j, hj, rfl⟩, rfl⟩ := hR
      by_cases hkj : (pre.length : Int) = j
      · repeat' (first | refine Cd.seq ?_ | refine Cd.reg ?_ | refine Ops.nil ?_ | refine Ops.ld1 rfl rfl rfl rfl rfl ?_ | refine Ops.bin rfl rfl rfl rfl rfl ?_ | refine Cd.condT rfl (by first | rfl | assumption | (simp only [decide_eq_true_eq, decide_eq_false_iff_not, Bool.not_eq_true', Bool.not_eq_false', Bool.not_eq_eq_eq_not, Bool.not_true, Bool.not_false, beq_iff_eq, beq_eq_false_iff_ne, ne_eq, decide_eq_decide, eq_self, true_iff, iff_true, not_true_eq_false, not_false_eq_true]; first | done | omega)) ?_)
        refine Ops.call (tick_spec n mb 3 l1 es1 ck1 hT1) rfl (noPd rfl) rfl rfl rfl (fun v A' hR => ?_)
        obtain ⟨es2, ck2, G2, hRs2, rfl, hT2⟩ := hR
        repeat' (first | refine Cd.seq ?_ | refine Cd.reg ?_ | refine Ops.ld1 rfl rfl rfl rfl rfl ?_)
        refine Ops.call (ptick m rv1 l1 pool1 hP1 hT1.lok) rfl (noPd rfl) rfl rfl rfl (fun v A' hR => ?_)
        obtain ⟨R1, N2, rfl, rv2, rfl, hP2⟩ := hR
        have hZ2 := hP0.more N2
        generalize hp2 : N2 ++ pool1 = pool2 at *
        have hfew2 := hT2.lok.few
        repeat' (first | refine Cd.seq ?_ | refine Cd.reg ?_ | refine Ops.fa0 rfl rfl rfl rfl ?_ | refine Ops.ld1 rfl rfl rfl rfl rfl ?_)
        refine Ops.call (drop_spec n mb 3 _ es2 ck2 x.badge hT2) rfl (noPd rfl) rfl rfl rfl (fun v A' hR => ?_)
        obtain ⟨rfl, es3, ck3, rfl, hT3⟩ := hR
        repeat' (first | refine Cd.seq ?_ | refine Cd.reg ?_ | refine Ops.fa0 rfl rfl rfl rfl ?_ | refine Ops.ld1 rfl rfl rfl rfl rfl ?_)
        refine Ops.call (pdrop m rv2 _ pool2 x.badge hP2 hfew2) rfl (noPd rfl) rfl rfl rfl (fun v A' hR => ?_)
        obtain ⟨R1, N3, rfl, rfl, rv3, rfl, hP3⟩ := hR
        have hZ3 := hZ2.more N3
        generalize hp3 : N3 ++ pool2 = pool3 at *
        have hfew3 := hT3.lok.few
        repeat' (first | refine Cd.seq ?_ | refine Cd.reg ?_ | refine Ops.ld1 rfl rfl rfl rfl rfl ?_ | refine Ops.bld rfl rfl rfl rfl ?_)
        refine Ops.call (grant_spec n mb 3 _ es3 ck3 8 1 0 0 hT3) rfl (noPd rfl) rfl rfl rfl (fun v A' hR => ?_)
        obtain ⟨rfl, es4, ck4, rfl, hT4⟩ := hR
        repeat' (first | refine Cd.seq ?_ | refine Cd.reg ?_ | refine Ops.ld1 rfl rfl rfl rfl rfl ?_ | refine Ops.bld rfl rfl rfl rfl ?_)
        refine Ops.call (pgrant m rv3 _ pool3 8 1 0 0 hP3 hfew3) rfl (noPd rfl) rfl rfl rfl (fun v A' hR => ?_)
        obtain ⟨R1, N4, rfl, rfl, rv4, rfl, hP4⟩ := hR
        have hZ4 := hZ3.more N4
        generalize hp4 : N4 ++ pool3 = pool4 at *
        have hfew4 := hT4.lok.few
        generalize (grantF 3 (dropF (restF l1) x.badge).2 8 1 0 0).2 = l4 at hT4 hP4 hfew4
        obtain ⟨ra4, rc4, rfl⟩ := hP4.form
        repeat' (first | refine Cd.seq ?_ | refine Cd.reg ?_ | refine Ops.ld1 rfl rfl rfl rfl rfl ?_)
        refine Ops.call (lall99 n mb 3 l4 es4 ck4 hT4) rfl (noPd rfl) rfl rfl rfl (fun v A' hR => ?_)
        obtain ⟨sv5, G5, rfl, hO5, rfl⟩ := hR
        obtain ⟨a5, c5, rfl⟩ := hO5.form
        repeat' (first | refine Cd.seq ?_ | refine Cd.reg ?_ | refine Ops.mv rfl rfl rfl rfl ?_ | refine Ops.asg rfl rfl rfl rfl ?_ | refine Ops.nilP rfl rfl rfl rfl ?_ | refine Ops.fa0 rfl rfl rfl rfl ?_ | refine Ops.ld1 rfl rfl rfl rfl rfl ?_ | refine Ops.un rfl rfl rfl rfl ?_ | refine Ops.ext rfl rfl rfl rfl rfl ?_)
        refine Ops.call (psame _ _ l4 G5 pool4 hO5 hP4 hfew4) rfl (noPd rfl) rfl rfl rfl (fun v A' hR => ?_)
        obtain ⟨rfl, rfl⟩ := hR
        repeat' (first | refine Cd.reg ?_ | refine Ops.nil ?_ | refine Ops.ld1 rfl rfl rfl rfl rfl ?_ | refine Ops.addI rfl rfl rfl rfl (by omega) (by omega) rfl ?_ | refine Ops.un rfl rfl rfl rfl ?_ | refine Ops.pickF rfl rfl rfl rfl rfl ?_ | refine Ops.st1 rfl rfl rfl rfl rfl (noPd rfl) ?_ | refine Cd.condF rfl rfl ?_ | refine Cd.skip (Cd.next ?_))
        exact Ops.nilN (inB (rnd_next ⟨l4, es4, ck4, _, pool4, ⟨hT4, hP4, hZ4, hpre'⟩, fun e => by simp at e, by rw [List.length_append]; rfl⟩ (fun w h => (h.split : Sat _ ((b13, cl [.int .i64 ((pre.length : Int) + 1)] 3) :: (b11, cl [.slice (some ⟨g, 0, none⟩) l.length c] 33) :: (b3, cl [.int .i64 stop] 3) :: (b4, cl [.bool false] 4) :: (b5, cl [ptr n] 23) :: (b7, cl [ptr m] 27) :: (TB n mb 3 es4 ck4 ++ (RT m 3 (.slice ra4 l4.length rc4) ++ pool4))) w))))
      · repeat' (first | refine Cd.reg ?_ | refine Ops.nil ?_ | refine Ops.ld1 rfl rfl rfl rfl rfl ?_ | refine Ops.addI rfl rfl rfl rfl (by omega) (by omega) rfl ?_ | refine Ops.bin rfl rfl rfl rfl rfl ?_ | refine Ops.st1 rfl rfl rfl rfl rfl (noPd rfl) ?_ | refine Cd.skip (Cd.next ?_) | refine Cd.condF rfl (by first | rfl | assumption | (simp only [decide_eq_true_eq, decide_eq_false_iff_not, Bool.not_eq_true', Bool.not_eq_false', Bool.not_eq_eq_eq_not, Bool.not_true, Bool.not_false, beq_iff_eq, beq_eq_false_iff_ne, ne_eq, decide_eq_decide, eq_self, true_iff, iff_true, not_true_eq_false, not_false_eq_true]; first | done | omega)) ?_)
        exact Ops.nilN (inB (rnd_next ⟨l1, es1, ck1, rv1, pool1, ⟨hT1, hP1, hP0, hpre'⟩, fun e => by simp at e, by rw [List.length_append]; rfl⟩ (fun w h => (h.split : Sat _ ((b13, cl [.int .i64 ((pre.length : Int) + 1)] 3) :: (b11, cl [.slice (some ⟨g, 0, none⟩) l.length c] 33) :: (b3, cl [.int .i64 stop] 3) :: (b4, cl [.bool false] 4) :: (b5, cl [ptr n] 23) :: (b7, cl [ptr m] 27) :: (TB n mb 3 es1 ck1 ++ (RT m 3 rv1 ++ pool1))) w))))
    · rintro D xs2 C hD rfl ⟨l1, es1, ck1, rv1, pool1, ⟨hT1, hP1, hP0, hpre⟩, _, rfl⟩
      have hfew1 := hT1.lok.few
      obtain ⟨ra1, rc1, erv1⟩ := hP1.form
      subst erv1
      refine Cd.next (Q' := fun _ _ _ => True) ?_
      repeat' (first | refine Cd.seq ?_ | refine Cd.reg ?_ | refine Ops.nil ?_ | refine Ops.mv rfl rfl rfl rfl ?_ | refine Ops.alloc rfl rfl rfl (noPd rfl) (fun b => ?_) | refine Ops.st1 rfl rfl rfl rfl rfl (noPd rfl) ?_ | refine Cd.block ?_)
      rename Nat => b17
      subst hrv0
      refine Cd.range (X := LE) (C0 := (b17, cl [.int .i64 ((0 : Nat) : Int)] 3) :: LT b13 b11 xs2.length (.slice ra xs2.length rc) (HB b3 b4 b5 b7 n mb m stop es1 ck1 (.slice ra1 l1.length rc1) pool1)) (all_iter n bA mb 3 l1 es1 ck1 hT1) rfl rfl (ps := [129]) rfl (fun _ => rfl)
        (fun pre C => pre = l1.take pre.length ∧ C = (b17, cl [.int .i64 pre.length] 3) :: LT b13 b11 xs2.length (.slice ra xs2.length rc) (HB b3 b4 b5 b7 n mb m stop es1 ck1 (.slice ra1 l1.length rc1) pool1))
        (fun _ _ _ => False)
        (fun pre x T C => Told l1 (pre ++ [x]) ∧ pre = l1.take pre.length ∧ ∃ b18, T = [(4, ptr b4), (7, ptr b7), (17, ptr b17), (18, ptr b18)] ∧ C = (b18, cl x.row 40) :: (b17, cl [.int .i64 pre.length] 3) :: LT b13 b11 xs2.length (.slice ra xs2.length rc) (HB b3 b4 b5 b7 n mb m stop es1 ck1 (.slice ra1 l1.length rc1) pool1))
        (fun w hw => (hw.split : Sat _ ((bA, cl [ptr n] 23) :: (b17, cl [.int .i64 ((0 : Nat) : Int)] 3) :: LT b13 b11 xs2.length (.slice ra xs2.length rc) (HB b3 b4 b5 b7 n mb m stop es1 ck1 (.slice ra1 l1.length rc1) pool1)) w))
        ⟨rfl, rfl⟩
        (fun C hC => ⟨(b17, cl [.int .i64 ((0 : Nat) : Int)] 3) :: (b13, cl [.int .i64 xs2.length] 3) :: (b11, cl [.slice ra xs2.length rc] 33) :: (b3, cl [.int .i64 stop] 3) :: (b4, cl [.bool false] 4) :: (b5, cl [ptr n] 23) :: (b7, cl [ptr m] 27) :: (RT m 3 (.slice ra1 l1.length rc1) ++ pool1), by
          obtain ⟨_, rfl⟩ := hC
          exact (Split.perm (A := (b17, cl [.int .i64 ((0 : Nat) : Int)] 3) :: LT b13 b11 xs2.length (.slice ra xs2.length rc) (HB b3 b4 b5 b7 n mb m stop es1 ck1 (.slice ra1 l1.length rc1) pool1)) (A1 := TB n mb 3 es1 ck1))⟩)
        ?_ ?_ ?_ ?_
      · rintro B2 pre x C hx hok ⟨hpr, rfl⟩
        repeat' (first | refine Cd.reg ?_ | refine Ops.alloc rfl rfl rfl (noPd rfl) (fun b => ?_) | refine Ops.stN rfl rfl rfl rfl rfl rfl (noPd rfl) ?_)
        exact Ops.nilN (asg_end ⟨hok, hpr, _, rfl, rfl⟩ (fun a hF => hF.keeps ⟨rfl, rfl, rfl, rfl, trivial⟩) (fun w h => h))
      · rintro lp r B2 pre x T C hro hlp hx hok ⟨htold, hpr, b18, rfl, rfl⟩
        obtain ⟨q, hq1, hq2, hq3⟩ := told_inv htold
        have hql := (List.getElem?_eq_some_iff.1 hq2).1
        subst hq3
        have hpre' : pre ++ [x] = l1.take (pre ++ [x]).length := by
          rw [List.length_append]
          show _ = l1.take (pre.length + 1)
          rw [← take_next hq2, ← hpr]
        have hkl : ¬ (l1.length : Int) ≤ pre.length := by omega
        have hxr : (l1.map LE.row)[(pre.length : Int).toNat]? = some x.row := map_at hq2
        have hk1 := lrows_ok l1
        obtain ⟨G0, P0, hR0, hp0⟩ := hP1
        obtain ⟨g, c, sp, e1, rfl⟩ := hR0.some_ (by omega)
        injection e1 with z1 z2 z3
        subst z1; subst z3
        refine Cd.blk (A' := (b18, cl x.row 40) :: (b17, cl [.int .i64 pre.length] 3) :: LT b13 b11 xs2.length (.slice ra xs2.length rc) (HB b3 b4 b5 b7 n mb m stop es1 ck1 (.slice (some ⟨g, 0, none⟩) l1.length rc1) ([(g, cl ((l1.map LE.row).flatten ++ sp) 40)] ++ P0))) ?_ (fun w h => h.perm (((((HB.perm hp0).cons _).cons _).cons _).cons _))
        repeat' (first | refine Cd.seq ?_ | refine Cd.block ?_)
        refine Cd.draw [(0, 1, []), (1, 1, []), (2, 0, []), (3, 0, []), (4, 1, []), (5, 1, []), (6, 0, []), (7, 0, []), (8, 1, []), (9, 1, []), (10, 0, []), (11, 0, []), (12, 1, []), (13, 1, []), (14, 0, []), (15, 1, []), (16, 0, []), (17, 0, [])] (by kernel_rfl) (by kernel_rfl) (by simp only [picked, nth]; exact rfl) ?_
        repeat' (first | refine Cd.reg ?_ | refine Ops.nil ?_ | refine Ops.mv rfl rfl rfl rfl ?_ | refine Ops.nilP rfl rfl rfl rfl ?_ | refine Ops.fa0 rfl rfl rfl rfl ?_ | refine Ops.ld1 rfl rfl rfl rfl rfl ?_ | refine Ops.ldN rfl rfl rfl rfl ?_ | refine Ops.lenS rfl rfl rfl rfl ?_ | refine Ops.addI rfl rfl rfl rfl (by omega) (by omega) rfl ?_ | refine Ops.bin rfl rfl rfl rfl rfl ?_ | refine Ops.pickF rfl rfl rfl rfl rfl ?_ | refine Ops.st1 rfl rfl rfl rfl rfl (noPd rfl) ?_ | refine Cd.condF rfl rfl ?_ | refine Cd.skip (Cd.next ?_) | refine Ops.ixa0 rfl rfl rfl rfl (by omega) (by omega) rfl ?_ | refine Ops.ldRow rfl rfl rfl (by assumption) (by assumption) rfl ?_ | ((fail_if_success refine Ops.probe rfl ?_); refine Ops.gF rfl rfl (by first | rfl | assumption | (simp only [decide_eq_true_eq, decide_eq_false_iff_not, Bool.not_eq_true', Bool.not_eq_false', Bool.not_eq_eq_eq_not, Bool.not_true, Bool.not_false, beq_iff_eq, beq_eq_false_iff_ne, ne_eq, decide_eq_decide, eq_self, true_iff, iff_true, not_true_eq_false, not_false_eq_true]; first | done | omega)) ?_))
        exact Ops.nilN (inB (rnd_next ⟨hpre', by rw [List.length_append]; rfl⟩ (fun w h => ((h.split : Sat _ ((b17, cl [.int .i64 ((pre.length : Int) + 1)] 3) :: LT b13 b11 xs2.length (.slice ra xs2.length rc) (HB b3 b4 b5 b7 n mb m stop es1 ck1 (.slice (some ⟨g, 0, none⟩) l1.length rc1) ([(g, cl ((l1.map LE.row).flatten ++ sp) 40)] ++ P0))) w).perm ((((HB.perm hp0.symm).cons _).cons _).cons _)))))
      · rintro D2 xs3 C hD2 rfl ⟨hpr, rfl⟩
        refine Cd.next (Q' := fun _ _ _ => True) ?_
        repeat' (first | refine Cd.seq ?_)
        refine Cd.draw [(0, 1, []), (1, 1, []), (2, 1, []), (3, 0, []), (4, 0, []), (5, 1, []), (6, 1, []), (7, 0, []), (8, 0, []), (9, 1, []), (10, 1, []), (11, 0, []), (12, 0, []), (13, 0, []), (14, 2, []), (15, 0, []), (16, 2, [])] (by kernel_rfl) (by kernel_rfl) (by simp only [picked, nth]; exact rfl) ?_
        repeat' (first | refine Ops.mv rfl rfl rfl rfl ?_ | refine Ops.nilP rfl rfl rfl rfl ?_ | refine Ops.fa0 rfl rfl rfl rfl ?_ | refine Ops.ld1 rfl rfl rfl rfl rfl ?_ | refine Ops.lenS rfl rfl rfl rfl ?_ | refine Ops.bin rfl rfl rfl rfl rfl ?_ | refine Ops.pickT rfl rfl rfl rfl rfl ?_ | ((fail_if_success refine Ops.probe rfl ?_); refine Ops.gT rfl rfl (by first | rfl | assumption | (simp only [decide_eq_true_eq, decide_eq_false_iff_not, Bool.not_eq_true', Bool.not_eq_false', Bool.not_eq_eq_eq_not, Bool.not_true, Bool.not_false, beq_iff_eq, beq_eq_false_iff_ne, ne_eq, decide_eq_decide, eq_self, true_iff, iff_true, not_true_eq_false, not_false_eq_true]; first | done | omega)) ?_))
        refine Ops.call fixed_spec rfl (noPd rfl) rfl rfl rfl (fun v A' hR => ?_)
        obtain ⟨rfl, rfl⟩ := hR
        repeat' (first | refine Ops.nil ?_ | refine Ops.pickT rfl rfl rfl rfl rfl ?_ | refine Ops.st1 rfl rfl rfl rfl rfl (noPd rfl) ?_)
        exact Cd.ret (unmark (mark2 hD hD2) (ret1 (A' := []) rfl (Res.cell1 rfl rfl) (fun w h => h.split) rfl))
      · rintro D2 c pre C hD2 hZ
        exact hZ.elim
    · rintro D c pre C hD hZ
      exact hZ.elim
end Go.Proofs.Ytlfhimdmhhpcfaa
