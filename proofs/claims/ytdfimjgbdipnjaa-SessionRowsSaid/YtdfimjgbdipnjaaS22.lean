import Derived.Test.YtdfimjgbdipnjaaS21
import Derived.Test.YtdfimjgbdipnjaaS10
namespace Go.Proofs.Ytdfimjgbdipnjaa
open Go Go.Sep Go.Proofs
set_option maxRecDepth 10000
set_option maxHeartbeats 8000000
set_option synthInstance.maxSize 2000
set_option linter.unusedSimpArgs false
set_option linter.unusedVariables false

/-- What a table's rows are. -/
structure TI (rs : List Dk) : Prop where
  rows : RowsI rs
  few : rs.length ≤ 8
  life : ∀ r ∈ rs, 0 ≤ r.life
theorem TI.fresh {k : Nat} (h : k ≤ 8) : TI (fresh k) := ⟨RowsI.fresh k, by simp [Go.Proofs.Ytdfimjgbdipnjaa.fresh]; exact h, fun r hr => by
  obtain ⟨i, _, rfl⟩ := List.mem_map.1 hr
  exact Int.le_refl _⟩
theorem TI.told {rs : List Dk} (h : TI rs) : rs.filter toldB = rs.filter liveB :=
  List.filter_congr fun r hr => by
    have := h.life r hr
    simp only [toldB, liveB, ← decide_not, decide_eq_decide]
    omega
theorem put_len {rs : List Dk} {slot : Int} (n : Option Dk) : (putRow rs slot n).length = rs.length := by
  cases n with
  | none => rfl
  | some r => exact List.length_set
theorem put_mem {rs : List Dk} {slot : Int} {n : Option Dk} {x : Dk} (h : x ∈ putRow rs slot n) : x ∈ rs ∨ n = some x := by
  cases n with
  | none => exact .inl h
  | some r => rcases List.mem_or_eq_of_mem_set h with h | h
              · exact .inl h
              · exact .inr (by rw [h])
theorem TI.open_ {rs : List Dk} (h : TI rs) (slot life session : Int) : TI (putRow rs slot (openV (rowAt rs slot) slot life session)) := by
  refine ⟨openV_rows h.rows, by rw [put_len]; exact h.few, fun r hr => ?_⟩
  rcases put_mem hr with hr | hr
  · exact h.life r hr
  · cases h1 : rowAt rs slot with
    | none => rw [h1] at hr; cases hr
    | some x =>
      rw [h1] at hr
      unfold openV at hr
      dsimp only at hr
      split at hr
      · rename_i hc
        obtain rfl := Option.some.inj hr
        have : 1 ≤ life ∧ life ≤ 1099511627776 := by simpa [cntB] using hc.1
        show 0 ≤ life
        omega
      · cases hr
theorem TI.answer {rs : List Dk} (h : TI rs) (slot : Int) (reply : ByteArray) : TI (putRow rs slot (answerV (rowAt rs slot) reply)) := by
  refine ⟨answerV_rows h.rows, by rw [put_len]; exact h.few, fun r hr => ?_⟩
  rcases put_mem hr with hr | hr
  · exact h.life r hr
  · cases h1 : rowAt rs slot with
    | none => rw [h1] at hr; cases hr
    | some x =>
      have hx := h.life x (List.mem_of_getElem? (rowAt_some h1).2)
      rw [h1] at hr
      unfold answerV at hr
      dsimp only at hr
      split at hr
      · obtain rfl := Option.some.inj hr
        exact hx
      · cases hr

structure WS where
  i : Nat
  L : List Dk
  G : List Blk
theorem lrows_spec (n m : Nat) (sv rv : Value) (rs : List Dk) (G H : List Blk) (hO : OwnK sv rs G) (hP : OwnK rv rs H) (hI : TI rs) :
    Con Try.prog 31 #[ptr n, ptr m] (TabB n sv G ++ TabR m rv H) fun v A => v = .bool true ∧ A = TabB n sv G ++ TabR m rv H := by
  have hfew := hI.few
  have hrows := rows_spec n sv rs G hO (by omega)
  have htold := told_spec m rv rs H hP (by omega)
  rw [hI.told] at htold
  have hfl : (rs.filter liveB).length ≤ 8 := Nat.le_trans (List.length_filter_le _ _) hfew
  generalize rs.filter liveB = F at hrows htold hfl
  obtain ⟨sa, sc, rfl⟩ := hO.form
  obtain ⟨ra, rc, rfl⟩ := hP.form
  refine Con.intro (vs := [_, _]) Try.func31 rfl Try.ntmps31 rfl (fun B => ?_)
  repeat' (first | refine Cd.seq ?_ | refine Cd.reg ?_ | refine Ops.mv rfl rfl rfl rfl ?_ | refine Ops.asg rfl rfl rfl rfl ?_)
  refine Ops.call hrows rfl (noPd rfl) rfl rfl rfl (fun v A' hR => ?_)
  obtain ⟨G1, rfl, h1⟩ := hR
  obtain ⟨a1, c1, rfl⟩ := h1.form
  repeat' (first | refine Cd.seq ?_ | refine Cd.reg ?_ | refine Ops.mv rfl rfl rfl rfl ?_ | refine Ops.asg rfl rfl rfl rfl ?_)
  refine Ops.call htold rfl (noPd rfl) rfl rfl rfl (fun v A' hR => ?_)
  obtain ⟨H1, rfl, h2⟩ := hR
  obtain ⟨a2, c2, rfl⟩ := h2.form
  skip
  refine Ops.call (same_eq _ _ F G1 H1 h1 h2 (by omega)) rfl (noPd rfl) rfl rfl rfl (fun v A' hR => ?_)
  obtain ⟨rfl, rfl⟩ := hR
  repeat' (first | refine Cd.seq ?_ | refine Cd.reg ?_ | refine Ops.nil ?_ | refine Ops.asg rfl rfl rfl rfl ?_ | refine Cd.block ?_)
  refine Cd.loopK (fun s : WS => s.i ≤ F.length ∧ s.L.length = F.length ∧ OwnK (.slice a1 F.length c1) s.L s.G) (fun s => [(0, ptr n), (1, ptr m), (5, .slice a1 F.length c1), (6, .bool true), (7, .int .i64 s.i)]) (fun s => s.G ++ (TabB n (.slice sa rs.length sc) G ++ TabR m (.slice ra rs.length rc) H)) (fun s => F.length - s.i) ⟨0, F, G1⟩
    ⟨Nat.zero_le _, rfl, h1⟩ ⟨rfl, rfl, rfl, rfl, rfl, trivial⟩ (fun w h => h.split) (fun s hI2 => ?_)
  clear h1 h2
  obtain ⟨i, L, G1⟩ := s
  obtain ⟨hi, hL, h1⟩ := hI2
  dsimp only at hi hL h1 ⊢
  have hll : (dks L).length = L.length := dks_len L
  by_cases hil : i < F.length
  · have hil' : (i : Int) < F.length := by omega
    have h1' := h1
    obtain ⟨g, c2, spare, e1, rfl, hsp, hle⟩ := h1.some_ (by omega)
    injection e1 with q1 q2 q3
    subst q1; subst q3
    have hok := dks_ok L
    repeat' (first | refine Cd.seq ?_ | refine Cd.reg ?_ | refine Ops.nil ?_ | refine Ops.mv rfl rfl rfl rfl ?_ | refine Ops.lenS rfl rfl rfl rfl ?_ | refine Ops.negI rfl rfl rfl (by omega) (by omega) rfl ?_ | refine Ops.bin rfl rfl rfl rfl rfl ?_ | refine Ops.bld rfl rfl rfl rfl ?_ | refine Cd.block ?_ | refine Cd.skip (Cd.next ?_) | refine Ops.ixa0 rfl rfl rfl rfl (by omega) (by omega) rfl ?_ | refine Cd.condT rfl (by first | rfl | assumption | (simp only [decide_eq_true_eq, decide_eq_false_iff_not, Bool.not_eq_true', Bool.not_eq_false', Bool.not_eq_eq_eq_not, Bool.not_true, Bool.not_false, beq_iff_eq, beq_eq_false_iff_ne, ne_eq, decide_eq_decide, eq_self, true_iff, iff_true, not_true_eq_false, not_false_eq_true]; first | done | omega)) ?_)
    refine Ops.stRow (rows := dks L) (i := (i : Int).toNat) rfl rfl rfl rfl rfl rfl hok (by rw [hll]; omega) (noPd rfl) ?_
    repeat' (first | refine Ops.nilN (inB (Cd.next ?_)) | refine Cd.reg ?_ | refine Ops.mv rfl rfl rfl rfl ?_ | refine Ops.asg rfl rfl rfl rfl ?_ | refine Ops.addI rfl rfl rfl rfl (by omega) (by omega) rfl ?_)
    have hset := Own.set (rows := dks L) (spare := spare) (c := c1) (g := g) (by rw [hll, hL]; exact h1') hsp (by rw [hll]; exact hle) (i := (i : Int).toNat) (r := [.int .i64 (-(i : Int)), .int .i64 0, .int .i64 0, .int .i64 0, .string ⟨#[]⟩]) rfl rfl
    have e3 : (dks L).set (i : Int).toNat [.int .i64 (-(i : Int)), .int .i64 0, .int .i64 0, .int .i64 0, .string ⟨#[]⟩] = dks (L.set i ⟨-(i : Int), 0, 0, 0, ⟨#[]⟩⟩) := by
      rw [Int.toNat_natCast]; unfold dks; rw [List.map_set]
    rw [e3, hll, hL] at hset
    exact Ops.nilN (round_end (⟨i + 1, L.set i ⟨-(i : Int), 0, 0, 0, ⟨#[]⟩⟩, _⟩ : WS) ⟨by show i + 1 ≤ F.length; omega, by show (L.set i _).length = _; rw [List.length_set]; exact hL, hset⟩ (by show F.length - (i + 1) < F.length - i; omega) ⟨rfl, rfl, rfl, rfl, rfl, trivial⟩ (fun w h => by rw [e3] at h; exact h.split))
  · rw [← hL] at h1 ⊢
    repeat' (first | refine Cd.seq ?_ | refine Cd.reg ?_ | refine Ops.nil ?_ | refine Ops.mv rfl rfl rfl rfl ?_ | refine Ops.lenS rfl rfl rfl rfl ?_ | refine Ops.bin rfl rfl rfl rfl rfl ?_ | refine Ops.bld rfl rfl rfl rfl ?_ | refine Ops.bs1 rfl rfl rfl rfl rfl rfl rfl (noPd rfl) (fun b => ?_) | refine Cd.exit (Cd.next (Q' := fun _ _ _ => True) ?_) | refine Cd.condF rfl (by first | rfl | assumption | (simp only [decide_eq_true_eq, decide_eq_false_iff_not, Bool.not_eq_true', Bool.not_eq_false', Bool.not_eq_eq_eq_not, Bool.not_true, Bool.not_false, beq_iff_eq, beq_eq_false_iff_ne, ne_eq, decide_eq_decide, eq_self, true_iff, iff_true, not_true_eq_false, not_false_eq_true]; first | done | omega)) ?_)
    refine Ops.app1 (rows := dks L) h1 (by rw [hll]; omega) (by rw [hll]; omega) rfl rfl rfl rfl (by rfl) (by rfl) rfl (noPd rfl) rfl (fun v G2 hG2 => ?_)
    repeat' (first | refine Cd.seq ?_ | refine Cd.reg ?_ | refine Ops.mv rfl rfl rfl rfl ?_ | refine Ops.asg rfl rfl rfl rfl ?_)
    refine Ops.call hrows rfl (noPd rfl) rfl rfl rfl (fun v A' hR => ?_)
    obtain ⟨G3, rfl, h3⟩ := hR
    obtain ⟨a3, c3, rfl⟩ := h3.form
    repeat' (first | refine Ops.mv rfl rfl rfl rfl ?_)
    refine Ops.call htold rfl (noPd rfl) rfl rfl rfl (fun v A' hR => ?_)
    obtain ⟨H3, rfl, h4⟩ := hR
    obtain ⟨a4, c4, rfl⟩ := h4.form
    skip
    refine Ops.call (same_eq _ _ F G3 H3 h3 h4 (by omega)) rfl (noPd rfl) rfl rfl rfl (fun v A' hR => ?_)
    obtain ⟨rfl, rfl⟩ := hR
    repeat' (first | refine Ops.nil ?_ | refine Ops.asg rfl rfl rfl rfl ?_ | refine Ops.pickT rfl rfl rfl rfl rfl ?_)
    exact Cd.ret (ret1 (A' := TabB n (.slice sa rs.length sc) G ++ TabR m (.slice ra rs.length rc) H) rfl (Res.tmp rfl) (fun _ h => h.split) ⟨rfl, rfl⟩)

theorem tells_spec (n m : Nat) (sv rv : Value) (rs : List Dk) (G H : List Blk) (o : ROp) (hO : OwnK sv rs G) (hP : OwnK rv rs H) (hI : TI rs) (hn0 : -9223372036854775808 ≤ o.number) (hn1 : o.number ≤ 9223372036854775807) :
    Con Try.prog 30 #[ptr n, ptr m, .agg o.row.toArray] (TabB n sv G ++ TabR m rv H) fun v A => v = .bool true ∧ ∃ rs' G' H', A = TabB n sv G' ++ TabR m rv H' ∧ OwnK sv rs' G' ∧ OwnK rv rs' H' ∧ TI rs' := by
  obtain ⟨sa, sc, rfl⟩ := hO.form
  obtain ⟨ra, rc, rfl⟩ := hP.form
  obtain ⟨kd, on, slot, life, session, number, reply⟩ := o
  dsimp only at hn0 hn1
  refine Con.intro (vs := [_, _, _]) Try.func30 rfl Try.ntmps30 rfl (fun B => ?_)
  by_cases h1 : kd = 1
  · have hth := hello_fun n _ rs G slot life hO
    have hrh := rhello_fun m _ rs H slot life hP
    generalize helloV (rowAt rs slot) life = hv at hth hrh
    obtain ⟨q1, q2⟩ := hv
    dsimp only at hth hrh
    repeat' (first | refine Cd.seq ?_ | refine Cd.reg ?_ | refine Ops.nil ?_ | refine Ops.mv rfl rfl rfl rfl ?_ | refine Ops.asg rfl rfl rfl rfl ?_ | refine Ops.fa0 rfl rfl rfl rfl ?_ | refine Ops.ld1 rfl rfl rfl rfl rfl ?_ | refine Ops.bin rfl rfl rfl rfl rfl ?_ | refine Ops.box rfl rfl rfl rfl (noPd rfl) (fun b => ?_) | refine Cd.block ?_ | refine Cd.condT rfl (by first | rfl | assumption | (simp only [decide_eq_true_eq, decide_eq_false_iff_not, Bool.not_eq_true', Bool.not_eq_false', Bool.not_eq_eq_eq_not, Bool.not_true, Bool.not_false, beq_iff_eq, beq_eq_false_iff_ne, ne_eq, decide_eq_decide, eq_self, true_iff, iff_true, not_true_eq_false, not_false_eq_true]; first | done | omega)) ?_)
    refine Ops.call hth rfl (noPd rfl) rfl rfl rfl (fun v A' hR => ?_)
    obtain ⟨rfl, rfl⟩ := hR
    repeat' (first | refine Cd.seq ?_ | refine Cd.reg ?_ | refine Ops.mv rfl rfl rfl rfl ?_ | refine Ops.asg rfl rfl rfl rfl ?_ | refine Ops.fa0 rfl rfl rfl rfl ?_ | refine Ops.ld1 rfl rfl rfl rfl rfl ?_ | refine Ops.ext rfl rfl rfl rfl rfl ?_)
    refine Ops.call hrh rfl (noPd rfl) rfl rfl rfl (fun v A' hR => ?_)
    obtain ⟨rfl, rfl⟩ := hR
    repeat' (first | refine Cd.seq ?_ | refine Cd.reg ?_ | refine Ops.nil ?_ | refine Ops.mv rfl rfl rfl rfl ?_ | refine Ops.asg rfl rfl rfl rfl ?_ | refine Ops.bin rfl rfl rfl rfl rfl ?_ | refine Ops.pickT rfl rfl rfl rfl rfl ?_ | refine Ops.ext rfl rfl rfl rfl rfl ?_ | ((fail_if_success refine Ops.probe rfl ?_); refine Ops.gT rfl rfl (by first | rfl | assumption | (simp only [decide_eq_true_eq, decide_eq_false_iff_not, Bool.not_eq_true', Bool.not_eq_false', Bool.not_eq_eq_eq_not, Bool.not_true, Bool.not_false, beq_iff_eq, beq_eq_false_iff_ne, ne_eq, decide_eq_decide, eq_self, true_iff, iff_true, not_true_eq_false, not_false_eq_true]; first | done | omega)) ?_))
    exact Cd.ret (ret1 (A' := TabB n (.slice sa rs.length sc) G ++ TabR m (.slice ra rs.length rc) H) rfl (Res.tmp rfl) (fun _ h => h.split) ⟨by simp, rs, G, H, rfl, hO, hP, hI⟩)
  by_cases h2 : kd = 2
  · have hth := open_code n _ rs G slot life session hO
    have hrh := ropen_fun m _ rs H slot life session hP
    have hI2 := hI.open_ slot life session
    have hpl : (putRow rs slot (openV (rowAt rs slot) slot life session)).length = rs.length := put_len _
    generalize putRow rs slot (openV (rowAt rs slot) slot life session) = rs2 at hth hrh hI2 hpl
    generalize openC (rowAt rs slot) life session = q1 at hth hrh
    repeat' (first | refine Cd.seq ?_ | refine Cd.reg ?_ | refine Ops.nil ?_ | refine Ops.asg rfl rfl rfl rfl ?_ | refine Ops.fa0 rfl rfl rfl rfl ?_ | refine Ops.ld1 rfl rfl rfl rfl rfl ?_ | refine Ops.bin rfl rfl rfl rfl rfl ?_ | refine Ops.box rfl rfl rfl rfl (noPd rfl) (fun b => ?_) | refine Cd.block ?_ | refine Cd.condT rfl (by first | rfl | assumption | (simp only [decide_eq_true_eq, decide_eq_false_iff_not, Bool.not_eq_true', Bool.not_eq_false', Bool.not_eq_eq_eq_not, Bool.not_true, Bool.not_false, beq_iff_eq, beq_eq_false_iff_ne, ne_eq, decide_eq_decide, eq_self, true_iff, iff_true, not_true_eq_false, not_false_eq_true]; first | done | omega)) ?_ | refine Cd.condF rfl (by first | rfl | assumption | (simp only [decide_eq_true_eq, decide_eq_false_iff_not, Bool.not_eq_true', Bool.not_eq_false', Bool.not_eq_eq_eq_not, Bool.not_true, Bool.not_false, beq_iff_eq, beq_eq_false_iff_ne, ne_eq, decide_eq_decide, eq_self, true_iff, iff_true, not_true_eq_false, not_false_eq_true]; first | done | omega)) ?_)
    refine Cd.draw [(0, 0, []), (1, 0, []), (2, 1, []), (3, 0, []), (4, 1, []), (5, 0, []), (6, 1, []), (8, 0, []), (9, 0, []), (10, 1, []), (11, 0, []), (12, 1, []), (13, 0, []), (14, 1, []), (7, 2, [10, 12, 14]), (15, 2, []), (16, 0, []), (17, 0, [])] (by kernel_rfl) (by kernel_rfl) (by simp only [picked, nth]; exact rfl) ?_
    repeat' (first | refine Ops.mv rfl rfl rfl rfl ?_ | refine Ops.fa0 rfl rfl rfl rfl ?_ | refine Ops.ld1 rfl rfl rfl rfl rfl ?_)
    refine Ops.call hth rfl (by first | exact noPd rfl | (intro v A' hR i hi; obtain ⟨A2, hR, rfl⟩ := hR; (try obtain ⟨rfl, rfl⟩ := hR); (repeat (rcases List.mem_cons.1 hi with rfl | hi; · (first | exact Still.ld1 rfl rfl rfl rfl rfl | exact Still.ldN rfl rfl rfl rfl | exact Still.len rfl rfl rfl rfl rfl | exact Still.skip rfl rfl rfl | exact Still.ldRow1 rfl rfl rfl (by assumption) (by assumption) rfl rfl | exact Still.ldR rfl rfl rfl (by apply_assumption) rfl))); cases hi)) rfl rfl rfl (fun v A' hR => ?_)
    obtain ⟨rfl, G2, rfl, hO2⟩ := hR
    skip
    refine Ops.call hrh rfl (noPd rfl) rfl rfl rfl (fun v A' hR => ?_)
    obtain ⟨rfl, H2, rfl, hP2⟩ := hR
    repeat' (first | refine Ops.nil ?_ | refine Ops.asg rfl rfl rfl rfl ?_ | refine Ops.bin rfl rfl rfl rfl rfl ?_)
    exact Cd.ret (inBr (ret1 (A' := TabB n (.slice sa rs.length sc) G2 ++ TabR m (.slice ra rs.length rc) H2) rfl (Res.tmp rfl) (fun _ h => h.split) ⟨by simp, rs2, G2, H2, rfl, hO2, hP2, hI2⟩))
  by_cases h3 : kd = 3
  · have hth := ask_fun n _ rs G slot life session number hO hI.rows
    have hrh := rask_fun m _ rs H slot life session number hP hI.rows hn0 hn1
    generalize askV (rowAt rs slot) life session number = hv at hth hrh
    obtain ⟨q1, q2⟩ := hv
    dsimp only at hth hrh
    repeat' (first | refine Cd.seq ?_ | refine Cd.reg ?_ | refine Ops.nil ?_ | refine Ops.mv rfl rfl rfl rfl ?_ | refine Ops.asg rfl rfl rfl rfl ?_ | refine Ops.fa0 rfl rfl rfl rfl ?_ | refine Ops.ld1 rfl rfl rfl rfl rfl ?_ | refine Ops.bin rfl rfl rfl rfl rfl ?_ | refine Ops.box rfl rfl rfl rfl (noPd rfl) (fun b => ?_) | refine Cd.block ?_ | refine Cd.condT rfl (by first | rfl | assumption | (simp only [decide_eq_true_eq, decide_eq_false_iff_not, Bool.not_eq_true', Bool.not_eq_false', Bool.not_eq_eq_eq_not, Bool.not_true, Bool.not_false, beq_iff_eq, beq_eq_false_iff_ne, ne_eq, decide_eq_decide, eq_self, true_iff, iff_true, not_true_eq_false, not_false_eq_true]; first | done | omega)) ?_ | refine Cd.condF rfl (by first | rfl | assumption | (simp only [decide_eq_true_eq, decide_eq_false_iff_not, Bool.not_eq_true', Bool.not_eq_false', Bool.not_eq_eq_eq_not, Bool.not_true, Bool.not_false, beq_iff_eq, beq_eq_false_iff_ne, ne_eq, decide_eq_decide, eq_self, true_iff, iff_true, not_true_eq_false, not_false_eq_true]; first | done | omega)) ?_)
    refine Ops.call hth rfl (noPd rfl) rfl rfl rfl (fun v A' hR => ?_)
    obtain ⟨rfl, rfl⟩ := hR
    repeat' (first | refine Cd.seq ?_ | refine Cd.reg ?_ | refine Ops.mv rfl rfl rfl rfl ?_ | refine Ops.asg rfl rfl rfl rfl ?_ | refine Ops.fa0 rfl rfl rfl rfl ?_ | refine Ops.ld1 rfl rfl rfl rfl rfl ?_ | refine Ops.ext rfl rfl rfl rfl rfl ?_)
    refine Ops.call hrh rfl (noPd rfl) rfl rfl rfl (fun v A' hR => ?_)
    obtain ⟨rfl, rfl⟩ := hR
    repeat' (first | refine Cd.seq ?_ | refine Cd.reg ?_ | refine Ops.nil ?_ | refine Ops.mv rfl rfl rfl rfl ?_ | refine Ops.asg rfl rfl rfl rfl ?_ | refine Ops.bin rfl rfl rfl rfl rfl ?_ | refine Ops.pickT rfl rfl rfl rfl rfl ?_ | refine Ops.ext rfl rfl rfl rfl rfl ?_ | ((fail_if_success refine Ops.probe rfl ?_); refine Ops.gT rfl rfl (by first | rfl | assumption | (simp only [decide_eq_true_eq, decide_eq_false_iff_not, Bool.not_eq_true', Bool.not_eq_false', Bool.not_eq_eq_eq_not, Bool.not_true, Bool.not_false, beq_iff_eq, beq_eq_false_iff_ne, ne_eq, decide_eq_decide, eq_self, true_iff, iff_true, not_true_eq_false, not_false_eq_true]; first | done | omega)) ?_))
    exact Cd.ret (ret1 (A' := TabB n (.slice sa rs.length sc) G ++ TabR m (.slice ra rs.length rc) H) rfl (Res.tmp rfl) (fun _ h => h.split) ⟨by simp, rs, G, H, rfl, hO, hP, hI⟩)
  by_cases h4 : kd = 4
  · have hth := answer_code n _ rs G slot reply hO hI.rows
    have hrh := ranswer_fun m _ rs H slot reply hP hI.rows
    have hI2 := hI.answer slot reply
    have hpl : (putRow rs slot (answerV (rowAt rs slot) reply)).length = rs.length := put_len _
    generalize putRow rs slot (answerV (rowAt rs slot) reply) = rs2 at hth hrh hI2 hpl
    generalize answerC (rowAt rs slot) = q1 at hth hrh
    repeat' (first | refine Cd.seq ?_ | refine Cd.reg ?_ | refine Ops.nil ?_ | refine Ops.asg rfl rfl rfl rfl ?_ | refine Ops.fa0 rfl rfl rfl rfl ?_ | refine Ops.ld1 rfl rfl rfl rfl rfl ?_ | refine Ops.bin rfl rfl rfl rfl rfl ?_ | refine Ops.box rfl rfl rfl rfl (noPd rfl) (fun b => ?_) | refine Cd.block ?_ | refine Cd.condT rfl (by first | rfl | assumption | (simp only [decide_eq_true_eq, decide_eq_false_iff_not, Bool.not_eq_true', Bool.not_eq_false', Bool.not_eq_eq_eq_not, Bool.not_true, Bool.not_false, beq_iff_eq, beq_eq_false_iff_ne, ne_eq, decide_eq_decide, eq_self, true_iff, iff_true, not_true_eq_false, not_false_eq_true]; first | done | omega)) ?_ | refine Cd.condF rfl (by first | rfl | assumption | (simp only [decide_eq_true_eq, decide_eq_false_iff_not, Bool.not_eq_true', Bool.not_eq_false', Bool.not_eq_eq_eq_not, Bool.not_true, Bool.not_false, beq_iff_eq, beq_eq_false_iff_ne, ne_eq, decide_eq_decide, eq_self, true_iff, iff_true, not_true_eq_false, not_false_eq_true]; first | done | omega)) ?_)
    refine Cd.draw [(0, 0, []), (1, 0, []), (2, 1, []), (3, 0, []), (4, 1, []), (6, 0, []), (7, 0, []), (8, 1, []), (9, 0, []), (10, 1, []), (5, 2, [8, 10]), (11, 2, []), (12, 0, []), (13, 0, [])] (by kernel_rfl) (by kernel_rfl) (by simp only [picked, nth]; exact rfl) ?_
    repeat' (first | refine Ops.mv rfl rfl rfl rfl ?_ | refine Ops.fa0 rfl rfl rfl rfl ?_ | refine Ops.ld1 rfl rfl rfl rfl rfl ?_)
    refine Ops.call hth rfl (by first | exact noPd rfl | (intro v A' hR i hi; obtain ⟨A2, hR, rfl⟩ := hR; (try obtain ⟨rfl, rfl⟩ := hR); (repeat (rcases List.mem_cons.1 hi with rfl | hi; · (first | exact Still.ld1 rfl rfl rfl rfl rfl | exact Still.ldN rfl rfl rfl rfl | exact Still.len rfl rfl rfl rfl rfl | exact Still.skip rfl rfl rfl | exact Still.ldRow1 rfl rfl rfl (by assumption) (by assumption) rfl rfl | exact Still.ldR rfl rfl rfl (by apply_assumption) rfl))); cases hi)) rfl rfl rfl (fun v A' hR => ?_)
    obtain ⟨rfl, G2, rfl, hO2⟩ := hR
    skip
    refine Ops.call hrh rfl (noPd rfl) rfl rfl rfl (fun v A' hR => ?_)
    obtain ⟨rfl, H2, rfl, hP2⟩ := hR
    repeat' (first | refine Ops.nil ?_ | refine Ops.asg rfl rfl rfl rfl ?_ | refine Ops.bin rfl rfl rfl rfl rfl ?_)
    exact Cd.ret (inBr (ret1 (A' := TabB n (.slice sa rs.length sc) G2 ++ TabR m (.slice ra rs.length rc) H2) rfl (Res.tmp rfl) (fun _ h => h.split) ⟨by simp, rs2, G2, H2, rfl, hO2, hP2, hI2⟩))
  repeat' (first | refine Cd.seq ?_ | refine Cd.reg ?_ | refine Ops.nil ?_ | refine Ops.mv rfl rfl rfl rfl ?_ | refine Ops.asg rfl rfl rfl rfl ?_ | refine Ops.fa0 rfl rfl rfl rfl ?_ | refine Ops.ld1 rfl rfl rfl rfl rfl ?_ | refine Ops.bin rfl rfl rfl rfl rfl ?_ | refine Ops.box rfl rfl rfl rfl (noPd rfl) (fun b => ?_) | refine Cd.block ?_ | refine Cd.skip (Cd.next (Q' := fun _ _ _ => True) ?_) | refine Cd.condF rfl (by first | rfl | assumption | (simp only [decide_eq_true_eq, decide_eq_false_iff_not, Bool.not_eq_true', Bool.not_eq_false', Bool.not_eq_eq_eq_not, Bool.not_true, Bool.not_false, beq_iff_eq, beq_eq_false_iff_ne, ne_eq, decide_eq_decide, eq_self, true_iff, iff_true, not_true_eq_false, not_false_eq_true]; first | done | omega)) ?_)
  refine Ops.call (lrows_spec n m _ _ rs G H hO hP hI) rfl (noPd rfl) rfl rfl rfl (fun v A' hR => ?_)
  obtain ⟨rfl, rfl⟩ := hR
  repeat' (first | refine Ops.nil ?_ | refine Ops.asg rfl rfl rfl rfl ?_)
  exact Cd.ret (ret1 (A' := TabB n (.slice sa rs.length sc) G ++ TabR m (.slice ra rs.length rc) H) rfl (Res.tmp rfl) (fun _ h => h.split) ⟨rfl, rs, G, H, rfl, hO, hP, hI⟩)
end Go.Proofs.Ytdfimjgbdipnjaa
