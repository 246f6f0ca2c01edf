import Derived.Test.YtdfimjgbdipnjaaS9
namespace Go.Proofs.Ytdfimjgbdipnjaa
open Go Go.Sep Go.Proofs
set_option maxRecDepth 10000
set_option maxHeartbeats 1000000
set_option linter.unusedSimpArgs false
set_option linter.unusedVariables false

/-- An operation of the tables' script. -/
structure ROp where
  kind : Int
  on : Int
  slot : Int
  life : Int
  session : Int
  number : Int
  reply : ByteArray
@[reducible] def ROp.row (o : ROp) : List Value := [.int .i64 o.kind, .int .i64 o.on, .int .i64 o.slot, .int .i64 o.life, .int .i64 o.session, .int .i64 o.number, .string o.reply]
def RScript (B : Base) (a : Option Addr) (len : Nat) (ops : List ROp) : Prop :=
  ops.length = len ∧ ∀ (i : Nat) (o : ROp), ops[i]? = some o → ∃ b off, a = some ⟨b, off, none⟩ ∧ ∀ (A : List Blk) (j : Nat) (u : Value), o.row[j]? = some u → Rd B A b (off + i * 7 + j) u

structure SS where
  k : Nat
  rs : List Dk
  us : List Dk
  G : List Blk
  H : List Blk
def SSI (len : Nat) (slot : Int) (sv uv : Value) (x : SS) : Prop := x.k ≤ len ∧ OwnK sv x.rs x.G ∧ OwnK uv x.us x.H ∧ RowsI x.rs ∧ RowsI x.us ∧ rowAt x.rs slot = rowAt x.us slot

theorem put_same2 {rs us : List Dk} {slot : Int} (f : Option Dk → Option Dk) (h1 : ∀ r, f (rowAt rs slot) = some r → hasB slot rs.length = true) (h2 : ∀ r, f (rowAt us slot) = some r → hasB slot us.length = true) (he : rowAt rs slot = rowAt us slot) :
    rowAt (putRow rs slot (f (rowAt rs slot))) slot = rowAt (putRow us slot (f (rowAt us slot))) slot := by
  cases h : f (rowAt rs slot) with
  | none =>
    have h3 : f (rowAt us slot) = none := by rw [← he]; exact h
    rw [h3]; exact he
  | some r =>
    have h3 : f (rowAt us slot) = some r := by rw [← he]; exact h
    rw [h3]; exact (rowAt_same r (h1 r h)).trans (rowAt_same r (h2 r h3)).symm

theorem slots_ok (w : World) (sa : Option Addr) (len cap : Nat) (slot : Int) (ops : List ROp) (hs : RScript (baseOf w) sa len ops) (hlen : len ≤ 9223372036854775806) :
    Calls Try.prog 5 #[.slice sa len cap, .int .i64 slot] w fun e w' => e = .returned (.bool true) ∧ RowKit.Below w.heap.size w w' := by
  refine calls_base (vs := [_, _]) Try.func5 rfl Try.ntmps5 rfl ?_
  repeat' (first | refine Cd.seq ?_ | refine Cd.reg ?_ | refine Ops.asg rfl rfl rfl rfl ?_)
  refine Ops.call (newt_yes 8 (by omega) (by omega)) rfl (noPd rfl) rfl rfl rfl (fun v A' hR => ?_)
  obtain ⟨t, sv, G, rfl, rfl, hO⟩ := hR
  repeat' (first | refine Cd.seq ?_ | refine Cd.reg ?_ | refine Ops.mv rfl rfl rfl rfl ?_ | refine Ops.asg rfl rfl rfl rfl ?_ | refine Ops.ext rfl rfl rfl rfl rfl ?_)
  refine Ops.call (newt_yes 8 (by omega) (by omega)) rfl (noPd rfl) rfl rfl rfl (fun v A' hR => ?_)
  obtain ⟨u, uv, H, rfl, rfl, hU⟩ := hR
  repeat' (first | refine Cd.seq ?_ | refine Cd.reg ?_ | refine Ops.mv rfl rfl rfl rfl ?_ | refine Ops.asg rfl rfl rfl rfl ?_ | refine Ops.ext rfl rfl rfl rfl rfl ?_)
  refine Ops.call awake_spec rfl (noPd rfl) rfl rfl rfl (fun v A' hR => ?_)
  obtain ⟨rfl, rfl⟩ := hR
  repeat' (first | refine Cd.seq ?_ | refine Cd.reg ?_ | refine Ops.nil ?_ | refine Ops.mv rfl rfl rfl rfl ?_ | refine Ops.asg rfl rfl rfl rfl ?_ | refine Ops.bin rfl rfl rfl rfl rfl ?_ | refine Ops.un rfl rfl rfl rfl ?_ | refine Ops.pickF rfl rfl rfl rfl rfl ?_ | refine Cd.condF rfl rfl ?_ | refine Cd.block ?_ | refine Cd.skip (Cd.next ?_))
  refine Cd.loopK (SSI len slot sv uv) (fun x => [(0, .slice sa len cap), (1, .int .i64 slot), (5, ptr t), (7, ptr u), (9, .int .i64 x.k)])
    (fun x => TabB t sv (x.G ++ TabB u uv x.H)) (fun x => len - x.k) ⟨0, fresh 8, fresh 8, G, H⟩
    ⟨Nat.zero_le _, hO, hU, RowsI.fresh 8, RowsI.fresh 8, rfl⟩ ⟨rfl, rfl, rfl, rfl, rfl, trivial⟩ (fun w h => (h.split : Sat _ (TabB t sv (G ++ TabB u uv H)) w)) (fun x hI => ?_)
  clear hO hU
  obtain ⟨k, rs, us, G, H⟩ := x
  obtain ⟨hk, hO, hU, hIr, hIu, he⟩ := hI
  dsimp only at hk hO hU hIr hIu he ⊢
  by_cases hkl : k < len
  · have hkl' : (k : Int) < len := by omega
    obtain ⟨o, ho⟩ : ∃ o, ops[k]? = some o := ⟨_, List.getElem?_eq_getElem (by rw [hs.1]; exact hkl)⟩
    obtain ⟨b0, off, rfl, hrd⟩ := hs.2 k o ho
    repeat' (first | refine Cd.seq ?_ | refine Cd.reg ?_ | refine Ops.nil ?_ | refine Ops.mv rfl rfl rfl rfl ?_ | refine Ops.lenS rfl rfl rfl rfl ?_ | refine Ops.bin rfl rfl rfl rfl rfl ?_ | refine Cd.block ?_ | refine Cd.skip (Cd.next ?_) | refine Ops.ixa rfl rfl rfl rfl (by omega) (by omega) rfl ?_ | refine Cd.condT rfl (by first | rfl | assumption | (simp only [decide_eq_true_eq, decide_eq_false_iff_not, Bool.not_eq_true', Bool.not_eq_false', Bool.not_eq_eq_eq_not, Bool.not_true, Bool.not_false, beq_iff_eq, beq_eq_false_iff_ne, ne_eq, decide_eq_decide, eq_self, true_iff, iff_true, not_true_eq_false, not_false_eq_true]; first | done | omega)) ?_)
    refine Ops.ldRN (r := [.int .i64 o.kind, .int .i64 o.on, .int .i64 o.slot, .int .i64 o.life, .int .i64 o.session, .int .i64 o.number, .string o.reply]) rfl rfl rfl rfl (fun j u hu => by rw [Int.toNat_natCast]; exact hrd _ j u hu) rfl ?_
    repeat' (first | refine Cd.seq ?_ | refine Cd.reg ?_ | refine Ops.nil ?_ | refine Ops.mv rfl rfl rfl rfl ?_ | refine Ops.asg rfl rfl rfl rfl ?_ | refine Ops.fa0 rfl rfl rfl rfl ?_ | refine Ops.ld1 rfl rfl rfl rfl rfl ?_ | refine Ops.addI rfl rfl rfl rfl (by omega) (by omega) rfl ?_ | refine Ops.bin rfl rfl rfl rfl rfl ?_ | refine Ops.alloc rfl rfl rfl (noPd rfl) (fun b => ?_) | refine Ops.stN rfl rfl rfl rfl rfl rfl (noPd rfl) ?_ | refine Cd.block ?_ | refine Cd.skip (Cd.next ?_) | refine Cd.skip (Cd.next (Q' := fun _ _ _ => True) ?_) | refine Cd.exit (Cd.next (Q' := fun _ _ _ => True) ?_) | refine Cd.condF rfl (by first | rfl | assumption | (simp only [decide_eq_true_eq, decide_eq_false_iff_not, Bool.not_eq_true', Bool.not_eq_false', Bool.not_eq_eq_eq_not, Bool.not_true, Bool.not_false, beq_iff_eq, beq_eq_false_iff_ne, ne_eq, decide_eq_decide, eq_self, true_iff, iff_true, not_true_eq_false, not_false_eq_true]; first | done | omega)) ?_ | (refine Cd.cond rfl (fun hc => ?_) (fun hc => ?_) <;> (try simp only [decide_eq_true_eq, decide_eq_false_iff_not, Bool.not_eq_true', Bool.not_eq_false', Bool.not_eq_eq_eq_not, Bool.not_true, Bool.not_false, Int.not_lt, Int.not_le] at hc)))
    · refine Ops.call (open_fun t sv rs G o.slot o.life o.session hO) rfl (noPd rfl) rfl rfl rfl (fun v A' hR => ?_)
      obtain ⟨⟨x, rfl⟩, G2, rfl, hO2⟩ := hR
      by_cases hsl : o.slot = slot
      · have e1 : rowAt (putRow rs o.slot (openV (rowAt rs o.slot) o.slot o.life o.session)) slot = rowAt (putRow us o.slot (openV (rowAt us o.slot) o.slot o.life o.session)) slot := by
          subst hsl
          exact put_same2 (fun x => openV x o.slot o.life o.session) (fun r hr => openV_has r hr) (fun r hr => openV_has r hr) he
        repeat' (first | refine Cd.seq ?_ | refine Cd.reg ?_ | refine Ops.nil ?_ | refine Ops.mv rfl rfl rfl rfl ?_ | refine Ops.fa0 rfl rfl rfl rfl ?_ | refine Ops.ld1 rfl rfl rfl rfl rfl ?_ | refine Ops.bin rfl rfl rfl rfl rfl ?_ | refine Cd.skip (Cd.next ?_) | refine Cd.condT rfl (by first | rfl | assumption | (simp only [decide_eq_true_eq, decide_eq_false_iff_not, Bool.not_eq_true', Bool.not_eq_false', Bool.not_eq_eq_eq_not, Bool.not_true, Bool.not_false, beq_iff_eq, beq_eq_false_iff_ne, ne_eq, decide_eq_decide, eq_self, true_iff, iff_true, not_true_eq_false, not_false_eq_true]; first | done | omega)) ?_ | refine Cd.condF rfl (by first | rfl | assumption | (simp only [decide_eq_true_eq, decide_eq_false_iff_not, Bool.not_eq_true', Bool.not_eq_false', Bool.not_eq_eq_eq_not, Bool.not_true, Bool.not_false, beq_iff_eq, beq_eq_false_iff_ne, ne_eq, decide_eq_decide, eq_self, true_iff, iff_true, not_true_eq_false, not_false_eq_true]; first | done | omega)) ?_)
        refine Ops.call (open_fun u uv us H o.slot o.life o.session hU) rfl (noPd rfl) rfl rfl rfl (fun v A' hR => ?_)
        obtain ⟨⟨y, rfl⟩, H2, rfl, hU2⟩ := hR
        repeat' (first | refine Cd.seq ?_ | refine Cd.reg ?_ | refine Ops.nil ?_ | refine Ops.mv rfl rfl rfl rfl ?_ | refine Ops.fa0 rfl rfl rfl rfl ?_ | refine Ops.ld1 rfl rfl rfl rfl rfl ?_ | refine Ops.bin rfl rfl rfl rfl rfl ?_ | refine Cd.skip (Cd.next ?_) | refine Cd.condF rfl (by first | rfl | assumption | (simp only [decide_eq_true_eq, decide_eq_false_iff_not, Bool.not_eq_true', Bool.not_eq_false', Bool.not_eq_eq_eq_not, Bool.not_true, Bool.not_false, beq_iff_eq, beq_eq_false_iff_ne, ne_eq, decide_eq_decide, eq_self, true_iff, iff_true, not_true_eq_false, not_false_eq_true]; first | done | omega)) ?_)
        refine Ops.call (hello_fun t sv (putRow rs o.slot (openV (rowAt rs o.slot) o.slot o.life o.session)) G2 slot o.life hO2) rfl (noPd rfl) rfl rfl rfl (fun v A' hR => ?_)
        obtain ⟨rfl, rfl⟩ := hR
        rw [e1]
        generalize hhv : helloV _ o.life = hv
        repeat' (first | refine Cd.seq ?_ | refine Cd.reg ?_ | refine Ops.mv rfl rfl rfl rfl ?_ | refine Ops.asg rfl rfl rfl rfl ?_ | refine Ops.fa0 rfl rfl rfl rfl ?_ | refine Ops.ld1 rfl rfl rfl rfl rfl ?_ | refine Ops.ext rfl rfl rfl rfl rfl ?_)
        refine Ops.call (hello_fun u uv (putRow us o.slot (openV (rowAt us o.slot) o.slot o.life o.session)) H2 slot o.life hU2) rfl (noPd rfl) rfl rfl rfl (fun v A' hR => ?_)
        obtain ⟨rfl, rfl⟩ := hR
        rw [hhv]
        repeat' (first | refine Cd.seq ?_ | refine Cd.reg ?_ | refine Ops.mv rfl rfl rfl rfl ?_ | refine Ops.asg rfl rfl rfl rfl ?_ | refine Ops.fa0 rfl rfl rfl rfl ?_ | refine Ops.ld1 rfl rfl rfl rfl rfl ?_ | refine Ops.ext rfl rfl rfl rfl rfl ?_)
        refine Ops.call (ask_fun t sv (putRow rs o.slot (openV (rowAt rs o.slot) o.slot o.life o.session)) G2 slot o.life o.session o.number hO2 (openV_rows hIr)) rfl (noPd rfl) rfl rfl rfl (fun v A' hR => ?_)
        obtain ⟨rfl, rfl⟩ := hR
        rw [e1]
        generalize hav : askV _ o.life o.session o.number = av
        repeat' (first | refine Cd.seq ?_ | refine Cd.reg ?_ | refine Ops.mv rfl rfl rfl rfl ?_ | refine Ops.asg rfl rfl rfl rfl ?_ | refine Ops.fa0 rfl rfl rfl rfl ?_ | refine Ops.ld1 rfl rfl rfl rfl rfl ?_ | refine Ops.ext rfl rfl rfl rfl rfl ?_)
        refine Ops.call (ask_fun u uv (putRow us o.slot (openV (rowAt us o.slot) o.slot o.life o.session)) H2 slot o.life o.session o.number hU2 (openV_rows hIu)) rfl (noPd rfl) rfl rfl rfl (fun v A' hR => ?_)
        obtain ⟨rfl, rfl⟩ := hR
        rw [hav]
        repeat' (first | refine Cd.seq ?_ | refine Cd.reg ?_ | refine Ops.nil ?_ | refine Ops.mv rfl rfl rfl rfl ?_ | refine Ops.asg rfl rfl rfl rfl ?_ | refine Ops.addI rfl rfl rfl rfl (by omega) (by omega) rfl ?_ | refine Ops.bin rfl rfl rfl rfl rfl ?_ | refine Ops.pickF rfl rfl rfl rfl rfl ?_ | refine Ops.ext rfl rfl rfl rfl rfl ?_ | refine Cd.condF rfl rfl ?_ | refine Cd.skip (Cd.next (Q' := fun _ _ _ => True) ?_) | ((fail_if_success refine Ops.probe rfl ?_); refine Ops.gF rfl rfl (by first | rfl | assumption | (simp only [decide_eq_true_eq, decide_eq_false_iff_not, Bool.not_eq_true', Bool.not_eq_false', Bool.not_eq_eq_eq_not, Bool.not_true, Bool.not_false, beq_iff_eq, beq_eq_false_iff_ne, ne_eq, decide_eq_decide, eq_self, true_iff, iff_true, not_true_eq_false, not_false_eq_true]; first | done | omega)) ?_))
        exact Ops.nilN (round_end (⟨k + 1, (putRow rs o.slot (openV (rowAt rs o.slot) o.slot o.life o.session)), (putRow us o.slot (openV (rowAt us o.slot) o.slot o.life o.session)), G2, H2⟩ : SS) ⟨by show k + 1 ≤ len; omega, hO2, hU2, (openV_rows hIr), (openV_rows hIu), e1⟩ (by show len - (k + 1) < len - k; omega) ⟨rfl, rfl, rfl, rfl, rfl, trivial⟩ (fun w h => (h.split : Sat _ (TabB t sv (G2 ++ TabB u uv H2)) w)))
      · have e1 : rowAt (putRow rs o.slot (openV (rowAt rs o.slot) o.slot o.life o.session)) slot = rowAt us slot := (put_other _ (fun r hr => openV_has r hr) hsl).trans he
        repeat' (first | refine Cd.seq ?_ | refine Cd.reg ?_ | refine Ops.nil ?_ | refine Ops.mv rfl rfl rfl rfl ?_ | refine Ops.asg rfl rfl rfl rfl ?_ | refine Ops.fa0 rfl rfl rfl rfl ?_ | refine Ops.ld1 rfl rfl rfl rfl rfl ?_ | refine Ops.addI rfl rfl rfl rfl (by omega) (by omega) rfl ?_ | refine Ops.bin rfl rfl rfl rfl rfl ?_ | refine Cd.exit (Cd.next (Q' := fun _ _ _ => True) ?_) | refine Cd.condT rfl (by first | rfl | assumption | (simp only [decide_eq_true_eq, decide_eq_false_iff_not, Bool.not_eq_true', Bool.not_eq_false', Bool.not_eq_eq_eq_not, Bool.not_true, Bool.not_false, beq_iff_eq, beq_eq_false_iff_ne, ne_eq, decide_eq_decide, eq_self, true_iff, iff_true, not_true_eq_false, not_false_eq_true]; first | done | omega)) ?_)
        exact Ops.nilN (round_end (⟨k + 1, (putRow rs o.slot (openV (rowAt rs o.slot) o.slot o.life o.session)), us, G2, H⟩ : SS) ⟨by show k + 1 ≤ len; omega, hO2, hU, (openV_rows hIr), hIu, e1⟩ (by show len - (k + 1) < len - k; omega) ⟨rfl, rfl, rfl, rfl, rfl, trivial⟩ (fun w h => (h.split : Sat _ (TabB t sv (G2 ++ TabB u uv H)) w)))
    · refine Ops.call (answer_fun t sv rs G o.slot o.reply hO hIr) rfl (noPd rfl) rfl rfl rfl (fun v A' hR => ?_)
      obtain ⟨⟨x, rfl⟩, G2, rfl, hO2⟩ := hR
      by_cases hsl : o.slot = slot
      · have e1 : rowAt (putRow rs o.slot (answerV (rowAt rs o.slot) o.reply)) slot = rowAt (putRow us o.slot (answerV (rowAt us o.slot) o.reply)) slot := by
          subst hsl
          exact put_same2 (fun x => answerV x o.reply) (fun r hr => answerV_has r hr) (fun r hr => answerV_has r hr) he
        repeat' (first | refine Cd.seq ?_ | refine Cd.reg ?_ | refine Ops.nil ?_ | refine Ops.mv rfl rfl rfl rfl ?_ | refine Ops.fa0 rfl rfl rfl rfl ?_ | refine Ops.ld1 rfl rfl rfl rfl rfl ?_ | refine Ops.bin rfl rfl rfl rfl rfl ?_ | refine Cd.skip (Cd.next ?_) | refine Cd.condT rfl (by first | rfl | assumption | (simp only [decide_eq_true_eq, decide_eq_false_iff_not, Bool.not_eq_true', Bool.not_eq_false', Bool.not_eq_eq_eq_not, Bool.not_true, Bool.not_false, beq_iff_eq, beq_eq_false_iff_ne, ne_eq, decide_eq_decide, eq_self, true_iff, iff_true, not_true_eq_false, not_false_eq_true]; first | done | omega)) ?_ | refine Cd.condF rfl (by first | rfl | assumption | (simp only [decide_eq_true_eq, decide_eq_false_iff_not, Bool.not_eq_true', Bool.not_eq_false', Bool.not_eq_eq_eq_not, Bool.not_true, Bool.not_false, beq_iff_eq, beq_eq_false_iff_ne, ne_eq, decide_eq_decide, eq_self, true_iff, iff_true, not_true_eq_false, not_false_eq_true]; first | done | omega)) ?_)
        refine Ops.call (answer_fun u uv us H o.slot o.reply hU hIu) rfl (noPd rfl) rfl rfl rfl (fun v A' hR => ?_)
        obtain ⟨⟨y, rfl⟩, H2, rfl, hU2⟩ := hR
        repeat' (first | refine Cd.seq ?_ | refine Cd.reg ?_ | refine Ops.mv rfl rfl rfl rfl ?_ | refine Ops.fa0 rfl rfl rfl rfl ?_ | refine Ops.ld1 rfl rfl rfl rfl rfl ?_)
        refine Ops.call (hello_fun t sv (putRow rs o.slot (answerV (rowAt rs o.slot) o.reply)) G2 slot o.life hO2) rfl (noPd rfl) rfl rfl rfl (fun v A' hR => ?_)
        obtain ⟨rfl, rfl⟩ := hR
        rw [e1]
        generalize hhv : helloV _ o.life = hv
        repeat' (first | refine Cd.seq ?_ | refine Cd.reg ?_ | refine Ops.mv rfl rfl rfl rfl ?_ | refine Ops.asg rfl rfl rfl rfl ?_ | refine Ops.fa0 rfl rfl rfl rfl ?_ | refine Ops.ld1 rfl rfl rfl rfl rfl ?_ | refine Ops.ext rfl rfl rfl rfl rfl ?_)
        refine Ops.call (hello_fun u uv (putRow us o.slot (answerV (rowAt us o.slot) o.reply)) H2 slot o.life hU2) rfl (noPd rfl) rfl rfl rfl (fun v A' hR => ?_)
        obtain ⟨rfl, rfl⟩ := hR
        rw [hhv]
        repeat' (first | refine Cd.seq ?_ | refine Cd.reg ?_ | refine Ops.mv rfl rfl rfl rfl ?_ | refine Ops.asg rfl rfl rfl rfl ?_ | refine Ops.fa0 rfl rfl rfl rfl ?_ | refine Ops.ld1 rfl rfl rfl rfl rfl ?_ | refine Ops.ext rfl rfl rfl rfl rfl ?_)
        refine Ops.call (ask_fun t sv (putRow rs o.slot (answerV (rowAt rs o.slot) o.reply)) G2 slot o.life o.session o.number hO2 (answerV_rows hIr)) rfl (noPd rfl) rfl rfl rfl (fun v A' hR => ?_)
        obtain ⟨rfl, rfl⟩ := hR
        rw [e1]
        generalize hav : askV _ o.life o.session o.number = av
        repeat' (first | refine Cd.seq ?_ | refine Cd.reg ?_ | refine Ops.mv rfl rfl rfl rfl ?_ | refine Ops.asg rfl rfl rfl rfl ?_ | refine Ops.fa0 rfl rfl rfl rfl ?_ | refine Ops.ld1 rfl rfl rfl rfl rfl ?_ | refine Ops.ext rfl rfl rfl rfl rfl ?_)
        refine Ops.call (ask_fun u uv (putRow us o.slot (answerV (rowAt us o.slot) o.reply)) H2 slot o.life o.session o.number hU2 (answerV_rows hIu)) rfl (noPd rfl) rfl rfl rfl (fun v A' hR => ?_)
        obtain ⟨rfl, rfl⟩ := hR
        rw [hav]
        repeat' (first | refine Cd.seq ?_ | refine Cd.reg ?_ | refine Ops.nil ?_ | refine Ops.mv rfl rfl rfl rfl ?_ | refine Ops.asg rfl rfl rfl rfl ?_ | refine Ops.addI rfl rfl rfl rfl (by omega) (by omega) rfl ?_ | refine Ops.bin rfl rfl rfl rfl rfl ?_ | refine Ops.pickF rfl rfl rfl rfl rfl ?_ | refine Ops.ext rfl rfl rfl rfl rfl ?_ | refine Cd.condF rfl rfl ?_ | refine Cd.skip (Cd.next (Q' := fun _ _ _ => True) ?_) | ((fail_if_success refine Ops.probe rfl ?_); refine Ops.gF rfl rfl (by first | rfl | assumption | (simp only [decide_eq_true_eq, decide_eq_false_iff_not, Bool.not_eq_true', Bool.not_eq_false', Bool.not_eq_eq_eq_not, Bool.not_true, Bool.not_false, beq_iff_eq, beq_eq_false_iff_ne, ne_eq, decide_eq_decide, eq_self, true_iff, iff_true, not_true_eq_false, not_false_eq_true]; first | done | omega)) ?_))
        exact Ops.nilN (round_end (⟨k + 1, (putRow rs o.slot (answerV (rowAt rs o.slot) o.reply)), (putRow us o.slot (answerV (rowAt us o.slot) o.reply)), G2, H2⟩ : SS) ⟨by show k + 1 ≤ len; omega, hO2, hU2, (answerV_rows hIr), (answerV_rows hIu), e1⟩ (by show len - (k + 1) < len - k; omega) ⟨rfl, rfl, rfl, rfl, rfl, trivial⟩ (fun w h => (h.split : Sat _ (TabB t sv (G2 ++ TabB u uv H2)) w)))
      · have e1 : rowAt (putRow rs o.slot (answerV (rowAt rs o.slot) o.reply)) slot = rowAt us slot := (put_other _ (fun r hr => answerV_has r hr) hsl).trans he
        repeat' (first | refine Cd.seq ?_ | refine Cd.reg ?_ | refine Ops.nil ?_ | refine Ops.mv rfl rfl rfl rfl ?_ | refine Ops.asg rfl rfl rfl rfl ?_ | refine Ops.fa0 rfl rfl rfl rfl ?_ | refine Ops.ld1 rfl rfl rfl rfl rfl ?_ | refine Ops.addI rfl rfl rfl rfl (by omega) (by omega) rfl ?_ | refine Ops.bin rfl rfl rfl rfl rfl ?_ | refine Cd.exit (Cd.next (Q' := fun _ _ _ => True) ?_) | refine Cd.condT rfl (by first | rfl | assumption | (simp only [decide_eq_true_eq, decide_eq_false_iff_not, Bool.not_eq_true', Bool.not_eq_false', Bool.not_eq_eq_eq_not, Bool.not_true, Bool.not_false, beq_iff_eq, beq_eq_false_iff_ne, ne_eq, decide_eq_decide, eq_self, true_iff, iff_true, not_true_eq_false, not_false_eq_true]; first | done | omega)) ?_)
        exact Ops.nilN (round_end (⟨k + 1, (putRow rs o.slot (answerV (rowAt rs o.slot) o.reply)), us, G2, H⟩ : SS) ⟨by show k + 1 ≤ len; omega, hO2, hU, (answerV_rows hIr), hIu, e1⟩ (by show len - (k + 1) < len - k; omega) ⟨rfl, rfl, rfl, rfl, rfl, trivial⟩ (fun w h => (h.split : Sat _ (TabB t sv (G2 ++ TabB u uv H)) w)))
    · exact Ops.nilN (round_end (⟨k + 1, rs, us, G, H⟩ : SS) ⟨by show k + 1 ≤ len; omega, hO, hU, hIr, hIu, he⟩ (by show len - (k + 1) < len - k; omega) ⟨rfl, rfl, rfl, rfl, rfl, trivial⟩ (fun w h => (h.split : Sat _ (TabB t sv (G ++ TabB u uv H)) w)))
    · skip
      refine Ops.call (hello_fun t sv rs G slot o.life hO) rfl (noPd rfl) rfl rfl rfl (fun v A' hR => ?_)
      obtain ⟨rfl, rfl⟩ := hR
      rw [he]
      generalize hhv : helloV _ o.life = hv
      repeat' (first | refine Cd.seq ?_ | refine Cd.reg ?_ | refine Ops.mv rfl rfl rfl rfl ?_ | refine Ops.asg rfl rfl rfl rfl ?_ | refine Ops.fa0 rfl rfl rfl rfl ?_ | refine Ops.ld1 rfl rfl rfl rfl rfl ?_ | refine Ops.ext rfl rfl rfl rfl rfl ?_)
      refine Ops.call (hello_fun u uv us H slot o.life hU) rfl (noPd rfl) rfl rfl rfl (fun v A' hR => ?_)
      obtain ⟨rfl, rfl⟩ := hR
      rw [hhv]
      repeat' (first | refine Cd.seq ?_ | refine Cd.reg ?_ | refine Ops.mv rfl rfl rfl rfl ?_ | refine Ops.asg rfl rfl rfl rfl ?_ | refine Ops.fa0 rfl rfl rfl rfl ?_ | refine Ops.ld1 rfl rfl rfl rfl rfl ?_ | refine Ops.ext rfl rfl rfl rfl rfl ?_)
      refine Ops.call (ask_fun t sv rs G slot o.life o.session o.number hO hIr) rfl (noPd rfl) rfl rfl rfl (fun v A' hR => ?_)
      obtain ⟨rfl, rfl⟩ := hR
      rw [he]
      generalize hav : askV _ o.life o.session o.number = av
      repeat' (first | refine Cd.seq ?_ | refine Cd.reg ?_ | refine Ops.mv rfl rfl rfl rfl ?_ | refine Ops.asg rfl rfl rfl rfl ?_ | refine Ops.fa0 rfl rfl rfl rfl ?_ | refine Ops.ld1 rfl rfl rfl rfl rfl ?_ | refine Ops.ext rfl rfl rfl rfl rfl ?_)
      refine Ops.call (ask_fun u uv us H slot o.life o.session o.number hU hIu) rfl (noPd rfl) rfl rfl rfl (fun v A' hR => ?_)
      obtain ⟨rfl, rfl⟩ := hR
      rw [hav]
      repeat' (first | refine Cd.seq ?_ | refine Cd.reg ?_ | refine Ops.nil ?_ | refine Ops.mv rfl rfl rfl rfl ?_ | refine Ops.asg rfl rfl rfl rfl ?_ | refine Ops.addI rfl rfl rfl rfl (by omega) (by omega) rfl ?_ | refine Ops.bin rfl rfl rfl rfl rfl ?_ | refine Ops.pickF rfl rfl rfl rfl rfl ?_ | refine Ops.ext rfl rfl rfl rfl rfl ?_ | refine Cd.condF rfl rfl ?_ | refine Cd.skip (Cd.next (Q' := fun _ _ _ => True) ?_) | ((fail_if_success refine Ops.probe rfl ?_); refine Ops.gF rfl rfl (by first | rfl | assumption | (simp only [decide_eq_true_eq, decide_eq_false_iff_not, Bool.not_eq_true', Bool.not_eq_false', Bool.not_eq_eq_eq_not, Bool.not_true, Bool.not_false, beq_iff_eq, beq_eq_false_iff_ne, ne_eq, decide_eq_decide, eq_self, true_iff, iff_true, not_true_eq_false, not_false_eq_true]; first | done | omega)) ?_))
      exact Ops.nilN (round_end (⟨k + 1, rs, us, G, H⟩ : SS) ⟨by show k + 1 ≤ len; omega, hO, hU, hIr, hIu, he⟩ (by show len - (k + 1) < len - k; omega) ⟨rfl, rfl, rfl, rfl, rfl, trivial⟩ (fun w h => (h.split : Sat _ (TabB t sv (G ++ TabB u uv H)) w)))
  · have hkl' : ¬ (k : Int) < len := by omega
    repeat' (first | refine Cd.seq ?_ | refine Cd.reg ?_ | refine Ops.nil ?_ | refine Ops.mv rfl rfl rfl rfl ?_ | refine Ops.asg rfl rfl rfl rfl ?_ | refine Ops.lenS rfl rfl rfl rfl ?_ | refine Ops.bin rfl rfl rfl rfl rfl ?_ | refine Cd.exit (Cd.next (Q' := fun _ _ _ => True) ?_) | refine Cd.condF rfl (by first | rfl | assumption | (simp only [decide_eq_true_eq, decide_eq_false_iff_not, Bool.not_eq_true', Bool.not_eq_false', Bool.not_eq_eq_eq_not, Bool.not_true, Bool.not_false, beq_iff_eq, beq_eq_false_iff_ne, ne_eq, decide_eq_decide, eq_self, true_iff, iff_true, not_true_eq_false, not_false_eq_true]; first | done | omega)) ?_)
    exact Cd.ret (ret1 rfl (Res.tmp rfl) (fun _ h => h) rfl)
end Go.Proofs.Ytdfimjgbdipnjaa
