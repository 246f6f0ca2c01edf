import Derived.Test.YtfghnepmbgbnoaaA24
import Derived.Test.YtfghnepmbgbnoaaSepF
namespace Go.Proofs.Ytfghnepmbgbnoaa
open Go Go.Sep Go.Proofs
set_option maxRecDepth 10000
set_option maxHeartbeats 8000000
set_option synthInstance.maxSize 2000
set_option linter.unusedSimpArgs false
set_option linter.unusedVariables false

theorem allF_snoc {l : List Ev} {e : Ev} (h : allF l = ([], 0)) (hmay : mayE e = true) (hne : l.length ≠ 65536) :
    allF (l ++ [e]) = ((evF (runF Au.new 0 l).1 e).2.map (fun q => (q, (l.length : Int))), 0) := by
  obtain ⟨h1, h2, h3⟩ := allF_ok h
  unfold allF
  rw [if_neg (by rw [List.length_append, List.length_singleton]; omega), if_neg, runF_snoc, ← h3]
  · simp
  · intro hc
    obtain ⟨x, hx, hb⟩ := List.any_eq_true.1 hc
    have : mayE x = true := by
      rcases List.mem_append.1 hx with hx | hx
      · exact h2 x hx
      · obtain rfl := List.mem_singleton.1 hx; exact hmay
    rw [this] at hb; cases hb
theorem allF_judge {l : List Ev} {e : Ev} (h : allF l = ([], 0)) (hk : ∀ x ∈ l, x.kind ≠ 4 ∧ x.kind ≠ 14) (hek : e.kind = 5 ∨ e.kind = 6 ∨ e.kind = 7) (h1 : 1 ≤ e.job) (h8 : e.job ≤ 8) (hne : l.length ≠ 65536) :
    ∃ r, allF (l ++ [e]) = (r, 0) ∧ decide (r = []) = fineF l e ∧ (r ≠ [] → (r.headD (0, 0)).2 = l.length) := by
  have hm : mayE e = true := by
    simp only [mayE, Bool.and_eq_true, Bool.or_eq_true, Bool.not_eq_true', decide_eq_true_eq, decide_eq_false_iff_not]
    omega
  obtain ⟨p1, p2, p3⟩ := allF_ok h
  have hh := Hist.run l (n := 0) Hist.new hk p3.symm
  rw [List.nil_append] at hh
  refine ⟨_, allF_snoc h hm hne, ?_, ?_⟩
  · rw [Bool.eq_iff_iff, decide_eq_true_eq, List.map_eq_nil_iff]; exact hh.fine hek h1
  · intro hn
    cases hq : (evF (runF Au.new 0 l).1 e).2 with
    | nil => rw [hq] at hn; exact absurd rfl hn
    | cons => rfl
theorem sbool {a b : Bool} (h : a = b) : some (Value.bool a) = some (Value.bool b) := by rw [h]

theorem audit_judges (w : World) (sa : Option Addr) (cap : Nat) (l : List Ev) (e : Ev) (hL : LsOk (baseOf w) sa l) (hcap : l.length ≤ cap) (hsin : SIn (baseOf w) e.ta e.texts) (htc : e.texts.length ≤ e.tc) (htt : totT l + e.texts.length ≤ 2000000) :
    Calls Try.prog 6 #[.slice sa l.length cap, .agg e.row.toArray] w fun x w' => x = .returned (.bool true) ∧ RowKit.Below w.heap.size w w' := by
  have hfst := first_spec (baseOf w) sa cap l hL
  have hfew2 := hL.few
  refine calls_base (vs := [_, _]) Try.func6 rfl Try.ntmps6 rfl ?_
  generalize hc15 : Code.seq (Code.region 15 _ _) _ = c15
  repeat' (first | refine Cd.seq ?_ | refine Cd.reg ?_ | refine Ops.mv rfl rfl rfl rfl ?_ | refine Ops.asg rfl rfl rfl rfl ?_ | refine Ops.box rfl rfl rfl rfl (noPd rfl) (fun b => ?_))
  rename Nat => be
  refine Ops.callB hfst (Ext.refl _) rfl (noPd rfl) rfl rfl rfl (fun v A' hR => ?_)
  obtain rfl := hR
  generalize (allF l).1.headD (0, 0) = fh0
  by_cases h1 : (allF l).1 = []
  case neg =>
    have hany : (!decide ((allF l).1 = [])) = true := by simp [h1]
    rw [hany]
    repeat' (first | refine Cd.seq ?_ | refine Cd.reg ?_ | refine Ops.nil ?_ | refine Ops.mv rfl rfl rfl rfl ?_ | refine Ops.asg rfl rfl rfl rfl ?_ | refine Ops.pickT rfl rfl rfl rfl rfl ?_ | refine Ops.ext rfl rfl rfl rfl rfl ?_ | refine Ops.alloc rfl rfl rfl (noPd rfl) (fun b => ?_) | refine Ops.stN rfl rfl rfl rfl rfl rfl (noPd rfl) ?_ | refine Ops.gSkip rfl rfl rfl ?_ | refine Cd.condT rfl rfl ?_)
    refine Ops.call fixed_spec rfl (noPd rfl) rfl rfl rfl (fun v A2 hR => ?_)
    obtain ⟨rfl, rfl⟩ := hR
    repeat' (first | refine Ops.nil ?_ | refine Ops.asg rfl rfl rfl rfl ?_)
    exact Cd.ret (ret1 (A' := []) rfl (Res.tmp rfl) (fun _ h => h.split) rfl)
  have hany : (!decide ((allF l).1 = [])) = false := by simp [h1]
  rw [hany]
  by_cases h2 : (allF l).2 = 0
  case neg =>
    skip
    repeat' (first | refine Cd.seq ?_ | refine Cd.reg ?_ | refine Ops.nil ?_ | refine Ops.mv rfl rfl rfl rfl ?_ | refine Ops.asg rfl rfl rfl rfl ?_ | refine Ops.bin rfl rfl rfl rfl rfl ?_ | refine Ops.pickT rfl rfl rfl rfl rfl ?_ | refine Ops.pickF rfl rfl rfl rfl rfl ?_ | refine Ops.ext rfl rfl rfl rfl rfl ?_ | refine Ops.alloc rfl rfl rfl (noPd rfl) (fun b => ?_) | refine Ops.stN rfl rfl rfl rfl rfl rfl (noPd rfl) ?_ | refine Ops.gSkip rfl rfl rfl ?_ | refine Cd.condT rfl rfl ?_ | ((fail_if_success refine Ops.probe rfl ?_); refine Ops.gT rfl rfl (by first | rfl | assumption | (simp only [decide_eq_true_eq, decide_eq_false_iff_not, Bool.not_eq_true', Bool.not_eq_false', Bool.not_eq_eq_eq_not, Bool.not_true, Bool.not_false, beq_iff_eq, beq_eq_false_iff_ne, ne_eq, decide_eq_decide, eq_self, true_iff, iff_true, not_true_eq_false, not_false_eq_true]; first | done | omega)) ?_))
    refine Ops.call fixed_spec rfl (noPd rfl) rfl rfl rfl (fun v A2 hR => ?_)
    obtain ⟨rfl, rfl⟩ := hR
    repeat' (first | refine Ops.nil ?_ | refine Ops.asg rfl rfl rfl rfl ?_)
    exact Cd.ret (ret1 (A' := []) rfl (Res.tmp rfl) (fun _ h => h.split) rfl)
  have hall : allF l = ([], 0) := Prod.ext h1 h2
  rw [h2]
  by_cases hj1 : e.job < 1
  · skip
    repeat' (first | refine Cd.seq ?_ | refine Cd.reg ?_ | refine Ops.nil ?_ | refine Ops.mv rfl rfl rfl rfl ?_ | refine Ops.asg rfl rfl rfl rfl ?_ | refine Ops.fa0 rfl rfl rfl rfl ?_ | refine Ops.ld1 rfl rfl rfl rfl rfl ?_ | refine Ops.bin rfl rfl rfl rfl rfl ?_ | refine Ops.pickT rfl rfl rfl rfl rfl ?_ | refine Ops.pickF rfl rfl rfl rfl rfl ?_ | refine Ops.ext rfl rfl rfl rfl rfl ?_ | refine Ops.alloc rfl rfl rfl (noPd rfl) (fun b => ?_) | refine Ops.stN rfl rfl rfl rfl rfl rfl (noPd rfl) ?_ | refine Ops.gSkip rfl rfl rfl ?_ | refine Cd.condT rfl rfl ?_ | ((fail_if_success refine Ops.probe rfl ?_); refine Ops.gT rfl rfl (by first | rfl | assumption | (simp only [decide_eq_true_eq, decide_eq_false_iff_not, Bool.not_eq_true', Bool.not_eq_false', Bool.not_eq_eq_eq_not, Bool.not_true, Bool.not_false, beq_iff_eq, beq_eq_false_iff_ne, ne_eq, decide_eq_decide, eq_self, true_iff, iff_true, not_true_eq_false, not_false_eq_true]; first | done | omega)) ?_))
    refine Ops.call fixed_spec rfl (noPd rfl) rfl rfl rfl (fun v A2 hR => ?_)
    obtain ⟨rfl, rfl⟩ := hR
    repeat' (first | refine Ops.nil ?_ | refine Ops.asg rfl rfl rfl rfl ?_)
    exact Cd.ret (ret1 (A' := []) rfl (Res.tmp rfl) (fun _ h => h.split) rfl)
  by_cases hj8 : 8 < e.job
  · skip
    repeat' (first | refine Cd.seq ?_ | refine Cd.reg ?_ | refine Ops.nil ?_ | refine Ops.mv rfl rfl rfl rfl ?_ | refine Ops.asg rfl rfl rfl rfl ?_ | refine Ops.fa0 rfl rfl rfl rfl ?_ | refine Ops.ld1 rfl rfl rfl rfl rfl ?_ | refine Ops.bin rfl rfl rfl rfl rfl ?_ | refine Ops.pickT rfl rfl rfl rfl rfl ?_ | refine Ops.pickF rfl rfl rfl rfl rfl ?_ | refine Ops.ext rfl rfl rfl rfl rfl ?_ | refine Ops.alloc rfl rfl rfl (noPd rfl) (fun b => ?_) | refine Ops.stN rfl rfl rfl rfl rfl rfl (noPd rfl) ?_ | refine Ops.gSkip rfl rfl rfl ?_ | refine Cd.condT rfl rfl ?_ | ((fail_if_success refine Ops.probe rfl ?_); refine Ops.gT rfl rfl (by first | rfl | assumption | (simp only [decide_eq_true_eq, decide_eq_false_iff_not, Bool.not_eq_true', Bool.not_eq_false', Bool.not_eq_eq_eq_not, Bool.not_true, Bool.not_false, beq_iff_eq, beq_eq_false_iff_ne, ne_eq, decide_eq_decide, eq_self, true_iff, iff_true, not_true_eq_false, not_false_eq_true]; first | done | omega)) ?_) | ((fail_if_success refine Ops.probe rfl ?_); refine Ops.gF rfl rfl (by first | rfl | assumption | (simp only [decide_eq_true_eq, decide_eq_false_iff_not, Bool.not_eq_true', Bool.not_eq_false', Bool.not_eq_eq_eq_not, Bool.not_true, Bool.not_false, beq_iff_eq, beq_eq_false_iff_ne, ne_eq, decide_eq_decide, eq_self, true_iff, iff_true, not_true_eq_false, not_false_eq_true]; first | done | omega)) ?_))
    refine Ops.call fixed_spec rfl (noPd rfl) rfl rfl rfl (fun v A2 hR => ?_)
    obtain ⟨rfl, rfl⟩ := hR
    repeat' (first | refine Ops.nil ?_ | refine Ops.asg rfl rfl rfl rfl ?_)
    exact Cd.ret (ret1 (A' := []) rfl (Res.tmp rfl) (fun _ h => h.split) rfl)
  by_cases hne : l.length = 65536
  · have hne' : (l.length : Int) = 65536 := by omega
    repeat' (first | refine Cd.seq ?_ | refine Cd.reg ?_ | refine Ops.nil ?_ | refine Ops.mv rfl rfl rfl rfl ?_ | refine Ops.asg rfl rfl rfl rfl ?_ | refine Ops.fa0 rfl rfl rfl rfl ?_ | refine Ops.ld1 rfl rfl rfl rfl rfl ?_ | refine Ops.lenS rfl rfl rfl rfl ?_ | refine Ops.bin rfl rfl rfl rfl rfl ?_ | refine Ops.pickF rfl rfl rfl rfl rfl ?_ | refine Ops.ext rfl rfl rfl rfl rfl ?_ | refine Ops.alloc rfl rfl rfl (noPd rfl) (fun b => ?_) | refine Ops.stN rfl rfl rfl rfl rfl rfl (noPd rfl) ?_ | refine Cd.condT rfl (by first | rfl | assumption | (simp only [decide_eq_true_eq, decide_eq_false_iff_not, Bool.not_eq_true', Bool.not_eq_false', Bool.not_eq_eq_eq_not, Bool.not_true, Bool.not_false, beq_iff_eq, beq_eq_false_iff_ne, ne_eq, decide_eq_decide, eq_self, true_iff, iff_true, not_true_eq_false, not_false_eq_true]; first | done | omega)) ?_ | ((fail_if_success refine Ops.probe rfl ?_); refine Ops.gF rfl rfl (by first | rfl | assumption | (simp only [decide_eq_true_eq, decide_eq_false_iff_not, Bool.not_eq_true', Bool.not_eq_false', Bool.not_eq_eq_eq_not, Bool.not_true, Bool.not_false, beq_iff_eq, beq_eq_false_iff_ne, ne_eq, decide_eq_decide, eq_self, true_iff, iff_true, not_true_eq_false, not_false_eq_true]; first | done | omega)) ?_))
    refine Ops.call fixed_spec rfl (noPd rfl) rfl rfl rfl (fun v A2 hR => ?_)
    obtain ⟨rfl, rfl⟩ := hR
    repeat' (first | refine Ops.nil ?_ | refine Ops.asg rfl rfl rfl rfl ?_)
    exact Cd.ret (ret1 (A' := []) rfl (Res.tmp rfl) (fun _ h => h.split) rfl)
  have hne' : ¬ (l.length : Int) = 65536 := by omega
  repeat' (first | refine Cd.seq ?_ | refine Cd.reg ?_ | refine Ops.nil ?_ | refine Ops.mv rfl rfl rfl rfl ?_ | refine Ops.asg rfl rfl rfl rfl ?_ | refine Ops.fa0 rfl rfl rfl rfl ?_ | refine Ops.ld1 rfl rfl rfl rfl rfl ?_ | refine Ops.lenS rfl rfl rfl rfl ?_ | refine Ops.bin rfl rfl rfl rfl rfl ?_ | refine Ops.pickF rfl rfl rfl rfl rfl ?_ | refine Ops.ext rfl rfl rfl rfl rfl ?_ | refine Ops.alloc rfl rfl rfl (noPd rfl) (fun b => ?_) | refine Ops.stN rfl rfl rfl rfl rfl rfl (noPd rfl) ?_ | refine Cd.block ?_ | refine Cd.skip (Cd.next ?_) | refine Cd.condF rfl (by first | rfl | assumption | (simp only [decide_eq_true_eq, decide_eq_false_iff_not, Bool.not_eq_true', Bool.not_eq_false', Bool.not_eq_eq_eq_not, Bool.not_true, Bool.not_false, beq_iff_eq, beq_eq_false_iff_ne, ne_eq, decide_eq_decide, eq_self, true_iff, iff_true, not_true_eq_false, not_false_eq_true]; first | done | omega)) ?_ | ((fail_if_success refine Ops.probe rfl ?_); refine Ops.gF rfl rfl (by first | rfl | assumption | (simp only [decide_eq_true_eq, decide_eq_false_iff_not, Bool.not_eq_true', Bool.not_eq_false', Bool.not_eq_eq_eq_not, Bool.not_true, Bool.not_false, beq_iff_eq, beq_eq_false_iff_ne, ne_eq, decide_eq_decide, eq_self, true_iff, iff_true, not_true_eq_false, not_false_eq_true]; first | done | omega)) ?_))
  refine Cd.loopK (fun i : Nat => i ≤ l.length ∧ ∀ x ∈ l.take i, x.kind ≠ 4 ∧ x.kind ≠ 14) (fun i => [(0, .slice sa l.length cap), (3, ptr be), (8, .int .i64 (topF (l.take i))), (9, .int .i64 (lastF e.job (l.take i)).1), (10, .int .i64 (lastF e.job (l.take i)).2), (11, .int .i64 i)]) (fun _ => (be, cl e.row 39) :: A') (fun i => l.length - i) 0 ⟨Nat.zero_le _, fun x hx => by cases hx⟩ ⟨rfl, rfl, rfl, rfl, rfl, rfl, trivial⟩ (fun w h => h.split) (fun i hi => ?_)
  obtain ⟨hi, hks⟩ := hi
  by_cases hil : i < l.length
  · have hil' : (i : Int) < l.length := by omega
    obtain ⟨x, hx⟩ : ∃ x, l[i]? = some x := ⟨_, List.getElem?_eq_getElem hil⟩
    obtain ⟨b0, off0, hsa0, hrd0⟩ := hL.vin i x hx
    subst hsa0
    have htk : l.take (i + 1) = l.take i ++ [x] := by
      obtain ⟨h1, rfl⟩ := List.getElem?_eq_some_iff.1 hx
      rw [List.take_succ_eq_append_getElem h1]
    have hr0 : ∀ A, Rd (baseOf w) A b0 (off0 + (i : Int).toNat * 13 + 0) (.int .i64 x.kind) := fun A => by rw [Int.toNat_natCast]; exact hrd0 A 0 _ rfl
    have hr4 : ∀ A, Rd (baseOf w) A b0 (off0 + (i : Int).toNat * 13 + 4) (.int .i64 x.job) := fun A => by rw [Int.toNat_natCast]; exact hrd0 A 4 _ rfl
    have hr5 : ∀ A, Rd (baseOf w) A b0 (off0 + (i : Int).toNat * 13 + 5) (.int .i64 x.badge) := fun A => by rw [Int.toNat_natCast]; exact hrd0 A 5 _ rfl
    clear hrd0
    have htop := topF_snoc (l.take i) x
    have hlast := lastF_snoc e.job (l.take i) x
    rw [← htk] at htop hlast
    have hnext : x.kind ≠ 4 → x.kind ≠ 14 → ∀ y ∈ l.take (i + 1), y.kind ≠ 4 ∧ y.kind ≠ 14 := fun g4 g14 y hy => by
      rw [htk] at hy
      rcases List.mem_append.1 hy with hy | hy
      · exact hks y hy
      · obtain rfl := List.mem_singleton.1 hy; exact ⟨g4, g14⟩
    by_cases q14 : x.kind = 14
    · skip
      repeat' (first | refine Cd.seq ?_ | refine Cd.reg ?_ | refine Ops.nil ?_ | refine Ops.mv rfl rfl rfl rfl ?_ | refine Ops.fa rfl rfl rfl rfl ?_ | refine Ops.lenS rfl rfl rfl rfl ?_ | refine Ops.bin rfl rfl rfl rfl rfl ?_ | refine Ops.pickT rfl rfl rfl rfl rfl ?_ | refine Ops.gSkip rfl rfl rfl ?_ | refine Cd.condT rfl rfl ?_ | refine Cd.block ?_ | refine Cd.skip (Cd.next ?_) | refine Ops.ixa rfl rfl rfl rfl (by omega) (by omega) rfl ?_ | refine Ops.ldR rfl rfl rfl (by apply_assumption) rfl ?_ | refine Cd.condT rfl (by first | rfl | assumption | (simp only [decide_eq_true_eq, decide_eq_false_iff_not, Bool.not_eq_true', Bool.not_eq_false', Bool.not_eq_eq_eq_not, Bool.not_true, Bool.not_false, beq_iff_eq, beq_eq_false_iff_ne, ne_eq, decide_eq_decide, eq_self, true_iff, iff_true, not_true_eq_false, not_false_eq_true]; first | done | omega)) ?_ | ((fail_if_success refine Ops.probe rfl ?_); refine Ops.gT rfl rfl (by first | rfl | assumption | (simp only [decide_eq_true_eq, decide_eq_false_iff_not, Bool.not_eq_true', Bool.not_eq_false', Bool.not_eq_eq_eq_not, Bool.not_true, Bool.not_false, beq_iff_eq, beq_eq_false_iff_ne, ne_eq, decide_eq_decide, eq_self, true_iff, iff_true, not_true_eq_false, not_false_eq_true]; first | done | omega)) ?_))
      refine Ops.call fixed_spec rfl (noPd rfl) rfl rfl rfl (fun v A2 hR => ?_)
      obtain ⟨rfl, rfl⟩ := hR
      repeat' (first | refine Ops.nil ?_ | refine Ops.asg rfl rfl rfl rfl ?_)
      exact Cd.ret (ret1 (A' := []) rfl (Res.tmp rfl) (fun _ h => h.split) rfl)
    by_cases q4 : x.kind = 4
    · skip
      repeat' (first | refine Cd.seq ?_ | refine Cd.reg ?_ | refine Ops.nil ?_ | refine Ops.mv rfl rfl rfl rfl ?_ | refine Ops.fa rfl rfl rfl rfl ?_ | refine Ops.lenS rfl rfl rfl rfl ?_ | refine Ops.bin rfl rfl rfl rfl rfl ?_ | refine Ops.pickF rfl rfl rfl rfl rfl ?_ | refine Cd.block ?_ | refine Cd.skip (Cd.next ?_) | refine Ops.ixa rfl rfl rfl rfl (by omega) (by omega) rfl ?_ | refine Ops.ldR rfl rfl rfl (by apply_assumption) rfl ?_ | refine Cd.condT rfl (by first | rfl | assumption | (simp only [decide_eq_true_eq, decide_eq_false_iff_not, Bool.not_eq_true', Bool.not_eq_false', Bool.not_eq_eq_eq_not, Bool.not_true, Bool.not_false, beq_iff_eq, beq_eq_false_iff_ne, ne_eq, decide_eq_decide, eq_self, true_iff, iff_true, not_true_eq_false, not_false_eq_true]; first | done | omega)) ?_ | ((fail_if_success refine Ops.probe rfl ?_); refine Ops.gF rfl rfl (by first | rfl | assumption | (simp only [decide_eq_true_eq, decide_eq_false_iff_not, Bool.not_eq_true', Bool.not_eq_false', Bool.not_eq_eq_eq_not, Bool.not_true, Bool.not_false, beq_iff_eq, beq_eq_false_iff_ne, ne_eq, decide_eq_decide, eq_self, true_iff, iff_true, not_true_eq_false, not_false_eq_true]; first | done | omega)) ?_))
      refine Ops.call fixed_spec rfl (noPd rfl) rfl rfl rfl (fun v A2 hR => ?_)
      obtain ⟨rfl, rfl⟩ := hR
      repeat' (first | refine Ops.nil ?_ | refine Ops.asg rfl rfl rfl rfl ?_)
      exact Cd.ret (ret1 (A' := []) rfl (Res.tmp rfl) (fun _ h => h.split) rfl)
    by_cases q5 : x.kind = 5
    · skip
      rw [if_pos q5] at htop
      by_cases hjb : x.job = e.job
      · rw [if_pos ⟨hjb, by rw [q5]; rfl⟩] at hlast
        repeat' (first | refine Cd.seq ?_ | refine Cd.reg ?_ | refine Ops.nil ?_ | refine Ops.mv rfl rfl rfl rfl ?_ | refine Ops.asg rfl rfl rfl rfl ?_ | refine Ops.fa rfl rfl rfl rfl ?_ | refine Ops.lenS rfl rfl rfl rfl ?_ | refine Ops.maxI rfl rfl rfl rfl rfl ?_ | refine Ops.bin rfl rfl rfl rfl rfl ?_ | refine Ops.pickF rfl rfl rfl rfl rfl ?_ | refine Cd.block ?_ | refine Cd.skip (Cd.next ?_) | refine Ops.ixa rfl rfl rfl rfl (by omega) (by omega) rfl ?_ | refine Ops.ldR rfl rfl rfl (by apply_assumption) rfl ?_ | refine Cd.condT rfl (by first | rfl | assumption | (simp only [decide_eq_true_eq, decide_eq_false_iff_not, Bool.not_eq_true', Bool.not_eq_false', Bool.not_eq_eq_eq_not, Bool.not_true, Bool.not_false, beq_iff_eq, beq_eq_false_iff_ne, ne_eq, decide_eq_decide, eq_self, true_iff, iff_true, not_true_eq_false, not_false_eq_true]; first | done | omega)) ?_ | refine Cd.condF rfl (by first | rfl | assumption | (simp only [decide_eq_true_eq, decide_eq_false_iff_not, Bool.not_eq_true', Bool.not_eq_false', Bool.not_eq_eq_eq_not, Bool.not_true, Bool.not_false, beq_iff_eq, beq_eq_false_iff_ne, ne_eq, decide_eq_decide, eq_self, true_iff, iff_true, not_true_eq_false, not_false_eq_true]; first | done | omega)) ?_ | ((fail_if_success refine Ops.probe rfl ?_); refine Ops.gF rfl rfl (by first | rfl | assumption | (simp only [decide_eq_true_eq, decide_eq_false_iff_not, Bool.not_eq_true', Bool.not_eq_false', Bool.not_eq_eq_eq_not, Bool.not_true, Bool.not_false, beq_iff_eq, beq_eq_false_iff_ne, ne_eq, decide_eq_decide, eq_self, true_iff, iff_true, not_true_eq_false, not_false_eq_true]; first | done | omega)) ?_))
        refine Cd.draw [(0, 0, []), (1, 0, []), (2, 0, []), (3, 0, []), (4, 1, []), (5, 0, []), (6, 1, []), (7, 0, []), (8, 0, []), (9, 0, []), (10, 0, []), (11, 0, []), (12, 0, []), (13, 1, []), (14, 0, []), (15, 0, []), (16, 0, []), (17, 0, []), (18, 0, []), (19, 0, []), (20, 1, []), (21, 0, []), (22, 0, []), (23, 0, []), (24, 0, []), (25, 0, []), (26, 0, []), (27, 0, []), (28, 1, []), (29, 0, []), (30, 0, []), (31, 0, []), (32, 0, []), (33, 0, []), (34, 0, []), (35, 0, []), (36, 1, []), (37, 0, []), (38, 0, []), (39, 0, []), (40, 0, []), (41, 0, []), (42, 0, []), (43, 0, []), (44, 1, []), (45, 0, []), (46, 0, []), (47, 0, [])] (by kernel_rfl) (by kernel_rfl) (by simp only [picked, nth]; exact rfl) ?_
        repeat' (first | refine Ops.nilN (inB (Cd.next ?_)) | refine Cd.seq ?_ | refine Cd.reg ?_ | refine Ops.nil ?_ | refine Ops.mv rfl rfl rfl rfl ?_ | refine Ops.asg rfl rfl rfl rfl ?_ | refine Ops.fa0 rfl rfl rfl rfl ?_ | refine Ops.fa rfl rfl rfl rfl ?_ | refine Ops.ld1 rfl rfl rfl rfl rfl ?_ | refine Ops.addI rfl rfl rfl rfl (by omega) (by omega) rfl ?_ | refine Ops.bin rfl rfl rfl rfl rfl ?_ | refine Ops.pickT rfl rfl rfl rfl rfl ?_ | refine Ops.pickF rfl rfl rfl rfl rfl ?_ | refine Ops.gSkip rfl rfl rfl ?_ | refine Cd.condT rfl rfl ?_ | refine Ops.ixa rfl rfl rfl rfl (by omega) (by omega) rfl ?_ | refine Ops.ldR rfl rfl rfl (by apply_assumption) rfl ?_ | ((fail_if_success refine Ops.probe rfl ?_); refine Ops.gT rfl rfl (by first | rfl | assumption | (simp only [decide_eq_true_eq, decide_eq_false_iff_not, Bool.not_eq_true', Bool.not_eq_false', Bool.not_eq_eq_eq_not, Bool.not_true, Bool.not_false, beq_iff_eq, beq_eq_false_iff_ne, ne_eq, decide_eq_decide, eq_self, true_iff, iff_true, not_true_eq_false, not_false_eq_true]; first | done | omega)) ?_) | ((fail_if_success refine Ops.probe rfl ?_); refine Ops.gF rfl rfl (by first | rfl | assumption | (simp only [decide_eq_true_eq, decide_eq_false_iff_not, Bool.not_eq_true', Bool.not_eq_false', Bool.not_eq_eq_eq_not, Bool.not_true, Bool.not_false, beq_iff_eq, beq_eq_false_iff_ne, ne_eq, decide_eq_decide, eq_self, true_iff, iff_true, not_true_eq_false, not_false_eq_true]; first | done | omega)) ?_))
        exact Ops.nilN (round_end (i + 1) ⟨by show i + 1 ≤ l.length; omega, hnext q4 q14⟩ (by show l.length - (i + 1) < l.length - i; omega) ⟨rfl, rfl, by show _ = some (Value.int .i64 (topF (l.take (i + 1)))); rw [htop]; rfl, by show _ = some (Value.int .i64 (lastF e.job (l.take (i + 1))).1); rw [hlast]; rfl, by show _ = some (Value.int .i64 (lastF e.job (l.take (i + 1))).2); rw [hlast]; rfl, rfl, trivial⟩ (fun w h => h.split))
      · rw [if_neg (fun h => hjb h.1)] at hlast
        repeat' (first | refine Cd.seq ?_ | refine Cd.reg ?_ | refine Ops.nil ?_ | refine Ops.mv rfl rfl rfl rfl ?_ | refine Ops.asg rfl rfl rfl rfl ?_ | refine Ops.fa rfl rfl rfl rfl ?_ | refine Ops.lenS rfl rfl rfl rfl ?_ | refine Ops.maxI rfl rfl rfl rfl rfl ?_ | refine Ops.bin rfl rfl rfl rfl rfl ?_ | refine Ops.pickF rfl rfl rfl rfl rfl ?_ | refine Cd.block ?_ | refine Cd.skip (Cd.next ?_) | refine Ops.ixa rfl rfl rfl rfl (by omega) (by omega) rfl ?_ | refine Ops.ldR rfl rfl rfl (by apply_assumption) rfl ?_ | refine Cd.condT rfl (by first | rfl | assumption | (simp only [decide_eq_true_eq, decide_eq_false_iff_not, Bool.not_eq_true', Bool.not_eq_false', Bool.not_eq_eq_eq_not, Bool.not_true, Bool.not_false, beq_iff_eq, beq_eq_false_iff_ne, ne_eq, decide_eq_decide, eq_self, true_iff, iff_true, not_true_eq_false, not_false_eq_true]; first | done | omega)) ?_ | refine Cd.condF rfl (by first | rfl | assumption | (simp only [decide_eq_true_eq, decide_eq_false_iff_not, Bool.not_eq_true', Bool.not_eq_false', Bool.not_eq_eq_eq_not, Bool.not_true, Bool.not_false, beq_iff_eq, beq_eq_false_iff_ne, ne_eq, decide_eq_decide, eq_self, true_iff, iff_true, not_true_eq_false, not_false_eq_true]; first | done | omega)) ?_ | ((fail_if_success refine Ops.probe rfl ?_); refine Ops.gF rfl rfl (by first | rfl | assumption | (simp only [decide_eq_true_eq, decide_eq_false_iff_not, Bool.not_eq_true', Bool.not_eq_false', Bool.not_eq_eq_eq_not, Bool.not_true, Bool.not_false, beq_iff_eq, beq_eq_false_iff_ne, ne_eq, decide_eq_decide, eq_self, true_iff, iff_true, not_true_eq_false, not_false_eq_true]; first | done | omega)) ?_))
        refine Cd.draw [(0, 0, []), (1, 0, []), (2, 0, []), (3, 0, []), (4, 1, []), (5, 0, []), (6, 1, []), (7, 0, []), (8, 0, []), (9, 0, []), (10, 0, []), (11, 0, []), (12, 0, []), (13, 1, []), (14, 0, []), (15, 0, []), (16, 0, []), (17, 0, []), (18, 0, []), (19, 0, []), (20, 1, []), (21, 0, []), (22, 0, []), (23, 0, []), (24, 0, []), (25, 0, []), (26, 0, []), (27, 0, []), (28, 1, []), (29, 0, []), (30, 0, []), (31, 0, []), (32, 0, []), (33, 0, []), (34, 0, []), (35, 0, []), (36, 1, []), (37, 0, []), (38, 0, []), (39, 0, []), (40, 0, []), (41, 0, []), (42, 0, []), (43, 0, []), (44, 1, []), (45, 0, []), (46, 0, []), (47, 0, [])] (by kernel_rfl) (by kernel_rfl) (by simp only [picked, nth]; exact rfl) ?_
        repeat' (first | refine Cd.reg ?_ | refine Ops.nil ?_ | refine Ops.mv rfl rfl rfl rfl ?_ | refine Ops.asg rfl rfl rfl rfl ?_ | refine Ops.fa0 rfl rfl rfl rfl ?_ | refine Ops.fa rfl rfl rfl rfl ?_ | refine Ops.ld1 rfl rfl rfl rfl rfl ?_ | refine Ops.addI rfl rfl rfl rfl (by omega) (by omega) rfl ?_ | refine Ops.bin rfl rfl rfl rfl rfl ?_ | refine Ops.pickF rfl rfl rfl rfl rfl ?_ | refine Ops.gSkip rfl rfl rfl ?_ | refine Ops.gSkipU rfl rfl rfl rfl ?_ | refine Cd.condF rfl rfl ?_ | refine Cd.skip (Cd.next (Q' := fun _ _ _ => True) ?_) | refine Ops.ixa rfl rfl rfl rfl (by omega) (by omega) rfl ?_ | refine Ops.ldR rfl rfl rfl (by apply_assumption) rfl ?_ | ((fail_if_success refine Ops.probe rfl ?_); refine Ops.gF rfl rfl (by first | rfl | assumption | (simp only [decide_eq_true_eq, decide_eq_false_iff_not, Bool.not_eq_true', Bool.not_eq_false', Bool.not_eq_eq_eq_not, Bool.not_true, Bool.not_false, beq_iff_eq, beq_eq_false_iff_ne, ne_eq, decide_eq_decide, eq_self, true_iff, iff_true, not_true_eq_false, not_false_eq_true]; first | done | omega)) ?_))
        exact Ops.nilN (round_end (i + 1) ⟨by show i + 1 ≤ l.length; omega, hnext q4 q14⟩ (by show l.length - (i + 1) < l.length - i; omega) ⟨rfl, rfl, by show _ = some (Value.int .i64 (topF (l.take (i + 1)))); rw [htop]; rfl, by show _ = some (Value.int .i64 (lastF e.job (l.take (i + 1))).1); rw [hlast]; rfl, by show _ = some (Value.int .i64 (lastF e.job (l.take (i + 1))).2); rw [hlast]; rfl, rfl, trivial⟩ (fun w h => h.split))
    rw [if_neg q5] at htop
    by_cases hjb : x.job = e.job
    · by_cases q2 : x.kind = 2
      · rw [if_pos ⟨hjb, by rw [q2]; rfl⟩] at hlast
        repeat' (first | refine Cd.seq ?_ | refine Cd.reg ?_ | refine Ops.nil ?_ | refine Ops.mv rfl rfl rfl rfl ?_ | refine Ops.fa rfl rfl rfl rfl ?_ | refine Ops.lenS rfl rfl rfl rfl ?_ | refine Ops.bin rfl rfl rfl rfl rfl ?_ | refine Ops.pickF rfl rfl rfl rfl rfl ?_ | refine Cd.block ?_ | refine Cd.skip (Cd.next ?_) | refine Ops.ixa rfl rfl rfl rfl (by omega) (by omega) rfl ?_ | refine Ops.ldR rfl rfl rfl (by apply_assumption) rfl ?_ | refine Cd.condT rfl (by first | rfl | assumption | (simp only [decide_eq_true_eq, decide_eq_false_iff_not, Bool.not_eq_true', Bool.not_eq_false', Bool.not_eq_eq_eq_not, Bool.not_true, Bool.not_false, beq_iff_eq, beq_eq_false_iff_ne, ne_eq, decide_eq_decide, eq_self, true_iff, iff_true, not_true_eq_false, not_false_eq_true]; first | done | omega)) ?_ | refine Cd.condF rfl (by first | rfl | assumption | (simp only [decide_eq_true_eq, decide_eq_false_iff_not, Bool.not_eq_true', Bool.not_eq_false', Bool.not_eq_eq_eq_not, Bool.not_true, Bool.not_false, beq_iff_eq, beq_eq_false_iff_ne, ne_eq, decide_eq_decide, eq_self, true_iff, iff_true, not_true_eq_false, not_false_eq_true]; first | done | omega)) ?_ | ((fail_if_success refine Ops.probe rfl ?_); refine Ops.gF rfl rfl (by first | rfl | assumption | (simp only [decide_eq_true_eq, decide_eq_false_iff_not, Bool.not_eq_true', Bool.not_eq_false', Bool.not_eq_eq_eq_not, Bool.not_true, Bool.not_false, beq_iff_eq, beq_eq_false_iff_ne, ne_eq, decide_eq_decide, eq_self, true_iff, iff_true, not_true_eq_false, not_false_eq_true]; first | done | omega)) ?_))
        refine Cd.draw [(0, 0, []), (1, 0, []), (2, 0, []), (3, 0, []), (4, 1, []), (5, 0, []), (6, 1, []), (7, 0, []), (8, 0, []), (9, 0, []), (10, 0, []), (11, 0, []), (12, 0, []), (13, 1, []), (14, 0, []), (15, 0, []), (16, 0, []), (17, 0, []), (18, 0, []), (19, 0, []), (20, 1, []), (21, 0, []), (22, 0, []), (23, 0, []), (24, 0, []), (25, 0, []), (26, 0, []), (27, 0, []), (28, 1, []), (29, 0, []), (30, 0, []), (31, 0, []), (32, 0, []), (33, 0, []), (34, 0, []), (35, 0, []), (36, 1, []), (37, 0, []), (38, 0, []), (39, 0, []), (40, 0, []), (41, 0, []), (42, 0, []), (43, 0, []), (44, 1, []), (45, 0, []), (46, 0, []), (47, 0, [])] (by kernel_rfl) (by kernel_rfl) (by simp only [picked, nth]; exact rfl) ?_
        repeat' (first | refine Ops.nilN (inB (Cd.next ?_)) | refine Cd.seq ?_ | refine Cd.reg ?_ | refine Ops.nil ?_ | refine Ops.mv rfl rfl rfl rfl ?_ | refine Ops.asg rfl rfl rfl rfl ?_ | refine Ops.fa0 rfl rfl rfl rfl ?_ | refine Ops.fa rfl rfl rfl rfl ?_ | refine Ops.ld1 rfl rfl rfl rfl rfl ?_ | refine Ops.addI rfl rfl rfl rfl (by omega) (by omega) rfl ?_ | refine Ops.bin rfl rfl rfl rfl rfl ?_ | refine Ops.pickT rfl rfl rfl rfl rfl ?_ | refine Ops.gSkip rfl rfl rfl ?_ | refine Cd.condT rfl rfl ?_ | refine Ops.ixa rfl rfl rfl rfl (by omega) (by omega) rfl ?_ | refine Ops.ldR rfl rfl rfl (by apply_assumption) rfl ?_ | ((fail_if_success refine Ops.probe rfl ?_); refine Ops.gT rfl rfl (by first | rfl | assumption | (simp only [decide_eq_true_eq, decide_eq_false_iff_not, Bool.not_eq_true', Bool.not_eq_false', Bool.not_eq_eq_eq_not, Bool.not_true, Bool.not_false, beq_iff_eq, beq_eq_false_iff_ne, ne_eq, decide_eq_decide, eq_self, true_iff, iff_true, not_true_eq_false, not_false_eq_true]; first | done | omega)) ?_))
        exact Ops.nilN (round_end (i + 1) ⟨by show i + 1 ≤ l.length; omega, hnext q4 q14⟩ (by show l.length - (i + 1) < l.length - i; omega) ⟨rfl, rfl, by show _ = some (Value.int .i64 (topF (l.take (i + 1)))); rw [htop]; rfl, by show _ = some (Value.int .i64 (lastF e.job (l.take (i + 1))).1); rw [hlast]; rfl, by show _ = some (Value.int .i64 (lastF e.job (l.take (i + 1))).2); rw [hlast]; rfl, rfl, trivial⟩ (fun w h => h.split))
      by_cases q6 : x.kind = 6
      · rw [if_pos ⟨hjb, by rw [q6]; rfl⟩] at hlast
        repeat' (first | refine Cd.seq ?_ | refine Cd.reg ?_ | refine Ops.nil ?_ | refine Ops.mv rfl rfl rfl rfl ?_ | refine Ops.fa rfl rfl rfl rfl ?_ | refine Ops.lenS rfl rfl rfl rfl ?_ | refine Ops.bin rfl rfl rfl rfl rfl ?_ | refine Ops.pickF rfl rfl rfl rfl rfl ?_ | refine Cd.block ?_ | refine Cd.skip (Cd.next ?_) | refine Ops.ixa rfl rfl rfl rfl (by omega) (by omega) rfl ?_ | refine Ops.ldR rfl rfl rfl (by apply_assumption) rfl ?_ | refine Cd.condT rfl (by first | rfl | assumption | (simp only [decide_eq_true_eq, decide_eq_false_iff_not, Bool.not_eq_true', Bool.not_eq_false', Bool.not_eq_eq_eq_not, Bool.not_true, Bool.not_false, beq_iff_eq, beq_eq_false_iff_ne, ne_eq, decide_eq_decide, eq_self, true_iff, iff_true, not_true_eq_false, not_false_eq_true]; first | done | omega)) ?_ | refine Cd.condF rfl (by first | rfl | assumption | (simp only [decide_eq_true_eq, decide_eq_false_iff_not, Bool.not_eq_true', Bool.not_eq_false', Bool.not_eq_eq_eq_not, Bool.not_true, Bool.not_false, beq_iff_eq, beq_eq_false_iff_ne, ne_eq, decide_eq_decide, eq_self, true_iff, iff_true, not_true_eq_false, not_false_eq_true]; first | done | omega)) ?_ | ((fail_if_success refine Ops.probe rfl ?_); refine Ops.gF rfl rfl (by first | rfl | assumption | (simp only [decide_eq_true_eq, decide_eq_false_iff_not, Bool.not_eq_true', Bool.not_eq_false', Bool.not_eq_eq_eq_not, Bool.not_true, Bool.not_false, beq_iff_eq, beq_eq_false_iff_ne, ne_eq, decide_eq_decide, eq_self, true_iff, iff_true, not_true_eq_false, not_false_eq_true]; first | done | omega)) ?_))
        refine Cd.draw [(0, 0, []), (1, 0, []), (2, 0, []), (3, 0, []), (4, 1, []), (5, 0, []), (6, 1, []), (7, 0, []), (8, 0, []), (9, 0, []), (10, 0, []), (11, 0, []), (12, 0, []), (13, 1, []), (14, 0, []), (15, 0, []), (16, 0, []), (17, 0, []), (18, 0, []), (19, 0, []), (20, 1, []), (21, 0, []), (22, 0, []), (23, 0, []), (24, 0, []), (25, 0, []), (26, 0, []), (27, 0, []), (28, 1, []), (29, 0, []), (30, 0, []), (31, 0, []), (32, 0, []), (33, 0, []), (34, 0, []), (35, 0, []), (36, 1, []), (37, 0, []), (38, 0, []), (39, 0, []), (40, 0, []), (41, 0, []), (42, 0, []), (43, 0, []), (44, 1, []), (45, 0, []), (46, 0, []), (47, 0, [])] (by kernel_rfl) (by kernel_rfl) (by simp only [picked, nth]; exact rfl) ?_
        repeat' (first | refine Ops.nilN (inB (Cd.next ?_)) | refine Cd.seq ?_ | refine Cd.reg ?_ | refine Ops.nil ?_ | refine Ops.mv rfl rfl rfl rfl ?_ | refine Ops.asg rfl rfl rfl rfl ?_ | refine Ops.fa0 rfl rfl rfl rfl ?_ | refine Ops.fa rfl rfl rfl rfl ?_ | refine Ops.ld1 rfl rfl rfl rfl rfl ?_ | refine Ops.addI rfl rfl rfl rfl (by omega) (by omega) rfl ?_ | refine Ops.bin rfl rfl rfl rfl rfl ?_ | refine Ops.pickT rfl rfl rfl rfl rfl ?_ | refine Ops.pickF rfl rfl rfl rfl rfl ?_ | refine Ops.gSkip rfl rfl rfl ?_ | refine Cd.condT rfl rfl ?_ | refine Ops.ixa rfl rfl rfl rfl (by omega) (by omega) rfl ?_ | refine Ops.ldR rfl rfl rfl (by apply_assumption) rfl ?_ | ((fail_if_success refine Ops.probe rfl ?_); refine Ops.gT rfl rfl (by first | rfl | assumption | (simp only [decide_eq_true_eq, decide_eq_false_iff_not, Bool.not_eq_true', Bool.not_eq_false', Bool.not_eq_eq_eq_not, Bool.not_true, Bool.not_false, beq_iff_eq, beq_eq_false_iff_ne, ne_eq, decide_eq_decide, eq_self, true_iff, iff_true, not_true_eq_false, not_false_eq_true]; first | done | omega)) ?_) | ((fail_if_success refine Ops.probe rfl ?_); refine Ops.gF rfl rfl (by first | rfl | assumption | (simp only [decide_eq_true_eq, decide_eq_false_iff_not, Bool.not_eq_true', Bool.not_eq_false', Bool.not_eq_eq_eq_not, Bool.not_true, Bool.not_false, beq_iff_eq, beq_eq_false_iff_ne, ne_eq, decide_eq_decide, eq_self, true_iff, iff_true, not_true_eq_false, not_false_eq_true]; first | done | omega)) ?_))
        exact Ops.nilN (round_end (i + 1) ⟨by show i + 1 ≤ l.length; omega, hnext q4 q14⟩ (by show l.length - (i + 1) < l.length - i; omega) ⟨rfl, rfl, by show _ = some (Value.int .i64 (topF (l.take (i + 1)))); rw [htop]; rfl, by show _ = some (Value.int .i64 (lastF e.job (l.take (i + 1))).1); rw [hlast]; rfl, by show _ = some (Value.int .i64 (lastF e.job (l.take (i + 1))).2); rw [hlast]; rfl, rfl, trivial⟩ (fun w h => h.split))
      by_cases q7 : x.kind = 7
      · rw [if_pos ⟨hjb, by rw [q7]; rfl⟩] at hlast
        repeat' (first | refine Cd.seq ?_ | refine Cd.reg ?_ | refine Ops.nil ?_ | refine Ops.mv rfl rfl rfl rfl ?_ | refine Ops.fa rfl rfl rfl rfl ?_ | refine Ops.lenS rfl rfl rfl rfl ?_ | refine Ops.bin rfl rfl rfl rfl rfl ?_ | refine Ops.pickF rfl rfl rfl rfl rfl ?_ | refine Cd.block ?_ | refine Cd.skip (Cd.next ?_) | refine Ops.ixa rfl rfl rfl rfl (by omega) (by omega) rfl ?_ | refine Ops.ldR rfl rfl rfl (by apply_assumption) rfl ?_ | refine Cd.condT rfl (by first | rfl | assumption | (simp only [decide_eq_true_eq, decide_eq_false_iff_not, Bool.not_eq_true', Bool.not_eq_false', Bool.not_eq_eq_eq_not, Bool.not_true, Bool.not_false, beq_iff_eq, beq_eq_false_iff_ne, ne_eq, decide_eq_decide, eq_self, true_iff, iff_true, not_true_eq_false, not_false_eq_true]; first | done | omega)) ?_ | refine Cd.condF rfl (by first | rfl | assumption | (simp only [decide_eq_true_eq, decide_eq_false_iff_not, Bool.not_eq_true', Bool.not_eq_false', Bool.not_eq_eq_eq_not, Bool.not_true, Bool.not_false, beq_iff_eq, beq_eq_false_iff_ne, ne_eq, decide_eq_decide, eq_self, true_iff, iff_true, not_true_eq_false, not_false_eq_true]; first | done | omega)) ?_ | ((fail_if_success refine Ops.probe rfl ?_); refine Ops.gF rfl rfl (by first | rfl | assumption | (simp only [decide_eq_true_eq, decide_eq_false_iff_not, Bool.not_eq_true', Bool.not_eq_false', Bool.not_eq_eq_eq_not, Bool.not_true, Bool.not_false, beq_iff_eq, beq_eq_false_iff_ne, ne_eq, decide_eq_decide, eq_self, true_iff, iff_true, not_true_eq_false, not_false_eq_true]; first | done | omega)) ?_))
        refine Cd.draw [(0, 0, []), (1, 0, []), (2, 0, []), (3, 0, []), (4, 1, []), (5, 0, []), (6, 1, []), (7, 0, []), (8, 0, []), (9, 0, []), (10, 0, []), (11, 0, []), (12, 0, []), (13, 1, []), (14, 0, []), (15, 0, []), (16, 0, []), (17, 0, []), (18, 0, []), (19, 0, []), (20, 1, []), (21, 0, []), (22, 0, []), (23, 0, []), (24, 0, []), (25, 0, []), (26, 0, []), (27, 0, []), (28, 1, []), (29, 0, []), (30, 0, []), (31, 0, []), (32, 0, []), (33, 0, []), (34, 0, []), (35, 0, []), (36, 1, []), (37, 0, []), (38, 0, []), (39, 0, []), (40, 0, []), (41, 0, []), (42, 0, []), (43, 0, []), (44, 1, []), (45, 0, []), (46, 0, []), (47, 0, [])] (by kernel_rfl) (by kernel_rfl) (by simp only [picked, nth]; exact rfl) ?_
        repeat' (first | refine Ops.nilN (inB (Cd.next ?_)) | refine Cd.seq ?_ | refine Cd.reg ?_ | refine Ops.nil ?_ | refine Ops.mv rfl rfl rfl rfl ?_ | refine Ops.asg rfl rfl rfl rfl ?_ | refine Ops.fa0 rfl rfl rfl rfl ?_ | refine Ops.fa rfl rfl rfl rfl ?_ | refine Ops.ld1 rfl rfl rfl rfl rfl ?_ | refine Ops.addI rfl rfl rfl rfl (by omega) (by omega) rfl ?_ | refine Ops.bin rfl rfl rfl rfl rfl ?_ | refine Ops.pickT rfl rfl rfl rfl rfl ?_ | refine Ops.pickF rfl rfl rfl rfl rfl ?_ | refine Ops.gSkip rfl rfl rfl ?_ | refine Cd.condT rfl rfl ?_ | refine Ops.ixa rfl rfl rfl rfl (by omega) (by omega) rfl ?_ | refine Ops.ldR rfl rfl rfl (by apply_assumption) rfl ?_ | ((fail_if_success refine Ops.probe rfl ?_); refine Ops.gT rfl rfl (by first | rfl | assumption | (simp only [decide_eq_true_eq, decide_eq_false_iff_not, Bool.not_eq_true', Bool.not_eq_false', Bool.not_eq_eq_eq_not, Bool.not_true, Bool.not_false, beq_iff_eq, beq_eq_false_iff_ne, ne_eq, decide_eq_decide, eq_self, true_iff, iff_true, not_true_eq_false, not_false_eq_true]; first | done | omega)) ?_) | ((fail_if_success refine Ops.probe rfl ?_); refine Ops.gF rfl rfl (by first | rfl | assumption | (simp only [decide_eq_true_eq, decide_eq_false_iff_not, Bool.not_eq_true', Bool.not_eq_false', Bool.not_eq_eq_eq_not, Bool.not_true, Bool.not_false, beq_iff_eq, beq_eq_false_iff_ne, ne_eq, decide_eq_decide, eq_self, true_iff, iff_true, not_true_eq_false, not_false_eq_true]; first | done | omega)) ?_))
        exact Ops.nilN (round_end (i + 1) ⟨by show i + 1 ≤ l.length; omega, hnext q4 q14⟩ (by show l.length - (i + 1) < l.length - i; omega) ⟨rfl, rfl, by show _ = some (Value.int .i64 (topF (l.take (i + 1)))); rw [htop]; rfl, by show _ = some (Value.int .i64 (lastF e.job (l.take (i + 1))).1); rw [hlast]; rfl, by show _ = some (Value.int .i64 (lastF e.job (l.take (i + 1))).2); rw [hlast]; rfl, rfl, trivial⟩ (fun w h => h.split))
      by_cases q9 : x.kind = 9
      · rw [if_pos ⟨hjb, by rw [q9]; rfl⟩] at hlast
        repeat' (first | refine Cd.seq ?_ | refine Cd.reg ?_ | refine Ops.nil ?_ | refine Ops.mv rfl rfl rfl rfl ?_ | refine Ops.fa rfl rfl rfl rfl ?_ | refine Ops.lenS rfl rfl rfl rfl ?_ | refine Ops.bin rfl rfl rfl rfl rfl ?_ | refine Ops.pickF rfl rfl rfl rfl rfl ?_ | refine Cd.block ?_ | refine Cd.skip (Cd.next ?_) | refine Ops.ixa rfl rfl rfl rfl (by omega) (by omega) rfl ?_ | refine Ops.ldR rfl rfl rfl (by apply_assumption) rfl ?_ | refine Cd.condT rfl (by first | rfl | assumption | (simp only [decide_eq_true_eq, decide_eq_false_iff_not, Bool.not_eq_true', Bool.not_eq_false', Bool.not_eq_eq_eq_not, Bool.not_true, Bool.not_false, beq_iff_eq, beq_eq_false_iff_ne, ne_eq, decide_eq_decide, eq_self, true_iff, iff_true, not_true_eq_false, not_false_eq_true]; first | done | omega)) ?_ | refine Cd.condF rfl (by first | rfl | assumption | (simp only [decide_eq_true_eq, decide_eq_false_iff_not, Bool.not_eq_true', Bool.not_eq_false', Bool.not_eq_eq_eq_not, Bool.not_true, Bool.not_false, beq_iff_eq, beq_eq_false_iff_ne, ne_eq, decide_eq_decide, eq_self, true_iff, iff_true, not_true_eq_false, not_false_eq_true]; first | done | omega)) ?_ | ((fail_if_success refine Ops.probe rfl ?_); refine Ops.gF rfl rfl (by first | rfl | assumption | (simp only [decide_eq_true_eq, decide_eq_false_iff_not, Bool.not_eq_true', Bool.not_eq_false', Bool.not_eq_eq_eq_not, Bool.not_true, Bool.not_false, beq_iff_eq, beq_eq_false_iff_ne, ne_eq, decide_eq_decide, eq_self, true_iff, iff_true, not_true_eq_false, not_false_eq_true]; first | done | omega)) ?_))
        refine Cd.draw [(0, 0, []), (1, 0, []), (2, 0, []), (3, 0, []), (4, 1, []), (5, 0, []), (6, 1, []), (7, 0, []), (8, 0, []), (9, 0, []), (10, 0, []), (11, 0, []), (12, 0, []), (13, 1, []), (14, 0, []), (15, 0, []), (16, 0, []), (17, 0, []), (18, 0, []), (19, 0, []), (20, 1, []), (21, 0, []), (22, 0, []), (23, 0, []), (24, 0, []), (25, 0, []), (26, 0, []), (27, 0, []), (28, 1, []), (29, 0, []), (30, 0, []), (31, 0, []), (32, 0, []), (33, 0, []), (34, 0, []), (35, 0, []), (36, 1, []), (37, 0, []), (38, 0, []), (39, 0, []), (40, 0, []), (41, 0, []), (42, 0, []), (43, 0, []), (44, 1, []), (45, 0, []), (46, 0, []), (47, 0, [])] (by kernel_rfl) (by kernel_rfl) (by simp only [picked, nth]; exact rfl) ?_
        repeat' (first | refine Ops.nilN (inB (Cd.next ?_)) | refine Cd.seq ?_ | refine Cd.reg ?_ | refine Ops.nil ?_ | refine Ops.mv rfl rfl rfl rfl ?_ | refine Ops.asg rfl rfl rfl rfl ?_ | refine Ops.fa0 rfl rfl rfl rfl ?_ | refine Ops.fa rfl rfl rfl rfl ?_ | refine Ops.ld1 rfl rfl rfl rfl rfl ?_ | refine Ops.addI rfl rfl rfl rfl (by omega) (by omega) rfl ?_ | refine Ops.bin rfl rfl rfl rfl rfl ?_ | refine Ops.pickT rfl rfl rfl rfl rfl ?_ | refine Ops.pickF rfl rfl rfl rfl rfl ?_ | refine Ops.ixa rfl rfl rfl rfl (by omega) (by omega) rfl ?_ | refine Ops.ldR rfl rfl rfl (by apply_assumption) rfl ?_ | refine Cd.condT rfl (by first | rfl | assumption | (simp only [decide_eq_true_eq, decide_eq_false_iff_not, Bool.not_eq_true', Bool.not_eq_false', Bool.not_eq_eq_eq_not, Bool.not_true, Bool.not_false, beq_iff_eq, beq_eq_false_iff_ne, ne_eq, decide_eq_decide, eq_self, true_iff, iff_true, not_true_eq_false, not_false_eq_true]; first | done | omega)) ?_ | ((fail_if_success refine Ops.probe rfl ?_); refine Ops.gT rfl rfl (by first | rfl | assumption | (simp only [decide_eq_true_eq, decide_eq_false_iff_not, Bool.not_eq_true', Bool.not_eq_false', Bool.not_eq_eq_eq_not, Bool.not_true, Bool.not_false, beq_iff_eq, beq_eq_false_iff_ne, ne_eq, decide_eq_decide, eq_self, true_iff, iff_true, not_true_eq_false, not_false_eq_true]; first | done | omega)) ?_) | ((fail_if_success refine Ops.probe rfl ?_); refine Ops.gF rfl rfl (by first | rfl | assumption | (simp only [decide_eq_true_eq, decide_eq_false_iff_not, Bool.not_eq_true', Bool.not_eq_false', Bool.not_eq_eq_eq_not, Bool.not_true, Bool.not_false, beq_iff_eq, beq_eq_false_iff_ne, ne_eq, decide_eq_decide, eq_self, true_iff, iff_true, not_true_eq_false, not_false_eq_true]; first | done | omega)) ?_))
        exact Ops.nilN (round_end (i + 1) ⟨by show i + 1 ≤ l.length; omega, hnext q4 q14⟩ (by show l.length - (i + 1) < l.length - i; omega) ⟨rfl, rfl, by show _ = some (Value.int .i64 (topF (l.take (i + 1)))); rw [htop]; rfl, by show _ = some (Value.int .i64 (lastF e.job (l.take (i + 1))).1); rw [hlast]; rfl, by show _ = some (Value.int .i64 (lastF e.job (l.take (i + 1))).2); rw [hlast]; rfl, rfl, trivial⟩ (fun w h => h.split))
      rw [if_neg (fun h => by have := h.2; simp only [isJobEv, decide_eq_true_eq] at this; omega)] at hlast
      repeat' (first | refine Cd.seq ?_ | refine Cd.reg ?_ | refine Ops.nil ?_ | refine Ops.mv rfl rfl rfl rfl ?_ | refine Ops.fa rfl rfl rfl rfl ?_ | refine Ops.lenS rfl rfl rfl rfl ?_ | refine Ops.bin rfl rfl rfl rfl rfl ?_ | refine Ops.pickF rfl rfl rfl rfl rfl ?_ | refine Cd.block ?_ | refine Cd.skip (Cd.next ?_) | refine Ops.ixa rfl rfl rfl rfl (by omega) (by omega) rfl ?_ | refine Ops.ldR rfl rfl rfl (by apply_assumption) rfl ?_ | refine Cd.condT rfl (by first | rfl | assumption | (simp only [decide_eq_true_eq, decide_eq_false_iff_not, Bool.not_eq_true', Bool.not_eq_false', Bool.not_eq_eq_eq_not, Bool.not_true, Bool.not_false, beq_iff_eq, beq_eq_false_iff_ne, ne_eq, decide_eq_decide, eq_self, true_iff, iff_true, not_true_eq_false, not_false_eq_true]; first | done | omega)) ?_ | refine Cd.condF rfl (by first | rfl | assumption | (simp only [decide_eq_true_eq, decide_eq_false_iff_not, Bool.not_eq_true', Bool.not_eq_false', Bool.not_eq_eq_eq_not, Bool.not_true, Bool.not_false, beq_iff_eq, beq_eq_false_iff_ne, ne_eq, decide_eq_decide, eq_self, true_iff, iff_true, not_true_eq_false, not_false_eq_true]; first | done | omega)) ?_ | ((fail_if_success refine Ops.probe rfl ?_); refine Ops.gF rfl rfl (by first | rfl | assumption | (simp only [decide_eq_true_eq, decide_eq_false_iff_not, Bool.not_eq_true', Bool.not_eq_false', Bool.not_eq_eq_eq_not, Bool.not_true, Bool.not_false, beq_iff_eq, beq_eq_false_iff_ne, ne_eq, decide_eq_decide, eq_self, true_iff, iff_true, not_true_eq_false, not_false_eq_true]; first | done | omega)) ?_))
      refine Cd.draw [(0, 0, []), (1, 0, []), (2, 0, []), (3, 0, []), (4, 1, []), (5, 0, []), (6, 1, []), (7, 0, []), (8, 0, []), (9, 0, []), (10, 0, []), (11, 0, []), (12, 0, []), (13, 1, []), (14, 0, []), (15, 0, []), (16, 0, []), (17, 0, []), (18, 0, []), (19, 0, []), (20, 1, []), (21, 0, []), (22, 0, []), (23, 0, []), (24, 0, []), (25, 0, []), (26, 0, []), (27, 0, []), (28, 1, []), (29, 0, []), (30, 0, []), (31, 0, []), (32, 0, []), (33, 0, []), (34, 0, []), (35, 0, []), (36, 1, []), (37, 0, []), (38, 0, []), (39, 0, []), (40, 0, []), (41, 0, []), (42, 0, []), (43, 0, []), (44, 1, []), (45, 0, []), (46, 0, []), (47, 0, [])] (by kernel_rfl) (by kernel_rfl) (by simp only [picked, nth]; exact rfl) ?_
      repeat' (first | refine Cd.reg ?_ | refine Ops.nil ?_ | refine Ops.mv rfl rfl rfl rfl ?_ | refine Ops.asg rfl rfl rfl rfl ?_ | refine Ops.fa0 rfl rfl rfl rfl ?_ | refine Ops.fa rfl rfl rfl rfl ?_ | refine Ops.ld1 rfl rfl rfl rfl rfl ?_ | refine Ops.addI rfl rfl rfl rfl (by omega) (by omega) rfl ?_ | refine Ops.bin rfl rfl rfl rfl rfl ?_ | refine Ops.pickT rfl rfl rfl rfl rfl ?_ | refine Ops.pickF rfl rfl rfl rfl rfl ?_ | refine Cd.skip (Cd.next (Q' := fun _ _ _ => True) ?_) | refine Ops.ixa rfl rfl rfl rfl (by omega) (by omega) rfl ?_ | refine Ops.ldR rfl rfl rfl (by apply_assumption) rfl ?_ | refine Cd.condF rfl (by first | rfl | assumption | (simp only [decide_eq_true_eq, decide_eq_false_iff_not, Bool.not_eq_true', Bool.not_eq_false', Bool.not_eq_eq_eq_not, Bool.not_true, Bool.not_false, beq_iff_eq, beq_eq_false_iff_ne, ne_eq, decide_eq_decide, eq_self, true_iff, iff_true, not_true_eq_false, not_false_eq_true]; first | done | omega)) ?_ | ((fail_if_success refine Ops.probe rfl ?_); refine Ops.gT rfl rfl (by first | rfl | assumption | (simp only [decide_eq_true_eq, decide_eq_false_iff_not, Bool.not_eq_true', Bool.not_eq_false', Bool.not_eq_eq_eq_not, Bool.not_true, Bool.not_false, beq_iff_eq, beq_eq_false_iff_ne, ne_eq, decide_eq_decide, eq_self, true_iff, iff_true, not_true_eq_false, not_false_eq_true]; first | done | omega)) ?_) | ((fail_if_success refine Ops.probe rfl ?_); refine Ops.gF rfl rfl (by first | rfl | assumption | (simp only [decide_eq_true_eq, decide_eq_false_iff_not, Bool.not_eq_true', Bool.not_eq_false', Bool.not_eq_eq_eq_not, Bool.not_true, Bool.not_false, beq_iff_eq, beq_eq_false_iff_ne, ne_eq, decide_eq_decide, eq_self, true_iff, iff_true, not_true_eq_false, not_false_eq_true]; first | done | omega)) ?_))
      exact Ops.nilN (round_end (i + 1) ⟨by show i + 1 ≤ l.length; omega, hnext q4 q14⟩ (by show l.length - (i + 1) < l.length - i; omega) ⟨rfl, rfl, by show _ = some (Value.int .i64 (topF (l.take (i + 1)))); rw [htop]; rfl, by show _ = some (Value.int .i64 (lastF e.job (l.take (i + 1))).1); rw [hlast]; rfl, by show _ = some (Value.int .i64 (lastF e.job (l.take (i + 1))).2); rw [hlast]; rfl, rfl, trivial⟩ (fun w h => h.split))
    · rw [if_neg (fun h => hjb h.1)] at hlast
      repeat' (first | refine Cd.seq ?_ | refine Cd.reg ?_ | refine Ops.nil ?_ | refine Ops.mv rfl rfl rfl rfl ?_ | refine Ops.fa rfl rfl rfl rfl ?_ | refine Ops.lenS rfl rfl rfl rfl ?_ | refine Ops.bin rfl rfl rfl rfl rfl ?_ | refine Ops.pickF rfl rfl rfl rfl rfl ?_ | refine Cd.block ?_ | refine Cd.skip (Cd.next ?_) | refine Ops.ixa rfl rfl rfl rfl (by omega) (by omega) rfl ?_ | refine Ops.ldR rfl rfl rfl (by apply_assumption) rfl ?_ | refine Cd.condT rfl (by first | rfl | assumption | (simp only [decide_eq_true_eq, decide_eq_false_iff_not, Bool.not_eq_true', Bool.not_eq_false', Bool.not_eq_eq_eq_not, Bool.not_true, Bool.not_false, beq_iff_eq, beq_eq_false_iff_ne, ne_eq, decide_eq_decide, eq_self, true_iff, iff_true, not_true_eq_false, not_false_eq_true]; first | done | omega)) ?_ | refine Cd.condF rfl (by first | rfl | assumption | (simp only [decide_eq_true_eq, decide_eq_false_iff_not, Bool.not_eq_true', Bool.not_eq_false', Bool.not_eq_eq_eq_not, Bool.not_true, Bool.not_false, beq_iff_eq, beq_eq_false_iff_ne, ne_eq, decide_eq_decide, eq_self, true_iff, iff_true, not_true_eq_false, not_false_eq_true]; first | done | omega)) ?_ | ((fail_if_success refine Ops.probe rfl ?_); refine Ops.gF rfl rfl (by first | rfl | assumption | (simp only [decide_eq_true_eq, decide_eq_false_iff_not, Bool.not_eq_true', Bool.not_eq_false', Bool.not_eq_eq_eq_not, Bool.not_true, Bool.not_false, beq_iff_eq, beq_eq_false_iff_ne, ne_eq, decide_eq_decide, eq_self, true_iff, iff_true, not_true_eq_false, not_false_eq_true]; first | done | omega)) ?_))
      refine Cd.draw [(0, 0, []), (1, 0, []), (2, 0, []), (3, 0, []), (4, 1, []), (5, 0, []), (6, 1, []), (7, 0, []), (8, 0, []), (9, 0, []), (10, 0, []), (11, 0, []), (12, 0, []), (13, 1, []), (14, 0, []), (15, 0, []), (16, 0, []), (17, 0, []), (18, 0, []), (19, 0, []), (20, 1, []), (21, 0, []), (22, 0, []), (23, 0, []), (24, 0, []), (25, 0, []), (26, 0, []), (27, 0, []), (28, 1, []), (29, 0, []), (30, 0, []), (31, 0, []), (32, 0, []), (33, 0, []), (34, 0, []), (35, 0, []), (36, 1, []), (37, 0, []), (38, 0, []), (39, 0, []), (40, 0, []), (41, 0, []), (42, 0, []), (43, 0, []), (44, 1, []), (45, 0, []), (46, 0, []), (47, 0, [])] (by kernel_rfl) (by kernel_rfl) (by simp only [picked, nth]; exact rfl) ?_
      repeat' (first | refine Cd.reg ?_ | refine Ops.nil ?_ | refine Ops.mv rfl rfl rfl rfl ?_ | refine Ops.asg rfl rfl rfl rfl ?_ | refine Ops.fa0 rfl rfl rfl rfl ?_ | refine Ops.fa rfl rfl rfl rfl ?_ | refine Ops.ld1 rfl rfl rfl rfl rfl ?_ | refine Ops.addI rfl rfl rfl rfl (by omega) (by omega) rfl ?_ | refine Ops.bin rfl rfl rfl rfl rfl ?_ | refine Ops.pickF rfl rfl rfl rfl rfl ?_ | refine Ops.gSkip rfl rfl rfl ?_ | refine Ops.gSkipU rfl rfl rfl rfl ?_ | refine Cd.condF rfl rfl ?_ | refine Cd.skip (Cd.next (Q' := fun _ _ _ => True) ?_) | refine Ops.ixa rfl rfl rfl rfl (by omega) (by omega) rfl ?_ | refine Ops.ldR rfl rfl rfl (by apply_assumption) rfl ?_ | ((fail_if_success refine Ops.probe rfl ?_); refine Ops.gF rfl rfl (by first | rfl | assumption | (simp only [decide_eq_true_eq, decide_eq_false_iff_not, Bool.not_eq_true', Bool.not_eq_false', Bool.not_eq_eq_eq_not, Bool.not_true, Bool.not_false, beq_iff_eq, beq_eq_false_iff_ne, ne_eq, decide_eq_decide, eq_self, true_iff, iff_true, not_true_eq_false, not_false_eq_true]; first | done | omega)) ?_))
      exact Ops.nilN (round_end (i + 1) ⟨by show i + 1 ≤ l.length; omega, hnext q4 q14⟩ (by show l.length - (i + 1) < l.length - i; omega) ⟨rfl, rfl, by show _ = some (Value.int .i64 (topF (l.take (i + 1)))); rw [htop]; rfl, by show _ = some (Value.int .i64 (lastF e.job (l.take (i + 1))).1); rw [hlast]; rfl, by show _ = some (Value.int .i64 (lastF e.job (l.take (i + 1))).2); rw [hlast]; rfl, rfl, trivial⟩ (fun w h => h.split))
  · obtain rfl : i = l.length := by omega
    have hil' : ¬ ((l.length : Nat) : Int) < l.length := by omega
    rw [List.take_length] at hks ⊢
    repeat' (first | refine Cd.seq ?_ | refine Cd.reg ?_ | refine Ops.nil ?_ | refine Ops.mv rfl rfl rfl rfl ?_ | refine Ops.lenS rfl rfl rfl rfl ?_ | refine Ops.bin rfl rfl rfl rfl rfl ?_ | refine Cd.exit (Cd.next (Q' := fun _ _ _ => True) ?_) | refine Cd.condF rfl (by first | rfl | assumption | (simp only [decide_eq_true_eq, decide_eq_false_iff_not, Bool.not_eq_true', Bool.not_eq_false', Bool.not_eq_eq_eq_not, Bool.not_true, Bool.not_false, beq_iff_eq, beq_eq_false_iff_ne, ne_eq, decide_eq_decide, eq_self, true_iff, iff_true, not_true_eq_false, not_false_eq_true]; first | done | omega)) ?_)
    subst hc15
    refine Cd.cut (σ := Unit) (fun _ => True) (fun _ => [(0, .slice sa l.length cap), (3, ptr be), (8, .int .i64 (topF l)), (9, .int .i64 (lastF e.job l).1), (12, .bool (decide ((lastF e.job l).1 = 5 ∧ (lastF e.job l).2 = e.badge)))]) (fun _ => (be, cl e.row 39) :: A') ?_ (fun _ _ => ?_)
    · by_cases a1 : (lastF e.job l).1 = 5
      · by_cases a2 : (lastF e.job l).2 = e.badge
        · repeat' (first | refine Cd.reg ?_ | refine Ops.mv rfl rfl rfl rfl ?_ | refine Ops.asg rfl rfl rfl rfl ?_ | refine Ops.fa0 rfl rfl rfl rfl ?_ | refine Ops.ld1 rfl rfl rfl rfl rfl ?_ | refine Ops.bin rfl rfl rfl rfl rfl ?_ | refine Ops.pickT rfl rfl rfl rfl rfl ?_ | ((fail_if_success refine Ops.probe rfl ?_); refine Ops.gT rfl rfl (by first | rfl | assumption | (simp only [decide_eq_true_eq, decide_eq_false_iff_not, Bool.not_eq_true', Bool.not_eq_false', Bool.not_eq_eq_eq_not, Bool.not_true, Bool.not_false, beq_iff_eq, beq_eq_false_iff_ne, ne_eq, decide_eq_decide, eq_self, true_iff, iff_true, not_true_eq_false, not_false_eq_true]; first | done | omega)) ?_))
          exact Ops.nilN (meet_end (Q := fun _ _ _ => True) () trivial ⟨rfl, rfl, rfl, rfl, sbool (by simp [a1, a2]), trivial⟩ (fun w h => h.split))
        · repeat' (first | refine Cd.reg ?_ | refine Ops.mv rfl rfl rfl rfl ?_ | refine Ops.asg rfl rfl rfl rfl ?_ | refine Ops.fa0 rfl rfl rfl rfl ?_ | refine Ops.ld1 rfl rfl rfl rfl rfl ?_ | refine Ops.bin rfl rfl rfl rfl rfl ?_ | refine Ops.pickT rfl rfl rfl rfl rfl ?_ | ((fail_if_success refine Ops.probe rfl ?_); refine Ops.gT rfl rfl (by first | rfl | assumption | (simp only [decide_eq_true_eq, decide_eq_false_iff_not, Bool.not_eq_true', Bool.not_eq_false', Bool.not_eq_eq_eq_not, Bool.not_true, Bool.not_false, beq_iff_eq, beq_eq_false_iff_ne, ne_eq, decide_eq_decide, eq_self, true_iff, iff_true, not_true_eq_false, not_false_eq_true]; first | done | omega)) ?_))
          exact Ops.nilN (meet_end (Q := fun _ _ _ => True) () trivial ⟨rfl, rfl, rfl, rfl, sbool (by simp [a1, a2]), trivial⟩ (fun w h => h.split))
      · repeat' (first | refine Cd.reg ?_ | refine Ops.mv rfl rfl rfl rfl ?_ | refine Ops.asg rfl rfl rfl rfl ?_ | refine Ops.bin rfl rfl rfl rfl rfl ?_ | refine Ops.pickF rfl rfl rfl rfl rfl ?_ | refine Ops.gSkip rfl rfl rfl ?_ | ((fail_if_success refine Ops.probe rfl ?_); refine Ops.gF rfl rfl (by first | rfl | assumption | (simp only [decide_eq_true_eq, decide_eq_false_iff_not, Bool.not_eq_true', Bool.not_eq_false', Bool.not_eq_eq_eq_not, Bool.not_true, Bool.not_false, beq_iff_eq, beq_eq_false_iff_ne, ne_eq, decide_eq_decide, eq_self, true_iff, iff_true, not_true_eq_false, not_false_eq_true]; first | done | omega)) ?_))
        exact Ops.nilN (meet_end (Q := fun _ _ _ => True) () trivial ⟨rfl, rfl, rfl, rfl, sbool (by simp [a1]), trivial⟩ (fun w h => h.split))
    refine Cd.cut (σ := Unit) (fun _ => e.kind = 5 ∨ e.kind = 6 ∨ e.kind = 7) (fun _ => [(0, .slice sa l.length cap), (3, ptr be), (12, .bool (fineF l e))]) (fun _ => (be, cl e.row 39) :: A') ?_ (fun _ hek => ?_)
    · by_cases k5 : e.kind = 5
      · have hfe : fineF l e = decide (((lastF e.job l).1 = 2 ∨ (lastF e.job l).1 = 6) ∧ topF l < e.badge) := by unfold fineF; rw [if_pos k5]
        rw [hfe]
        by_cases b2 : (lastF e.job l).1 = 2
        · by_cases b3 : topF l < e.badge
          · repeat' (first | refine Cd.seq ?_ | refine Cd.reg ?_ | refine Ops.nil ?_ | refine Ops.mv rfl rfl rfl rfl ?_ | refine Ops.asg rfl rfl rfl rfl ?_ | refine Ops.fa0 rfl rfl rfl rfl ?_ | refine Ops.ld1 rfl rfl rfl rfl rfl ?_ | refine Ops.bin rfl rfl rfl rfl rfl ?_ | refine Ops.pickT rfl rfl rfl rfl rfl ?_ | refine Ops.gSkip rfl rfl rfl ?_ | refine Cd.block ?_ | refine Cd.condT rfl (by first | rfl | assumption | (simp only [decide_eq_true_eq, decide_eq_false_iff_not, Bool.not_eq_true', Bool.not_eq_false', Bool.not_eq_eq_eq_not, Bool.not_true, Bool.not_false, beq_iff_eq, beq_eq_false_iff_ne, ne_eq, decide_eq_decide, eq_self, true_iff, iff_true, not_true_eq_false, not_false_eq_true]; first | done | omega)) ?_ | ((fail_if_success refine Ops.probe rfl ?_); refine Ops.gT rfl rfl (by first | rfl | assumption | (simp only [decide_eq_true_eq, decide_eq_false_iff_not, Bool.not_eq_true', Bool.not_eq_false', Bool.not_eq_eq_eq_not, Bool.not_true, Bool.not_false, beq_iff_eq, beq_eq_false_iff_ne, ne_eq, decide_eq_decide, eq_self, true_iff, iff_true, not_true_eq_false, not_false_eq_true]; first | done | omega)) ?_))
            exact Ops.nilN (inB (meet_end (Q := fun _ _ _ => True) () (.inl k5) ⟨rfl, rfl, sbool (by simp [b2, b3]), trivial⟩ (fun w h => h.split)))
          · repeat' (first | refine Cd.seq ?_ | refine Cd.reg ?_ | refine Ops.nil ?_ | refine Ops.mv rfl rfl rfl rfl ?_ | refine Ops.asg rfl rfl rfl rfl ?_ | refine Ops.fa0 rfl rfl rfl rfl ?_ | refine Ops.ld1 rfl rfl rfl rfl rfl ?_ | refine Ops.bin rfl rfl rfl rfl rfl ?_ | refine Ops.pickT rfl rfl rfl rfl rfl ?_ | refine Ops.gSkip rfl rfl rfl ?_ | refine Cd.block ?_ | refine Cd.condT rfl (by first | rfl | assumption | (simp only [decide_eq_true_eq, decide_eq_false_iff_not, Bool.not_eq_true', Bool.not_eq_false', Bool.not_eq_eq_eq_not, Bool.not_true, Bool.not_false, beq_iff_eq, beq_eq_false_iff_ne, ne_eq, decide_eq_decide, eq_self, true_iff, iff_true, not_true_eq_false, not_false_eq_true]; first | done | omega)) ?_ | ((fail_if_success refine Ops.probe rfl ?_); refine Ops.gT rfl rfl (by first | rfl | assumption | (simp only [decide_eq_true_eq, decide_eq_false_iff_not, Bool.not_eq_true', Bool.not_eq_false', Bool.not_eq_eq_eq_not, Bool.not_true, Bool.not_false, beq_iff_eq, beq_eq_false_iff_ne, ne_eq, decide_eq_decide, eq_self, true_iff, iff_true, not_true_eq_false, not_false_eq_true]; first | done | omega)) ?_))
            exact Ops.nilN (inB (meet_end (Q := fun _ _ _ => True) () (.inl k5) ⟨rfl, rfl, sbool (by simp [b2, b3]), trivial⟩ (fun w h => h.split)))
        · by_cases b6 : (lastF e.job l).1 = 6
          · by_cases b3 : topF l < e.badge
            · repeat' (first | refine Cd.seq ?_ | refine Cd.reg ?_ | refine Ops.nil ?_ | refine Ops.mv rfl rfl rfl rfl ?_ | refine Ops.asg rfl rfl rfl rfl ?_ | refine Ops.fa0 rfl rfl rfl rfl ?_ | refine Ops.ld1 rfl rfl rfl rfl rfl ?_ | refine Ops.bin rfl rfl rfl rfl rfl ?_ | refine Ops.pickT rfl rfl rfl rfl rfl ?_ | refine Ops.pickF rfl rfl rfl rfl rfl ?_ | refine Cd.block ?_ | refine Cd.condT rfl (by first | rfl | assumption | (simp only [decide_eq_true_eq, decide_eq_false_iff_not, Bool.not_eq_true', Bool.not_eq_false', Bool.not_eq_eq_eq_not, Bool.not_true, Bool.not_false, beq_iff_eq, beq_eq_false_iff_ne, ne_eq, decide_eq_decide, eq_self, true_iff, iff_true, not_true_eq_false, not_false_eq_true]; first | done | omega)) ?_ | ((fail_if_success refine Ops.probe rfl ?_); refine Ops.gT rfl rfl (by first | rfl | assumption | (simp only [decide_eq_true_eq, decide_eq_false_iff_not, Bool.not_eq_true', Bool.not_eq_false', Bool.not_eq_eq_eq_not, Bool.not_true, Bool.not_false, beq_iff_eq, beq_eq_false_iff_ne, ne_eq, decide_eq_decide, eq_self, true_iff, iff_true, not_true_eq_false, not_false_eq_true]; first | done | omega)) ?_) | ((fail_if_success refine Ops.probe rfl ?_); refine Ops.gF rfl rfl (by first | rfl | assumption | (simp only [decide_eq_true_eq, decide_eq_false_iff_not, Bool.not_eq_true', Bool.not_eq_false', Bool.not_eq_eq_eq_not, Bool.not_true, Bool.not_false, beq_iff_eq, beq_eq_false_iff_ne, ne_eq, decide_eq_decide, eq_self, true_iff, iff_true, not_true_eq_false, not_false_eq_true]; first | done | omega)) ?_))
              exact Ops.nilN (inB (meet_end (Q := fun _ _ _ => True) () (.inl k5) ⟨rfl, rfl, sbool (by simp [b2, b6, b3]), trivial⟩ (fun w h => h.split)))
            · repeat' (first | refine Cd.seq ?_ | refine Cd.reg ?_ | refine Ops.nil ?_ | refine Ops.mv rfl rfl rfl rfl ?_ | refine Ops.asg rfl rfl rfl rfl ?_ | refine Ops.fa0 rfl rfl rfl rfl ?_ | refine Ops.ld1 rfl rfl rfl rfl rfl ?_ | refine Ops.bin rfl rfl rfl rfl rfl ?_ | refine Ops.pickT rfl rfl rfl rfl rfl ?_ | refine Ops.pickF rfl rfl rfl rfl rfl ?_ | refine Cd.block ?_ | refine Cd.condT rfl (by first | rfl | assumption | (simp only [decide_eq_true_eq, decide_eq_false_iff_not, Bool.not_eq_true', Bool.not_eq_false', Bool.not_eq_eq_eq_not, Bool.not_true, Bool.not_false, beq_iff_eq, beq_eq_false_iff_ne, ne_eq, decide_eq_decide, eq_self, true_iff, iff_true, not_true_eq_false, not_false_eq_true]; first | done | omega)) ?_ | ((fail_if_success refine Ops.probe rfl ?_); refine Ops.gT rfl rfl (by first | rfl | assumption | (simp only [decide_eq_true_eq, decide_eq_false_iff_not, Bool.not_eq_true', Bool.not_eq_false', Bool.not_eq_eq_eq_not, Bool.not_true, Bool.not_false, beq_iff_eq, beq_eq_false_iff_ne, ne_eq, decide_eq_decide, eq_self, true_iff, iff_true, not_true_eq_false, not_false_eq_true]; first | done | omega)) ?_) | ((fail_if_success refine Ops.probe rfl ?_); refine Ops.gF rfl rfl (by first | rfl | assumption | (simp only [decide_eq_true_eq, decide_eq_false_iff_not, Bool.not_eq_true', Bool.not_eq_false', Bool.not_eq_eq_eq_not, Bool.not_true, Bool.not_false, beq_iff_eq, beq_eq_false_iff_ne, ne_eq, decide_eq_decide, eq_self, true_iff, iff_true, not_true_eq_false, not_false_eq_true]; first | done | omega)) ?_))
              exact Ops.nilN (inB (meet_end (Q := fun _ _ _ => True) () (.inl k5) ⟨rfl, rfl, sbool (by simp [b2, b6, b3]), trivial⟩ (fun w h => h.split)))
          · repeat' (first | refine Cd.seq ?_ | refine Cd.reg ?_ | refine Ops.nil ?_ | refine Ops.mv rfl rfl rfl rfl ?_ | refine Ops.asg rfl rfl rfl rfl ?_ | refine Ops.fa0 rfl rfl rfl rfl ?_ | refine Ops.ld1 rfl rfl rfl rfl rfl ?_ | refine Ops.bin rfl rfl rfl rfl rfl ?_ | refine Ops.pickF rfl rfl rfl rfl rfl ?_ | refine Ops.gSkip rfl rfl rfl ?_ | refine Cd.block ?_ | refine Cd.condT rfl (by first | rfl | assumption | (simp only [decide_eq_true_eq, decide_eq_false_iff_not, Bool.not_eq_true', Bool.not_eq_false', Bool.not_eq_eq_eq_not, Bool.not_true, Bool.not_false, beq_iff_eq, beq_eq_false_iff_ne, ne_eq, decide_eq_decide, eq_self, true_iff, iff_true, not_true_eq_false, not_false_eq_true]; first | done | omega)) ?_ | ((fail_if_success refine Ops.probe rfl ?_); refine Ops.gF rfl rfl (by first | rfl | assumption | (simp only [decide_eq_true_eq, decide_eq_false_iff_not, Bool.not_eq_true', Bool.not_eq_false', Bool.not_eq_eq_eq_not, Bool.not_true, Bool.not_false, beq_iff_eq, beq_eq_false_iff_ne, ne_eq, decide_eq_decide, eq_self, true_iff, iff_true, not_true_eq_false, not_false_eq_true]; first | done | omega)) ?_))
            exact Ops.nilN (inB (meet_end (Q := fun _ _ _ => True) () (.inl k5) ⟨rfl, rfl, sbool (by simp [b2, b6]), trivial⟩ (fun w h => h.split)))
      · have hfe : fineF l e = decide ((lastF e.job l).1 = 5 ∧ (lastF e.job l).2 = e.badge) := by unfold fineF; rw [if_neg k5]
        rw [← hfe]
        by_cases k6 : e.kind = 6
        · repeat' (first | refine Cd.seq ?_ | refine Cd.reg ?_ | refine Ops.nil ?_ | refine Ops.asg rfl rfl rfl rfl ?_ | refine Ops.fa0 rfl rfl rfl rfl ?_ | refine Ops.ld1 rfl rfl rfl rfl rfl ?_ | refine Ops.bin rfl rfl rfl rfl rfl ?_ | refine Cd.block ?_ | refine Cd.skip (Cd.next ?_) | refine Cd.condT rfl (by first | rfl | assumption | (simp only [decide_eq_true_eq, decide_eq_false_iff_not, Bool.not_eq_true', Bool.not_eq_false', Bool.not_eq_eq_eq_not, Bool.not_true, Bool.not_false, beq_iff_eq, beq_eq_false_iff_ne, ne_eq, decide_eq_decide, eq_self, true_iff, iff_true, not_true_eq_false, not_false_eq_true]; first | done | omega)) ?_ | refine Cd.condF rfl (by first | rfl | assumption | (simp only [decide_eq_true_eq, decide_eq_false_iff_not, Bool.not_eq_true', Bool.not_eq_false', Bool.not_eq_eq_eq_not, Bool.not_true, Bool.not_false, beq_iff_eq, beq_eq_false_iff_ne, ne_eq, decide_eq_decide, eq_self, true_iff, iff_true, not_true_eq_false, not_false_eq_true]; first | done | omega)) ?_)
          exact Cd.skip (inB (meet_end (Q := fun _ _ _ => True) () (.inr (.inl k6)) ⟨rfl, rfl, rfl, trivial⟩ (fun w h => h.split)))
        · by_cases k7 : e.kind = 7
          · repeat' (first | refine Cd.seq ?_ | refine Cd.reg ?_ | refine Ops.nil ?_ | refine Ops.asg rfl rfl rfl rfl ?_ | refine Ops.fa0 rfl rfl rfl rfl ?_ | refine Ops.ld1 rfl rfl rfl rfl rfl ?_ | refine Ops.bin rfl rfl rfl rfl rfl ?_ | refine Cd.block ?_ | refine Cd.condT rfl (by first | rfl | assumption | (simp only [decide_eq_true_eq, decide_eq_false_iff_not, Bool.not_eq_true', Bool.not_eq_false', Bool.not_eq_eq_eq_not, Bool.not_true, Bool.not_false, beq_iff_eq, beq_eq_false_iff_ne, ne_eq, decide_eq_decide, eq_self, true_iff, iff_true, not_true_eq_false, not_false_eq_true]; first | done | omega)) ?_ | refine Cd.condF rfl (by first | rfl | assumption | (simp only [decide_eq_true_eq, decide_eq_false_iff_not, Bool.not_eq_true', Bool.not_eq_false', Bool.not_eq_eq_eq_not, Bool.not_true, Bool.not_false, beq_iff_eq, beq_eq_false_iff_ne, ne_eq, decide_eq_decide, eq_self, true_iff, iff_true, not_true_eq_false, not_false_eq_true]; first | done | omega)) ?_)
            exact Cd.skip (inB (meet_end (Q := fun _ _ _ => True) () (.inr (.inr k7)) ⟨rfl, rfl, rfl, trivial⟩ (fun w h => h.split)))
          · skip
            repeat' (first | refine Cd.seq ?_ | refine Cd.reg ?_ | refine Ops.nil ?_ | refine Ops.asg rfl rfl rfl rfl ?_ | refine Ops.fa0 rfl rfl rfl rfl ?_ | refine Ops.ld1 rfl rfl rfl rfl rfl ?_ | refine Ops.bin rfl rfl rfl rfl rfl ?_ | refine Cd.block ?_ | refine Cd.condF rfl (by first | rfl | assumption | (simp only [decide_eq_true_eq, decide_eq_false_iff_not, Bool.not_eq_true', Bool.not_eq_false', Bool.not_eq_eq_eq_not, Bool.not_true, Bool.not_false, beq_iff_eq, beq_eq_false_iff_ne, ne_eq, decide_eq_decide, eq_self, true_iff, iff_true, not_true_eq_false, not_false_eq_true]; first | done | omega)) ?_)
            refine Ops.call fixed_spec rfl (noPd rfl) rfl rfl rfl (fun v A2 hR => ?_)
            obtain ⟨rfl, rfl⟩ := hR
            repeat' (first | refine Ops.nil ?_ | refine Ops.asg rfl rfl rfl rfl ?_)
            exact Cd.ret (ret1 (A' := []) rfl (Res.tmp rfl) (fun _ h => h.split) rfl)
    obtain ⟨r, hr, hrf, hat⟩ := allF_judge hall hks hek (by omega) (by omega) hne
    have hlen := (allF_ok hall).1
    have hLs : ∀ (a : Option Addr) (B0 : Base), Ext (baseOf w) B0 → VIn B0 a (l ++ [e]) → LsOk B0 a (l ++ [e]) := fun a B0 hx hv => ⟨hv, fun x hm => by
      rcases List.mem_append.1 hm with hm | hm
      · exact (hL.sin x hm).ext hx
      · obtain rfl := List.mem_singleton.1 hm; exact hsin.ext hx, fun x hm => by
      rcases List.mem_append.1 hm with hm | hm
      · exact hL.cap x hm
      · obtain rfl := List.mem_singleton.1 hm; exact htc, by simp only [totT, List.map_append, List.map_cons, List.map_nil, List.sum_append, List.sum_cons, List.sum_nil] at htt ⊢; omega, by rw [List.length_append, List.length_singleton]; omega⟩
    have hat' : fineF l e = false → (r.headD (0, 0)).2 = l.length := fun hf => hat (by rw [hf, decide_eq_false_iff_not] at hrf; exact hrf)
    have hfi : ∀ (B0 : Base) (a : Option Addr) (c : Nat), Ext (baseOf w) B0 → VIn B0 a (l ++ [e]) → ConB Try.prog B0 10 #[.slice a (l ++ [e]).length c] [] fun v A => v = .tuple #[.agg (frow (r.headD (0, 0))).toArray, .bool (!fineF l e), .int .i64 0] := fun B0 a c hx hv => by
      have := first_spec B0 a c (l ++ [e]) (hLs a B0 hx hv)
      rw [hr] at this
      dsimp only at this
      rwa [hrf] at this
    have hrl : ∀ A, Reads Try.prog (baseOf w) A 13 (.slice sa l.length cap) (l.map Ev.row) := fun A => hL.vin.reads cap A
    have hlm : (l.map Ev.row).length = l.length := List.length_map _
    generalize r.headD (0, 0) = fh at hat' hfi
    generalize fineF l e = fv at hat' hfi ⊢
    refine Cd.cut (σ := Nat) (fun _ => True) (fun b => [(0, .slice sa l.length cap), (12, .bool fv), (6, .bool (!fv)), (13, ptr b), (14, .int .i64 0)]) (fun b => [(b, cl (frow fh) 30)]) ?_ (fun b13 _ => ?_)
    · refine Cd.draw [(1, 0, []), (3, 1, []), (0, 4, [3]), (2, 4, [3]), (4, 4, []), (5, 4, []), (6, 4, []), (7, 0, []), (8, 0, []), (9, 0, []), (10, 0, []), (11, 2, []), (12, 2, []), (13, 0, []), (14, 0, [])] (by kernel_rfl) (by kernel_rfl) (by simp only [picked, nth]; exact rfl) ?_
      repeat' (first | refine Ops.mv rfl rfl rfl rfl ?_ | refine Ops.ldN rfl rfl rfl rfl ?_)
      refine Ops.fork3 [(1, 0, []), (3, 1, []), (4, 4, []), (0, 4, []), (2, 4, []), (5, 4, []), (6, 4, []), (7, 0, []), (8, 0, []), (9, 0, []), (10, 0, []), (11, 2, []), (12, 2, []), (13, 0, []), (14, 0, [])] [(1, 0, []), (3, 1, []), (11, 4, [3]), (0, 4, [3]), (2, 4, [3]), (4, 2, []), (5, 2, []), (6, 2, []), (7, 0, []), (8, 0, []), (9, 0, []), (10, 0, []), (12, 2, []), (13, 0, []), (14, 0, [])] (by kernel_rfl) (by kernel_rfl) (by kernel_rfl) rfl (by simp only [picked, nth]; exact rfl) rfl (by simp only [picked, nth]; exact rfl) ?_ ?_ ?_
      · skip
        repeat' (first | refine Ops.bs0 rfl rfl rfl (by first | exact noPd rfl | (intro v A' hR i hi; obtain ⟨b, rfl, rfl⟩ := hR; (repeat (rcases List.mem_cons.1 hi with rfl | hi; · (first | exact Still.ld1 rfl rfl rfl rfl rfl | exact Still.ldN rfl rfl rfl rfl | exact Still.len rfl rfl rfl rfl rfl | exact Still.skip rfl rfl rfl | exact Still.ldRow1 rfl rfl rfl (by assumption) (by assumption) rfl rfl | exact Still.ldR rfl rfl rfl (by apply_assumption) rfl))); cases hi)) (fun b => ?_))
        refine Ops.fork3 [(1, 0, []), (3, 1, []), (0, 4, [3]), (4, 4, []), (2, 4, []), (5, 4, []), (6, 4, []), (7, 0, []), (8, 0, []), (9, 0, []), (10, 0, []), (11, 2, []), (12, 2, []), (13, 0, []), (14, 0, [])] [(1, 0, []), (3, 1, []), (0, 4, [3]), (11, 4, [3]), (2, 4, [3]), (4, 2, []), (5, 2, []), (6, 2, []), (7, 0, []), (8, 0, []), (9, 0, []), (10, 0, []), (12, 2, []), (13, 0, []), (14, 0, [])] (by kernel_rfl) (by kernel_rfl) (by kernel_rfl) rfl (by simp only [picked, nth]; exact rfl) rfl (by simp only [picked, nth]; exact rfl) ?_ ?_ ?_
        · skip
          skip
          refine Ops.appS (rows := []) (news := l.map Ev.row) Own.empty (hrl _) (by rw [hlm, List.length_nil]; omega) (by rw [hlm, List.length_nil]; omega) rfl rfl rfl rfl rfl (by first | exact noPd rfl | (intro v A' hR i hi; obtain ⟨G2, hR, rfl⟩ := hR; (repeat (rcases List.mem_cons.1 hi with rfl | hi; · (first | exact Still.ld1 rfl rfl rfl rfl rfl | exact Still.ldN rfl rfl rfl rfl | exact Still.len rfl rfl rfl rfl rfl | exact Still.skip rfl rfl rfl | exact Still.ldRow1 rfl rfl rfl (by assumption) (by assumption) rfl rfl | exact Still.ldR rfl rfl rfl (by apply_assumption) rfl))); cases hi)) rfl (fun v G1 hG1 => ?_)
          obtain ⟨a1, c1, rfl⟩ := hG1.form
          rw [List.nil_append] at hG1 ⊢
          skip
          refine Ops.fork' [(1, 0, []), (3, 1, []), (0, 4, [3]), (2, 4, [3]), (11, 4, [3]), (4, 2, []), (5, 2, []), (6, 2, []), (7, 0, []), (8, 0, []), (9, 0, []), (10, 0, []), (12, 2, []), (13, 0, []), (14, 0, [])] (by kernel_rfl) rfl (by simp only [picked, nth]; exact rfl) ?_ ?_
          · skip
            repeat' (first | refine Ops.bs1 rfl rfl rfl rfl rfl rfl rfl (by first | exact noPd rfl | (intro v A' hR i hi; obtain ⟨b, rfl, rfl⟩ := hR; (repeat (rcases List.mem_cons.1 hi with rfl | hi; · (first | exact Still.ld1 rfl rfl rfl rfl rfl | exact Still.ldN rfl rfl rfl rfl | exact Still.len rfl rfl rfl rfl rfl | exact Still.skip rfl rfl rfl | exact Still.ldRow1 rfl rfl rfl (by assumption) (by assumption) rfl rfl | exact Still.ldR rfl rfl rfl (by apply_assumption) rfl))); cases hi)) (fun b => ?_))
            refine Ops.fork' [(1, 0, []), (3, 1, []), (0, 4, [3]), (2, 4, [3]), (4, 4, []), (11, 4, []), (5, 2, []), (6, 2, []), (7, 0, []), (8, 0, []), (9, 0, []), (10, 0, []), (12, 2, []), (13, 0, []), (14, 0, [])] (by kernel_rfl) rfl (by simp only [picked, nth]; exact rfl) ?_ ?_
            · skip
              skip
              refine Ops.app1 (rows := l.map Ev.row) hG1 (by rw [hlm]; omega) (by rw [hlm]; omega) rfl rfl rfl rfl (by rfl) (by rfl) rfl (noPd rfl) rfl (fun v G2 hG2 => ?_)
              have hO : OwnV v (l ++ [e]) G2 := by
                unfold OwnV
                rw [List.map_append]
                exact hG2
              clear hG2
              obtain ⟨a3, c3, rfl⟩ := hO.form
              skip
              refine Ops.fork' [(1, 0, []), (3, 1, []), (0, 4, [3]), (2, 4, [3]), (4, 4, []), (5, 4, []), (11, 4, []), (6, 2, []), (7, 0, []), (8, 0, []), (9, 0, []), (10, 0, []), (12, 2, []), (13, 0, []), (14, 0, [])] (by kernel_rfl) rfl (by simp only [picked, nth]; exact rfl) ?_ ?_
              · skip
                skip
                have hcon := ConB.lend (P := Try.prog) (B1 := baseOf w) (G := G2) fun B0 hx0 hG => hfi B0 a3 c3 hx0 (hO.vin hG)
                have hcon : ConB Try.prog (baseOf w) 10 _ G2 _ := hcon
                refine Ops.callB hcon (Ext.refl _) rfl (noPd rfl) rfl rfl rfl (fun v A2 hR => ?_)
                obtain ⟨A3, rfl, rfl⟩ := hR
                repeat' (first | refine Ops.mv rfl rfl rfl rfl ?_ | refine Ops.asg rfl rfl rfl rfl ?_ | refine Ops.ext rfl rfl rfl rfl rfl ?_ | refine Ops.alloc rfl rfl rfl (by first | exact noPd rfl | (intro v A' hR i hi; obtain ⟨b, rfl, rfl⟩ := hR; (repeat (rcases List.mem_cons.1 hi with rfl | hi; · (first | exact Still.ld1 rfl rfl rfl rfl rfl | exact Still.ldN rfl rfl rfl rfl | exact Still.len rfl rfl rfl rfl rfl | exact Still.skip rfl rfl rfl | exact Still.ldRow1 rfl rfl rfl (by assumption) (by assumption) rfl rfl | exact Still.ldR rfl rfl rfl (by apply_assumption) rfl))); cases hi)) (fun b => ?_) | refine Ops.stN rfl rfl rfl rfl rfl rfl (by first | exact noPd rfl | (intro v A' hR i hi; obtain rfl := hR; (repeat (rcases List.mem_cons.1 hi with rfl | hi; · (first | exact Still.ld1 rfl rfl rfl rfl rfl | exact Still.ldN rfl rfl rfl rfl | exact Still.len rfl rfl rfl rfl rfl | exact Still.skip rfl rfl rfl | exact Still.ldRow1 rfl rfl rfl (by assumption) (by assumption) rfl rfl | exact Still.ldR rfl rfl rfl (by apply_assumption) rfl))); cases hi)) ?_)
                exact Ops.nilN (meet_end (Q := fun _ _ _ => True) _ trivial ⟨rfl, rfl, rfl, rfl, rfl, trivial⟩ (fun w h => h.split))
              · skip
                repeat' (first | refine Ops.alloc rfl rfl rfl (by first | exact noPd rfl | (intro v A' hR i hi; obtain ⟨b, rfl, rfl⟩ := hR; (repeat (rcases List.mem_cons.1 hi with rfl | hi; · (first | exact Still.ld1 rfl rfl rfl rfl rfl | exact Still.ldN rfl rfl rfl rfl | exact Still.len rfl rfl rfl rfl rfl | exact Still.skip rfl rfl rfl | exact Still.ldRow1 rfl rfl rfl (by assumption) (by assumption) rfl rfl | exact Still.ldR rfl rfl rfl (by apply_assumption) rfl))); cases hi)) (fun b => ?_))
                have hcon := ConB.lend (P := Try.prog) (B1 := baseOf w) (G := G2) fun B0 hx0 hG => hfi B0 a3 c3 hx0 (hO.vin hG)
                have hcon : ConB Try.prog (baseOf w) 10 _ G2 _ := hcon
                refine Ops.callB hcon (Ext.refl _) rfl (noPd rfl) rfl rfl rfl (fun v A2 hR => ?_)
                obtain ⟨A3, rfl, rfl⟩ := hR
                repeat' (first | refine Ops.mv rfl rfl rfl rfl ?_ | refine Ops.asg rfl rfl rfl rfl ?_ | refine Ops.ext rfl rfl rfl rfl rfl ?_ | refine Ops.stN rfl rfl rfl rfl rfl rfl (by first | exact noPd rfl | (intro v A' hR i hi; obtain rfl := hR; (repeat (rcases List.mem_cons.1 hi with rfl | hi; · (first | exact Still.ld1 rfl rfl rfl rfl rfl | exact Still.ldN rfl rfl rfl rfl | exact Still.len rfl rfl rfl rfl rfl | exact Still.skip rfl rfl rfl | exact Still.ldRow1 rfl rfl rfl (by assumption) (by assumption) rfl rfl | exact Still.ldR rfl rfl rfl (by apply_assumption) rfl))); cases hi)) ?_)
                exact Ops.nilN (meet_end (Q := fun _ _ _ => True) _ trivial ⟨rfl, rfl, rfl, rfl, rfl, trivial⟩ (fun w h => h.split))
            · skip
              repeat' (first | refine Ops.alloc rfl rfl rfl (by first | exact noPd rfl | (intro v A' hR i hi; obtain ⟨b, rfl, rfl⟩ := hR; (repeat (rcases List.mem_cons.1 hi with rfl | hi; · (first | exact Still.ld1 rfl rfl rfl rfl rfl | exact Still.ldN rfl rfl rfl rfl | exact Still.len rfl rfl rfl rfl rfl | exact Still.skip rfl rfl rfl | exact Still.ldRow1 rfl rfl rfl (by assumption) (by assumption) rfl rfl | exact Still.ldR rfl rfl rfl (by apply_assumption) rfl))); cases hi)) (fun b => ?_))
              refine Ops.app1 (rows := l.map Ev.row) hG1 (by rw [hlm]; omega) (by rw [hlm]; omega) rfl rfl rfl rfl (by rfl) (by rfl) rfl (noPd rfl) rfl (fun v G2 hG2 => ?_)
              have hO : OwnV v (l ++ [e]) G2 := by
                unfold OwnV
                rw [List.map_append]
                exact hG2
              clear hG2
              obtain ⟨a3, c3, rfl⟩ := hO.form
              skip
              have hcon := ConB.lend (P := Try.prog) (B1 := baseOf w) (G := G2) fun B0 hx0 hG => hfi B0 a3 c3 hx0 (hO.vin hG)
              have hcon : ConB Try.prog (baseOf w) 10 _ G2 _ := hcon
              refine Ops.callB hcon (Ext.refl _) rfl (noPd rfl) rfl rfl rfl (fun v A2 hR => ?_)
              obtain ⟨A3, rfl, rfl⟩ := hR
              repeat' (first | refine Ops.mv rfl rfl rfl rfl ?_ | refine Ops.asg rfl rfl rfl rfl ?_ | refine Ops.ext rfl rfl rfl rfl rfl ?_ | refine Ops.stN rfl rfl rfl rfl rfl rfl (by first | exact noPd rfl | (intro v A' hR i hi; obtain rfl := hR; (repeat (rcases List.mem_cons.1 hi with rfl | hi; · (first | exact Still.ld1 rfl rfl rfl rfl rfl | exact Still.ldN rfl rfl rfl rfl | exact Still.len rfl rfl rfl rfl rfl | exact Still.skip rfl rfl rfl | exact Still.ldRow1 rfl rfl rfl (by assumption) (by assumption) rfl rfl | exact Still.ldR rfl rfl rfl (by apply_assumption) rfl))); cases hi)) ?_)
              exact Ops.nilN (meet_end (Q := fun _ _ _ => True) _ trivial ⟨rfl, rfl, rfl, rfl, rfl, trivial⟩ (fun w h => h.split))
          · skip
            repeat' (first | refine Ops.alloc rfl rfl rfl (by first | exact noPd rfl | (intro v A' hR i hi; obtain ⟨b, rfl, rfl⟩ := hR; (repeat (rcases List.mem_cons.1 hi with rfl | hi; · (first | exact Still.ld1 rfl rfl rfl rfl rfl | exact Still.ldN rfl rfl rfl rfl | exact Still.len rfl rfl rfl rfl rfl | exact Still.skip rfl rfl rfl | exact Still.ldRow1 rfl rfl rfl (by assumption) (by assumption) rfl rfl | exact Still.ldR rfl rfl rfl (by apply_assumption) rfl))); cases hi)) (fun b => ?_) | refine Ops.bs1 rfl rfl rfl rfl rfl rfl rfl (by first | exact noPd rfl | (intro v A' hR i hi; obtain ⟨b, rfl, rfl⟩ := hR; (repeat (rcases List.mem_cons.1 hi with rfl | hi; · (first | exact Still.ld1 rfl rfl rfl rfl rfl | exact Still.ldN rfl rfl rfl rfl | exact Still.len rfl rfl rfl rfl rfl | exact Still.skip rfl rfl rfl | exact Still.ldRow1 rfl rfl rfl (by assumption) (by assumption) rfl rfl | exact Still.ldR rfl rfl rfl (by apply_assumption) rfl))); cases hi)) (fun b => ?_))
            refine Ops.app1 (rows := l.map Ev.row) hG1 (by rw [hlm]; omega) (by rw [hlm]; omega) rfl rfl rfl rfl (by rfl) (by rfl) rfl (noPd rfl) rfl (fun v G2 hG2 => ?_)
            have hO : OwnV v (l ++ [e]) G2 := by
              unfold OwnV
              rw [List.map_append]
              exact hG2
            clear hG2
            obtain ⟨a3, c3, rfl⟩ := hO.form
            skip
            have hcon := ConB.lend (P := Try.prog) (B1 := baseOf w) (G := G2) fun B0 hx0 hG => hfi B0 a3 c3 hx0 (hO.vin hG)
            have hcon : ConB Try.prog (baseOf w) 10 _ G2 _ := hcon
            refine Ops.callB hcon (Ext.refl _) rfl (noPd rfl) rfl rfl rfl (fun v A2 hR => ?_)
            obtain ⟨A3, rfl, rfl⟩ := hR
            repeat' (first | refine Ops.mv rfl rfl rfl rfl ?_ | refine Ops.asg rfl rfl rfl rfl ?_ | refine Ops.ext rfl rfl rfl rfl rfl ?_ | refine Ops.stN rfl rfl rfl rfl rfl rfl (by first | exact noPd rfl | (intro v A' hR i hi; obtain rfl := hR; (repeat (rcases List.mem_cons.1 hi with rfl | hi; · (first | exact Still.ld1 rfl rfl rfl rfl rfl | exact Still.ldN rfl rfl rfl rfl | exact Still.len rfl rfl rfl rfl rfl | exact Still.skip rfl rfl rfl | exact Still.ldRow1 rfl rfl rfl (by assumption) (by assumption) rfl rfl | exact Still.ldR rfl rfl rfl (by apply_assumption) rfl))); cases hi)) ?_)
            exact Ops.nilN (meet_end (Q := fun _ _ _ => True) _ trivial ⟨rfl, rfl, rfl, rfl, rfl, trivial⟩ (fun w h => h.split))
        · skip
          repeat' (first | refine Ops.bs1 rfl rfl rfl rfl rfl rfl rfl (by first | exact noPd rfl | (intro v A' hR i hi; obtain ⟨b, rfl, rfl⟩ := hR; (repeat (rcases List.mem_cons.1 hi with rfl | hi; · (first | exact Still.ld1 rfl rfl rfl rfl rfl | exact Still.ldN rfl rfl rfl rfl | exact Still.len rfl rfl rfl rfl rfl | exact Still.skip rfl rfl rfl | exact Still.ldRow1 rfl rfl rfl (by assumption) (by assumption) rfl rfl | exact Still.ldR rfl rfl rfl (by apply_assumption) rfl))); cases hi)) (fun b => ?_))
          refine Ops.fork' [(1, 0, []), (3, 1, []), (0, 4, [3]), (4, 4, []), (11, 4, []), (2, 2, []), (5, 2, []), (6, 2, []), (7, 0, []), (8, 0, []), (9, 0, []), (10, 0, []), (12, 2, []), (13, 0, []), (14, 0, [])] (by kernel_rfl) rfl (by simp only [picked, nth]; exact rfl) ?_ ?_
          · skip
            skip
            refine Ops.appS (rows := []) (news := l.map Ev.row) Own.empty (hrl _) (by rw [hlm, List.length_nil]; omega) (by rw [hlm, List.length_nil]; omega) rfl rfl rfl rfl rfl (by first | exact noPd rfl | (intro v A' hR i hi; obtain ⟨G2, hR, rfl⟩ := hR; (repeat (rcases List.mem_cons.1 hi with rfl | hi; · (first | exact Still.ld1 rfl rfl rfl rfl rfl | exact Still.ldN rfl rfl rfl rfl | exact Still.len rfl rfl rfl rfl rfl | exact Still.skip rfl rfl rfl | exact Still.ldRow1 rfl rfl rfl (by assumption) (by assumption) rfl rfl | exact Still.ldR rfl rfl rfl (by apply_assumption) rfl))); cases hi)) rfl (fun v G1 hG1 => ?_)
            obtain ⟨a1, c1, rfl⟩ := hG1.form
            rw [List.nil_append] at hG1 ⊢
            skip
            refine Ops.fork' [(1, 0, []), (3, 1, []), (0, 4, [3]), (4, 4, []), (2, 4, []), (11, 4, []), (5, 2, []), (6, 2, []), (7, 0, []), (8, 0, []), (9, 0, []), (10, 0, []), (12, 2, []), (13, 0, []), (14, 0, [])] (by kernel_rfl) rfl (by simp only [picked, nth]; exact rfl) ?_ ?_
            · skip
              skip
              refine Ops.app1 (rows := l.map Ev.row) hG1 (by rw [hlm]; omega) (by rw [hlm]; omega) rfl rfl rfl rfl (by rfl) (by rfl) rfl (noPd rfl) rfl (fun v G2 hG2 => ?_)
              have hO : OwnV v (l ++ [e]) G2 := by
                unfold OwnV
                rw [List.map_append]
                exact hG2
              clear hG2
              obtain ⟨a3, c3, rfl⟩ := hO.form
              skip
              refine Ops.fork' [(1, 0, []), (3, 1, []), (0, 4, [3]), (4, 4, []), (2, 4, []), (5, 4, []), (11, 4, []), (6, 2, []), (7, 0, []), (8, 0, []), (9, 0, []), (10, 0, []), (12, 2, []), (13, 0, []), (14, 0, [])] (by kernel_rfl) rfl (by simp only [picked, nth]; exact rfl) ?_ ?_
              · skip
                skip
                have hcon := ConB.lend (P := Try.prog) (B1 := baseOf w) (G := G2) fun B0 hx0 hG => hfi B0 a3 c3 hx0 (hO.vin hG)
                have hcon : ConB Try.prog (baseOf w) 10 _ G2 _ := hcon
                refine Ops.callB hcon (Ext.refl _) rfl (noPd rfl) rfl rfl rfl (fun v A2 hR => ?_)
                obtain ⟨A3, rfl, rfl⟩ := hR
                repeat' (first | refine Ops.mv rfl rfl rfl rfl ?_ | refine Ops.asg rfl rfl rfl rfl ?_ | refine Ops.ext rfl rfl rfl rfl rfl ?_ | refine Ops.alloc rfl rfl rfl (by first | exact noPd rfl | (intro v A' hR i hi; obtain ⟨b, rfl, rfl⟩ := hR; (repeat (rcases List.mem_cons.1 hi with rfl | hi; · (first | exact Still.ld1 rfl rfl rfl rfl rfl | exact Still.ldN rfl rfl rfl rfl | exact Still.len rfl rfl rfl rfl rfl | exact Still.skip rfl rfl rfl | exact Still.ldRow1 rfl rfl rfl (by assumption) (by assumption) rfl rfl | exact Still.ldR rfl rfl rfl (by apply_assumption) rfl))); cases hi)) (fun b => ?_) | refine Ops.stN rfl rfl rfl rfl rfl rfl (by first | exact noPd rfl | (intro v A' hR i hi; obtain rfl := hR; (repeat (rcases List.mem_cons.1 hi with rfl | hi; · (first | exact Still.ld1 rfl rfl rfl rfl rfl | exact Still.ldN rfl rfl rfl rfl | exact Still.len rfl rfl rfl rfl rfl | exact Still.skip rfl rfl rfl | exact Still.ldRow1 rfl rfl rfl (by assumption) (by assumption) rfl rfl | exact Still.ldR rfl rfl rfl (by apply_assumption) rfl))); cases hi)) ?_)
                exact Ops.nilN (meet_end (Q := fun _ _ _ => True) _ trivial ⟨rfl, rfl, rfl, rfl, rfl, trivial⟩ (fun w h => h.split))
              · skip
                repeat' (first | refine Ops.alloc rfl rfl rfl (by first | exact noPd rfl | (intro v A' hR i hi; obtain ⟨b, rfl, rfl⟩ := hR; (repeat (rcases List.mem_cons.1 hi with rfl | hi; · (first | exact Still.ld1 rfl rfl rfl rfl rfl | exact Still.ldN rfl rfl rfl rfl | exact Still.len rfl rfl rfl rfl rfl | exact Still.skip rfl rfl rfl | exact Still.ldRow1 rfl rfl rfl (by assumption) (by assumption) rfl rfl | exact Still.ldR rfl rfl rfl (by apply_assumption) rfl))); cases hi)) (fun b => ?_))
                have hcon := ConB.lend (P := Try.prog) (B1 := baseOf w) (G := G2) fun B0 hx0 hG => hfi B0 a3 c3 hx0 (hO.vin hG)
                have hcon : ConB Try.prog (baseOf w) 10 _ G2 _ := hcon
                refine Ops.callB hcon (Ext.refl _) rfl (noPd rfl) rfl rfl rfl (fun v A2 hR => ?_)
                obtain ⟨A3, rfl, rfl⟩ := hR
                repeat' (first | refine Ops.mv rfl rfl rfl rfl ?_ | refine Ops.asg rfl rfl rfl rfl ?_ | refine Ops.ext rfl rfl rfl rfl rfl ?_ | refine Ops.stN rfl rfl rfl rfl rfl rfl (by first | exact noPd rfl | (intro v A' hR i hi; obtain rfl := hR; (repeat (rcases List.mem_cons.1 hi with rfl | hi; · (first | exact Still.ld1 rfl rfl rfl rfl rfl | exact Still.ldN rfl rfl rfl rfl | exact Still.len rfl rfl rfl rfl rfl | exact Still.skip rfl rfl rfl | exact Still.ldRow1 rfl rfl rfl (by assumption) (by assumption) rfl rfl | exact Still.ldR rfl rfl rfl (by apply_assumption) rfl))); cases hi)) ?_)
                exact Ops.nilN (meet_end (Q := fun _ _ _ => True) _ trivial ⟨rfl, rfl, rfl, rfl, rfl, trivial⟩ (fun w h => h.split))
            · skip
              repeat' (first | refine Ops.alloc rfl rfl rfl (by first | exact noPd rfl | (intro v A' hR i hi; obtain ⟨b, rfl, rfl⟩ := hR; (repeat (rcases List.mem_cons.1 hi with rfl | hi; · (first | exact Still.ld1 rfl rfl rfl rfl rfl | exact Still.ldN rfl rfl rfl rfl | exact Still.len rfl rfl rfl rfl rfl | exact Still.skip rfl rfl rfl | exact Still.ldRow1 rfl rfl rfl (by assumption) (by assumption) rfl rfl | exact Still.ldR rfl rfl rfl (by apply_assumption) rfl))); cases hi)) (fun b => ?_))
              refine Ops.app1 (rows := l.map Ev.row) hG1 (by rw [hlm]; omega) (by rw [hlm]; omega) rfl rfl rfl rfl (by rfl) (by rfl) rfl (noPd rfl) rfl (fun v G2 hG2 => ?_)
              have hO : OwnV v (l ++ [e]) G2 := by
                unfold OwnV
                rw [List.map_append]
                exact hG2
              clear hG2
              obtain ⟨a3, c3, rfl⟩ := hO.form
              skip
              have hcon := ConB.lend (P := Try.prog) (B1 := baseOf w) (G := G2) fun B0 hx0 hG => hfi B0 a3 c3 hx0 (hO.vin hG)
              have hcon : ConB Try.prog (baseOf w) 10 _ G2 _ := hcon
              refine Ops.callB hcon (Ext.refl _) rfl (noPd rfl) rfl rfl rfl (fun v A2 hR => ?_)
              obtain ⟨A3, rfl, rfl⟩ := hR
              repeat' (first | refine Ops.mv rfl rfl rfl rfl ?_ | refine Ops.asg rfl rfl rfl rfl ?_ | refine Ops.ext rfl rfl rfl rfl rfl ?_ | refine Ops.stN rfl rfl rfl rfl rfl rfl (by first | exact noPd rfl | (intro v A' hR i hi; obtain rfl := hR; (repeat (rcases List.mem_cons.1 hi with rfl | hi; · (first | exact Still.ld1 rfl rfl rfl rfl rfl | exact Still.ldN rfl rfl rfl rfl | exact Still.len rfl rfl rfl rfl rfl | exact Still.skip rfl rfl rfl | exact Still.ldRow1 rfl rfl rfl (by assumption) (by assumption) rfl rfl | exact Still.ldR rfl rfl rfl (by apply_assumption) rfl))); cases hi)) ?_)
              exact Ops.nilN (meet_end (Q := fun _ _ _ => True) _ trivial ⟨rfl, rfl, rfl, rfl, rfl, trivial⟩ (fun w h => h.split))
          · skip
            repeat' (first | refine Ops.alloc rfl rfl rfl (by first | exact noPd rfl | (intro v A' hR i hi; obtain ⟨b, rfl, rfl⟩ := hR; (repeat (rcases List.mem_cons.1 hi with rfl | hi; · (first | exact Still.ld1 rfl rfl rfl rfl rfl | exact Still.ldN rfl rfl rfl rfl | exact Still.len rfl rfl rfl rfl rfl | exact Still.skip rfl rfl rfl | exact Still.ldRow1 rfl rfl rfl (by assumption) (by assumption) rfl rfl | exact Still.ldR rfl rfl rfl (by apply_assumption) rfl))); cases hi)) (fun b => ?_))
            refine Ops.appS (rows := []) (news := l.map Ev.row) Own.empty (hrl _) (by rw [hlm, List.length_nil]; omega) (by rw [hlm, List.length_nil]; omega) rfl rfl rfl rfl rfl (by first | exact noPd rfl | (intro v A' hR i hi; obtain ⟨G2, hR, rfl⟩ := hR; (repeat (rcases List.mem_cons.1 hi with rfl | hi; · (first | exact Still.ld1 rfl rfl rfl rfl rfl | exact Still.ldN rfl rfl rfl rfl | exact Still.len rfl rfl rfl rfl rfl | exact Still.skip rfl rfl rfl | exact Still.ldRow1 rfl rfl rfl (by assumption) (by assumption) rfl rfl | exact Still.ldR rfl rfl rfl (by apply_assumption) rfl))); cases hi)) rfl (fun v G1 hG1 => ?_)
            obtain ⟨a1, c1, rfl⟩ := hG1.form
            rw [List.nil_append] at hG1 ⊢
            skip
            refine Ops.app1 (rows := l.map Ev.row) hG1 (by rw [hlm]; omega) (by rw [hlm]; omega) rfl rfl rfl rfl (by rfl) (by rfl) rfl (noPd rfl) rfl (fun v G2 hG2 => ?_)
            have hO : OwnV v (l ++ [e]) G2 := by
              unfold OwnV
              rw [List.map_append]
              exact hG2
            clear hG2
            obtain ⟨a3, c3, rfl⟩ := hO.form
            skip
            have hcon := ConB.lend (P := Try.prog) (B1 := baseOf w) (G := G2) fun B0 hx0 hG => hfi B0 a3 c3 hx0 (hO.vin hG)
            have hcon : ConB Try.prog (baseOf w) 10 _ G2 _ := hcon
            refine Ops.callB hcon (Ext.refl _) rfl (noPd rfl) rfl rfl rfl (fun v A2 hR => ?_)
            obtain ⟨A3, rfl, rfl⟩ := hR
            repeat' (first | refine Ops.mv rfl rfl rfl rfl ?_ | refine Ops.asg rfl rfl rfl rfl ?_ | refine Ops.ext rfl rfl rfl rfl rfl ?_ | refine Ops.stN rfl rfl rfl rfl rfl rfl (by first | exact noPd rfl | (intro v A' hR i hi; obtain rfl := hR; (repeat (rcases List.mem_cons.1 hi with rfl | hi; · (first | exact Still.ld1 rfl rfl rfl rfl rfl | exact Still.ldN rfl rfl rfl rfl | exact Still.len rfl rfl rfl rfl rfl | exact Still.skip rfl rfl rfl | exact Still.ldRow1 rfl rfl rfl (by assumption) (by assumption) rfl rfl | exact Still.ldR rfl rfl rfl (by apply_assumption) rfl))); cases hi)) ?_)
            exact Ops.nilN (meet_end (Q := fun _ _ _ => True) _ trivial ⟨rfl, rfl, rfl, rfl, rfl, trivial⟩ (fun w h => h.split))
        · skip
          repeat' (first | refine Ops.alloc rfl rfl rfl (by first | exact noPd rfl | (intro v A' hR i hi; obtain ⟨b, rfl, rfl⟩ := hR; (repeat (rcases List.mem_cons.1 hi with rfl | hi; · (first | exact Still.ld1 rfl rfl rfl rfl rfl | exact Still.ldN rfl rfl rfl rfl | exact Still.len rfl rfl rfl rfl rfl | exact Still.skip rfl rfl rfl | exact Still.ldRow1 rfl rfl rfl (by assumption) (by assumption) rfl rfl | exact Still.ldR rfl rfl rfl (by apply_assumption) rfl))); cases hi)) (fun b => ?_))
          refine Ops.fork' [(1, 0, []), (3, 1, []), (0, 4, [3]), (11, 4, [3]), (4, 4, []), (2, 2, []), (5, 2, []), (6, 2, []), (7, 0, []), (8, 0, []), (9, 0, []), (10, 0, []), (12, 2, []), (13, 0, []), (14, 0, [])] (by kernel_rfl) rfl (by simp only [picked, nth]; exact rfl) ?_ ?_
          · skip
            skip
            refine Ops.appS (rows := []) (news := l.map Ev.row) Own.empty (hrl _) (by rw [hlm, List.length_nil]; omega) (by rw [hlm, List.length_nil]; omega) rfl rfl rfl rfl rfl (by first | exact noPd rfl | (intro v A' hR i hi; obtain ⟨G2, hR, rfl⟩ := hR; (repeat (rcases List.mem_cons.1 hi with rfl | hi; · (first | exact Still.ld1 rfl rfl rfl rfl rfl | exact Still.ldN rfl rfl rfl rfl | exact Still.len rfl rfl rfl rfl rfl | exact Still.skip rfl rfl rfl | exact Still.ldRow1 rfl rfl rfl (by assumption) (by assumption) rfl rfl | exact Still.ldR rfl rfl rfl (by apply_assumption) rfl))); cases hi)) rfl (fun v G1 hG1 => ?_)
            obtain ⟨a1, c1, rfl⟩ := hG1.form
            rw [List.nil_append] at hG1 ⊢
            repeat' (first | refine Ops.bs1 rfl rfl rfl rfl rfl rfl rfl (by first | exact noPd rfl | (intro v A' hR i hi; obtain ⟨b, rfl, rfl⟩ := hR; (repeat (rcases List.mem_cons.1 hi with rfl | hi; · (first | exact Still.ld1 rfl rfl rfl rfl rfl | exact Still.ldN rfl rfl rfl rfl | exact Still.len rfl rfl rfl rfl rfl | exact Still.skip rfl rfl rfl | exact Still.ldRow1 rfl rfl rfl (by assumption) (by assumption) rfl rfl | exact Still.ldR rfl rfl rfl (by apply_assumption) rfl))); cases hi)) (fun b => ?_))
            refine Ops.app1 (rows := l.map Ev.row) hG1 (by rw [hlm]; omega) (by rw [hlm]; omega) rfl rfl rfl rfl (by rfl) (by rfl) rfl (noPd rfl) rfl (fun v G2 hG2 => ?_)
            have hO : OwnV v (l ++ [e]) G2 := by
              unfold OwnV
              rw [List.map_append]
              exact hG2
            clear hG2
            obtain ⟨a3, c3, rfl⟩ := hO.form
            skip
            have hcon := ConB.lend (P := Try.prog) (B1 := baseOf w) (G := G2) fun B0 hx0 hG => hfi B0 a3 c3 hx0 (hO.vin hG)
            have hcon : ConB Try.prog (baseOf w) 10 _ G2 _ := hcon
            refine Ops.callB hcon (Ext.refl _) rfl (noPd rfl) rfl rfl rfl (fun v A2 hR => ?_)
            obtain ⟨A3, rfl, rfl⟩ := hR
            repeat' (first | refine Ops.mv rfl rfl rfl rfl ?_ | refine Ops.asg rfl rfl rfl rfl ?_ | refine Ops.ext rfl rfl rfl rfl rfl ?_ | refine Ops.stN rfl rfl rfl rfl rfl rfl (by first | exact noPd rfl | (intro v A' hR i hi; obtain rfl := hR; (repeat (rcases List.mem_cons.1 hi with rfl | hi; · (first | exact Still.ld1 rfl rfl rfl rfl rfl | exact Still.ldN rfl rfl rfl rfl | exact Still.len rfl rfl rfl rfl rfl | exact Still.skip rfl rfl rfl | exact Still.ldRow1 rfl rfl rfl (by assumption) (by assumption) rfl rfl | exact Still.ldR rfl rfl rfl (by apply_assumption) rfl))); cases hi)) ?_)
            exact Ops.nilN (meet_end (Q := fun _ _ _ => True) _ trivial ⟨rfl, rfl, rfl, rfl, rfl, trivial⟩ (fun w h => h.split))
          · skip
            repeat' (first | refine Ops.bs1 rfl rfl rfl rfl rfl rfl rfl (by first | exact noPd rfl | (intro v A' hR i hi; obtain ⟨b, rfl, rfl⟩ := hR; (repeat (rcases List.mem_cons.1 hi with rfl | hi; · (first | exact Still.ld1 rfl rfl rfl rfl rfl | exact Still.ldN rfl rfl rfl rfl | exact Still.len rfl rfl rfl rfl rfl | exact Still.skip rfl rfl rfl | exact Still.ldRow1 rfl rfl rfl (by assumption) (by assumption) rfl rfl | exact Still.ldR rfl rfl rfl (by apply_assumption) rfl))); cases hi)) (fun b => ?_))
            refine Ops.appS (rows := []) (news := l.map Ev.row) Own.empty (hrl _) (by rw [hlm, List.length_nil]; omega) (by rw [hlm, List.length_nil]; omega) rfl rfl rfl rfl rfl (by first | exact noPd rfl | (intro v A' hR i hi; obtain ⟨G2, hR, rfl⟩ := hR; (repeat (rcases List.mem_cons.1 hi with rfl | hi; · (first | exact Still.ld1 rfl rfl rfl rfl rfl | exact Still.ldN rfl rfl rfl rfl | exact Still.len rfl rfl rfl rfl rfl | exact Still.skip rfl rfl rfl | exact Still.ldRow1 rfl rfl rfl (by assumption) (by assumption) rfl rfl | exact Still.ldR rfl rfl rfl (by apply_assumption) rfl))); cases hi)) rfl (fun v G1 hG1 => ?_)
            obtain ⟨a1, c1, rfl⟩ := hG1.form
            rw [List.nil_append] at hG1 ⊢
            skip
            refine Ops.app1 (rows := l.map Ev.row) hG1 (by rw [hlm]; omega) (by rw [hlm]; omega) rfl rfl rfl rfl (by rfl) (by rfl) rfl (noPd rfl) rfl (fun v G2 hG2 => ?_)
            have hO : OwnV v (l ++ [e]) G2 := by
              unfold OwnV
              rw [List.map_append]
              exact hG2
            clear hG2
            obtain ⟨a3, c3, rfl⟩ := hO.form
            skip
            have hcon := ConB.lend (P := Try.prog) (B1 := baseOf w) (G := G2) fun B0 hx0 hG => hfi B0 a3 c3 hx0 (hO.vin hG)
            have hcon : ConB Try.prog (baseOf w) 10 _ G2 _ := hcon
            refine Ops.callB hcon (Ext.refl _) rfl (noPd rfl) rfl rfl rfl (fun v A2 hR => ?_)
            obtain ⟨A3, rfl, rfl⟩ := hR
            repeat' (first | refine Ops.mv rfl rfl rfl rfl ?_ | refine Ops.asg rfl rfl rfl rfl ?_ | refine Ops.ext rfl rfl rfl rfl rfl ?_ | refine Ops.stN rfl rfl rfl rfl rfl rfl (by first | exact noPd rfl | (intro v A' hR i hi; obtain rfl := hR; (repeat (rcases List.mem_cons.1 hi with rfl | hi; · (first | exact Still.ld1 rfl rfl rfl rfl rfl | exact Still.ldN rfl rfl rfl rfl | exact Still.len rfl rfl rfl rfl rfl | exact Still.skip rfl rfl rfl | exact Still.ldRow1 rfl rfl rfl (by assumption) (by assumption) rfl rfl | exact Still.ldR rfl rfl rfl (by apply_assumption) rfl))); cases hi)) ?_)
            exact Ops.nilN (meet_end (Q := fun _ _ _ => True) _ trivial ⟨rfl, rfl, rfl, rfl, rfl, trivial⟩ (fun w h => h.split))
      · skip
        repeat' (first | refine Ops.bs1 rfl rfl rfl rfl rfl rfl rfl (by first | exact noPd rfl | (intro v A' hR i hi; obtain ⟨b, rfl, rfl⟩ := hR; (repeat (rcases List.mem_cons.1 hi with rfl | hi; · (first | exact Still.ld1 rfl rfl rfl rfl rfl | exact Still.ldN rfl rfl rfl rfl | exact Still.len rfl rfl rfl rfl rfl | exact Still.skip rfl rfl rfl | exact Still.ldRow1 rfl rfl rfl (by assumption) (by assumption) rfl rfl | exact Still.ldR rfl rfl rfl (by apply_assumption) rfl))); cases hi)) (fun b => ?_))
        refine Ops.fork' [(1, 0, []), (3, 1, []), (4, 4, []), (11, 4, []), (0, 2, []), (2, 2, []), (5, 2, []), (6, 2, []), (7, 0, []), (8, 0, []), (9, 0, []), (10, 0, []), (12, 2, []), (13, 0, []), (14, 0, [])] (by kernel_rfl) rfl (by simp only [picked, nth]; exact rfl) ?_ ?_
        · skip
          repeat' (first | refine Ops.bs0 rfl rfl rfl (by first | exact noPd rfl | (intro v A' hR i hi; obtain ⟨b, rfl, rfl⟩ := hR; (repeat (rcases List.mem_cons.1 hi with rfl | hi; · (first | exact Still.ld1 rfl rfl rfl rfl rfl | exact Still.ldN rfl rfl rfl rfl | exact Still.len rfl rfl rfl rfl rfl | exact Still.skip rfl rfl rfl | exact Still.ldRow1 rfl rfl rfl (by assumption) (by assumption) rfl rfl | exact Still.ldR rfl rfl rfl (by apply_assumption) rfl))); cases hi)) (fun b => ?_))
          refine Ops.fork' [(1, 0, []), (3, 1, []), (4, 4, []), (0, 4, []), (11, 4, []), (2, 2, []), (5, 2, []), (6, 2, []), (7, 0, []), (8, 0, []), (9, 0, []), (10, 0, []), (12, 2, []), (13, 0, []), (14, 0, [])] (by kernel_rfl) rfl (by simp only [picked, nth]; exact rfl) ?_ ?_
          · skip
            skip
            refine Ops.appS (rows := []) (news := l.map Ev.row) Own.empty (hrl _) (by rw [hlm, List.length_nil]; omega) (by rw [hlm, List.length_nil]; omega) rfl rfl rfl rfl rfl (by first | exact noPd rfl | (intro v A' hR i hi; obtain ⟨G2, hR, rfl⟩ := hR; (repeat (rcases List.mem_cons.1 hi with rfl | hi; · (first | exact Still.ld1 rfl rfl rfl rfl rfl | exact Still.ldN rfl rfl rfl rfl | exact Still.len rfl rfl rfl rfl rfl | exact Still.skip rfl rfl rfl | exact Still.ldRow1 rfl rfl rfl (by assumption) (by assumption) rfl rfl | exact Still.ldR rfl rfl rfl (by apply_assumption) rfl))); cases hi)) rfl (fun v G1 hG1 => ?_)
            obtain ⟨a1, c1, rfl⟩ := hG1.form
            rw [List.nil_append] at hG1 ⊢
            skip
            refine Ops.fork' [(1, 0, []), (3, 1, []), (4, 4, []), (0, 4, []), (2, 4, []), (11, 4, []), (5, 2, []), (6, 2, []), (7, 0, []), (8, 0, []), (9, 0, []), (10, 0, []), (12, 2, []), (13, 0, []), (14, 0, [])] (by kernel_rfl) rfl (by simp only [picked, nth]; exact rfl) ?_ ?_
            · skip
              skip
              refine Ops.app1 (rows := l.map Ev.row) hG1 (by rw [hlm]; omega) (by rw [hlm]; omega) rfl rfl rfl rfl (by rfl) (by rfl) rfl (noPd rfl) rfl (fun v G2 hG2 => ?_)
              have hO : OwnV v (l ++ [e]) G2 := by
                unfold OwnV
                rw [List.map_append]
                exact hG2
              clear hG2
              obtain ⟨a3, c3, rfl⟩ := hO.form
              skip
              refine Ops.fork' [(1, 0, []), (3, 1, []), (4, 4, []), (0, 4, []), (2, 4, []), (5, 4, []), (11, 4, []), (6, 2, []), (7, 0, []), (8, 0, []), (9, 0, []), (10, 0, []), (12, 2, []), (13, 0, []), (14, 0, [])] (by kernel_rfl) rfl (by simp only [picked, nth]; exact rfl) ?_ ?_
              · skip
                skip
                have hcon := ConB.lend (P := Try.prog) (B1 := baseOf w) (G := G2) fun B0 hx0 hG => hfi B0 a3 c3 hx0 (hO.vin hG)
                have hcon : ConB Try.prog (baseOf w) 10 _ G2 _ := hcon
                refine Ops.callB hcon (Ext.refl _) rfl (noPd rfl) rfl rfl rfl (fun v A2 hR => ?_)
                obtain ⟨A3, rfl, rfl⟩ := hR
                repeat' (first | refine Ops.mv rfl rfl rfl rfl ?_ | refine Ops.asg rfl rfl rfl rfl ?_ | refine Ops.ext rfl rfl rfl rfl rfl ?_ | refine Ops.alloc rfl rfl rfl (by first | exact noPd rfl | (intro v A' hR i hi; obtain ⟨b, rfl, rfl⟩ := hR; (repeat (rcases List.mem_cons.1 hi with rfl | hi; · (first | exact Still.ld1 rfl rfl rfl rfl rfl | exact Still.ldN rfl rfl rfl rfl | exact Still.len rfl rfl rfl rfl rfl | exact Still.skip rfl rfl rfl | exact Still.ldRow1 rfl rfl rfl (by assumption) (by assumption) rfl rfl | exact Still.ldR rfl rfl rfl (by apply_assumption) rfl))); cases hi)) (fun b => ?_) | refine Ops.stN rfl rfl rfl rfl rfl rfl (by first | exact noPd rfl | (intro v A' hR i hi; obtain rfl := hR; (repeat (rcases List.mem_cons.1 hi with rfl | hi; · (first | exact Still.ld1 rfl rfl rfl rfl rfl | exact Still.ldN rfl rfl rfl rfl | exact Still.len rfl rfl rfl rfl rfl | exact Still.skip rfl rfl rfl | exact Still.ldRow1 rfl rfl rfl (by assumption) (by assumption) rfl rfl | exact Still.ldR rfl rfl rfl (by apply_assumption) rfl))); cases hi)) ?_)
                exact Ops.nilN (meet_end (Q := fun _ _ _ => True) _ trivial ⟨rfl, rfl, rfl, rfl, rfl, trivial⟩ (fun w h => h.split))
              · skip
                repeat' (first | refine Ops.alloc rfl rfl rfl (by first | exact noPd rfl | (intro v A' hR i hi; obtain ⟨b, rfl, rfl⟩ := hR; (repeat (rcases List.mem_cons.1 hi with rfl | hi; · (first | exact Still.ld1 rfl rfl rfl rfl rfl | exact Still.ldN rfl rfl rfl rfl | exact Still.len rfl rfl rfl rfl rfl | exact Still.skip rfl rfl rfl | exact Still.ldRow1 rfl rfl rfl (by assumption) (by assumption) rfl rfl | exact Still.ldR rfl rfl rfl (by apply_assumption) rfl))); cases hi)) (fun b => ?_))
                have hcon := ConB.lend (P := Try.prog) (B1 := baseOf w) (G := G2) fun B0 hx0 hG => hfi B0 a3 c3 hx0 (hO.vin hG)
                have hcon : ConB Try.prog (baseOf w) 10 _ G2 _ := hcon
                refine Ops.callB hcon (Ext.refl _) rfl (noPd rfl) rfl rfl rfl (fun v A2 hR => ?_)
                obtain ⟨A3, rfl, rfl⟩ := hR
                repeat' (first | refine Ops.mv rfl rfl rfl rfl ?_ | refine Ops.asg rfl rfl rfl rfl ?_ | refine Ops.ext rfl rfl rfl rfl rfl ?_ | refine Ops.stN rfl rfl rfl rfl rfl rfl (by first | exact noPd rfl | (intro v A' hR i hi; obtain rfl := hR; (repeat (rcases List.mem_cons.1 hi with rfl | hi; · (first | exact Still.ld1 rfl rfl rfl rfl rfl | exact Still.ldN rfl rfl rfl rfl | exact Still.len rfl rfl rfl rfl rfl | exact Still.skip rfl rfl rfl | exact Still.ldRow1 rfl rfl rfl (by assumption) (by assumption) rfl rfl | exact Still.ldR rfl rfl rfl (by apply_assumption) rfl))); cases hi)) ?_)
                exact Ops.nilN (meet_end (Q := fun _ _ _ => True) _ trivial ⟨rfl, rfl, rfl, rfl, rfl, trivial⟩ (fun w h => h.split))
            · skip
              repeat' (first | refine Ops.alloc rfl rfl rfl (by first | exact noPd rfl | (intro v A' hR i hi; obtain ⟨b, rfl, rfl⟩ := hR; (repeat (rcases List.mem_cons.1 hi with rfl | hi; · (first | exact Still.ld1 rfl rfl rfl rfl rfl | exact Still.ldN rfl rfl rfl rfl | exact Still.len rfl rfl rfl rfl rfl | exact Still.skip rfl rfl rfl | exact Still.ldRow1 rfl rfl rfl (by assumption) (by assumption) rfl rfl | exact Still.ldR rfl rfl rfl (by apply_assumption) rfl))); cases hi)) (fun b => ?_))
              refine Ops.app1 (rows := l.map Ev.row) hG1 (by rw [hlm]; omega) (by rw [hlm]; omega) rfl rfl rfl rfl (by rfl) (by rfl) rfl (noPd rfl) rfl (fun v G2 hG2 => ?_)
              have hO : OwnV v (l ++ [e]) G2 := by
                unfold OwnV
                rw [List.map_append]
                exact hG2
              clear hG2
              obtain ⟨a3, c3, rfl⟩ := hO.form
              skip
              have hcon := ConB.lend (P := Try.prog) (B1 := baseOf w) (G := G2) fun B0 hx0 hG => hfi B0 a3 c3 hx0 (hO.vin hG)
              have hcon : ConB Try.prog (baseOf w) 10 _ G2 _ := hcon
              refine Ops.callB hcon (Ext.refl _) rfl (noPd rfl) rfl rfl rfl (fun v A2 hR => ?_)
              obtain ⟨A3, rfl, rfl⟩ := hR
              repeat' (first | refine Ops.mv rfl rfl rfl rfl ?_ | refine Ops.asg rfl rfl rfl rfl ?_ | refine Ops.ext rfl rfl rfl rfl rfl ?_ | refine Ops.stN rfl rfl rfl rfl rfl rfl (by first | exact noPd rfl | (intro v A' hR i hi; obtain rfl := hR; (repeat (rcases List.mem_cons.1 hi with rfl | hi; · (first | exact Still.ld1 rfl rfl rfl rfl rfl | exact Still.ldN rfl rfl rfl rfl | exact Still.len rfl rfl rfl rfl rfl | exact Still.skip rfl rfl rfl | exact Still.ldRow1 rfl rfl rfl (by assumption) (by assumption) rfl rfl | exact Still.ldR rfl rfl rfl (by apply_assumption) rfl))); cases hi)) ?_)
              exact Ops.nilN (meet_end (Q := fun _ _ _ => True) _ trivial ⟨rfl, rfl, rfl, rfl, rfl, trivial⟩ (fun w h => h.split))
          · skip
            repeat' (first | refine Ops.alloc rfl rfl rfl (by first | exact noPd rfl | (intro v A' hR i hi; obtain ⟨b, rfl, rfl⟩ := hR; (repeat (rcases List.mem_cons.1 hi with rfl | hi; · (first | exact Still.ld1 rfl rfl rfl rfl rfl | exact Still.ldN rfl rfl rfl rfl | exact Still.len rfl rfl rfl rfl rfl | exact Still.skip rfl rfl rfl | exact Still.ldRow1 rfl rfl rfl (by assumption) (by assumption) rfl rfl | exact Still.ldR rfl rfl rfl (by apply_assumption) rfl))); cases hi)) (fun b => ?_))
            refine Ops.appS (rows := []) (news := l.map Ev.row) Own.empty (hrl _) (by rw [hlm, List.length_nil]; omega) (by rw [hlm, List.length_nil]; omega) rfl rfl rfl rfl rfl (by first | exact noPd rfl | (intro v A' hR i hi; obtain ⟨G2, hR, rfl⟩ := hR; (repeat (rcases List.mem_cons.1 hi with rfl | hi; · (first | exact Still.ld1 rfl rfl rfl rfl rfl | exact Still.ldN rfl rfl rfl rfl | exact Still.len rfl rfl rfl rfl rfl | exact Still.skip rfl rfl rfl | exact Still.ldRow1 rfl rfl rfl (by assumption) (by assumption) rfl rfl | exact Still.ldR rfl rfl rfl (by apply_assumption) rfl))); cases hi)) rfl (fun v G1 hG1 => ?_)
            obtain ⟨a1, c1, rfl⟩ := hG1.form
            rw [List.nil_append] at hG1 ⊢
            skip
            refine Ops.app1 (rows := l.map Ev.row) hG1 (by rw [hlm]; omega) (by rw [hlm]; omega) rfl rfl rfl rfl (by rfl) (by rfl) rfl (noPd rfl) rfl (fun v G2 hG2 => ?_)
            have hO : OwnV v (l ++ [e]) G2 := by
              unfold OwnV
              rw [List.map_append]
              exact hG2
            clear hG2
            obtain ⟨a3, c3, rfl⟩ := hO.form
            skip
            have hcon := ConB.lend (P := Try.prog) (B1 := baseOf w) (G := G2) fun B0 hx0 hG => hfi B0 a3 c3 hx0 (hO.vin hG)
            have hcon : ConB Try.prog (baseOf w) 10 _ G2 _ := hcon
            refine Ops.callB hcon (Ext.refl _) rfl (noPd rfl) rfl rfl rfl (fun v A2 hR => ?_)
            obtain ⟨A3, rfl, rfl⟩ := hR
            repeat' (first | refine Ops.mv rfl rfl rfl rfl ?_ | refine Ops.asg rfl rfl rfl rfl ?_ | refine Ops.ext rfl rfl rfl rfl rfl ?_ | refine Ops.stN rfl rfl rfl rfl rfl rfl (by first | exact noPd rfl | (intro v A' hR i hi; obtain rfl := hR; (repeat (rcases List.mem_cons.1 hi with rfl | hi; · (first | exact Still.ld1 rfl rfl rfl rfl rfl | exact Still.ldN rfl rfl rfl rfl | exact Still.len rfl rfl rfl rfl rfl | exact Still.skip rfl rfl rfl | exact Still.ldRow1 rfl rfl rfl (by assumption) (by assumption) rfl rfl | exact Still.ldR rfl rfl rfl (by apply_assumption) rfl))); cases hi)) ?_)
            exact Ops.nilN (meet_end (Q := fun _ _ _ => True) _ trivial ⟨rfl, rfl, rfl, rfl, rfl, trivial⟩ (fun w h => h.split))
        · skip
          repeat' (first | refine Ops.alloc rfl rfl rfl (by first | exact noPd rfl | (intro v A' hR i hi; obtain ⟨b, rfl, rfl⟩ := hR; (repeat (rcases List.mem_cons.1 hi with rfl | hi; · (first | exact Still.ld1 rfl rfl rfl rfl rfl | exact Still.ldN rfl rfl rfl rfl | exact Still.len rfl rfl rfl rfl rfl | exact Still.skip rfl rfl rfl | exact Still.ldRow1 rfl rfl rfl (by assumption) (by assumption) rfl rfl | exact Still.ldR rfl rfl rfl (by apply_assumption) rfl))); cases hi)) (fun b => ?_) | refine Ops.bs0 rfl rfl rfl (by first | exact noPd rfl | (intro v A' hR i hi; obtain ⟨b, rfl, rfl⟩ := hR; (repeat (rcases List.mem_cons.1 hi with rfl | hi; · (first | exact Still.ld1 rfl rfl rfl rfl rfl | exact Still.ldN rfl rfl rfl rfl | exact Still.len rfl rfl rfl rfl rfl | exact Still.skip rfl rfl rfl | exact Still.ldRow1 rfl rfl rfl (by assumption) (by assumption) rfl rfl | exact Still.ldR rfl rfl rfl (by apply_assumption) rfl))); cases hi)) (fun b => ?_))
          refine Ops.appS (rows := []) (news := l.map Ev.row) Own.empty (hrl _) (by rw [hlm, List.length_nil]; omega) (by rw [hlm, List.length_nil]; omega) rfl rfl rfl rfl rfl (by first | exact noPd rfl | (intro v A' hR i hi; obtain ⟨G2, hR, rfl⟩ := hR; (repeat (rcases List.mem_cons.1 hi with rfl | hi; · (first | exact Still.ld1 rfl rfl rfl rfl rfl | exact Still.ldN rfl rfl rfl rfl | exact Still.len rfl rfl rfl rfl rfl | exact Still.skip rfl rfl rfl | exact Still.ldRow1 rfl rfl rfl (by assumption) (by assumption) rfl rfl | exact Still.ldR rfl rfl rfl (by apply_assumption) rfl))); cases hi)) rfl (fun v G1 hG1 => ?_)
          obtain ⟨a1, c1, rfl⟩ := hG1.form
          rw [List.nil_append] at hG1 ⊢
          skip
          refine Ops.app1 (rows := l.map Ev.row) hG1 (by rw [hlm]; omega) (by rw [hlm]; omega) rfl rfl rfl rfl (by rfl) (by rfl) rfl (noPd rfl) rfl (fun v G2 hG2 => ?_)
          have hO : OwnV v (l ++ [e]) G2 := by
            unfold OwnV
            rw [List.map_append]
            exact hG2
          clear hG2
          obtain ⟨a3, c3, rfl⟩ := hO.form
          skip
          have hcon := ConB.lend (P := Try.prog) (B1 := baseOf w) (G := G2) fun B0 hx0 hG => hfi B0 a3 c3 hx0 (hO.vin hG)
          have hcon : ConB Try.prog (baseOf w) 10 _ G2 _ := hcon
          refine Ops.callB hcon (Ext.refl _) rfl (noPd rfl) rfl rfl rfl (fun v A2 hR => ?_)
          obtain ⟨A3, rfl, rfl⟩ := hR
          repeat' (first | refine Ops.mv rfl rfl rfl rfl ?_ | refine Ops.asg rfl rfl rfl rfl ?_ | refine Ops.ext rfl rfl rfl rfl rfl ?_ | refine Ops.stN rfl rfl rfl rfl rfl rfl (by first | exact noPd rfl | (intro v A' hR i hi; obtain rfl := hR; (repeat (rcases List.mem_cons.1 hi with rfl | hi; · (first | exact Still.ld1 rfl rfl rfl rfl rfl | exact Still.ldN rfl rfl rfl rfl | exact Still.len rfl rfl rfl rfl rfl | exact Still.skip rfl rfl rfl | exact Still.ldRow1 rfl rfl rfl (by assumption) (by assumption) rfl rfl | exact Still.ldR rfl rfl rfl (by apply_assumption) rfl))); cases hi)) ?_)
          exact Ops.nilN (meet_end (Q := fun _ _ _ => True) _ trivial ⟨rfl, rfl, rfl, rfl, rfl, trivial⟩ (fun w h => h.split))
      · skip
        repeat' (first | refine Ops.alloc rfl rfl rfl (by first | exact noPd rfl | (intro v A' hR i hi; obtain ⟨b, rfl, rfl⟩ := hR; (repeat (rcases List.mem_cons.1 hi with rfl | hi; · (first | exact Still.ld1 rfl rfl rfl rfl rfl | exact Still.ldN rfl rfl rfl rfl | exact Still.len rfl rfl rfl rfl rfl | exact Still.skip rfl rfl rfl | exact Still.ldRow1 rfl rfl rfl (by assumption) (by assumption) rfl rfl | exact Still.ldR rfl rfl rfl (by apply_assumption) rfl))); cases hi)) (fun b => ?_))
        refine Ops.fork' [(1, 0, []), (3, 1, []), (11, 4, [3]), (4, 4, []), (0, 2, []), (2, 2, []), (5, 2, []), (6, 2, []), (7, 0, []), (8, 0, []), (9, 0, []), (10, 0, []), (12, 2, []), (13, 0, []), (14, 0, [])] (by kernel_rfl) rfl (by simp only [picked, nth]; exact rfl) ?_ ?_
        · skip
          repeat' (first | refine Ops.bs0 rfl rfl rfl (by first | exact noPd rfl | (intro v A' hR i hi; obtain ⟨b, rfl, rfl⟩ := hR; (repeat (rcases List.mem_cons.1 hi with rfl | hi; · (first | exact Still.ld1 rfl rfl rfl rfl rfl | exact Still.ldN rfl rfl rfl rfl | exact Still.len rfl rfl rfl rfl rfl | exact Still.skip rfl rfl rfl | exact Still.ldRow1 rfl rfl rfl (by assumption) (by assumption) rfl rfl | exact Still.ldR rfl rfl rfl (by apply_assumption) rfl))); cases hi)) (fun b => ?_))
          refine Ops.fork' [(1, 0, []), (3, 1, []), (11, 4, [3]), (0, 4, [3]), (4, 4, []), (2, 2, []), (5, 2, []), (6, 2, []), (7, 0, []), (8, 0, []), (9, 0, []), (10, 0, []), (12, 2, []), (13, 0, []), (14, 0, [])] (by kernel_rfl) rfl (by simp only [picked, nth]; exact rfl) ?_ ?_
          · skip
            skip
            refine Ops.appS (rows := []) (news := l.map Ev.row) Own.empty (hrl _) (by rw [hlm, List.length_nil]; omega) (by rw [hlm, List.length_nil]; omega) rfl rfl rfl rfl rfl (by first | exact noPd rfl | (intro v A' hR i hi; obtain ⟨G2, hR, rfl⟩ := hR; (repeat (rcases List.mem_cons.1 hi with rfl | hi; · (first | exact Still.ld1 rfl rfl rfl rfl rfl | exact Still.ldN rfl rfl rfl rfl | exact Still.len rfl rfl rfl rfl rfl | exact Still.skip rfl rfl rfl | exact Still.ldRow1 rfl rfl rfl (by assumption) (by assumption) rfl rfl | exact Still.ldR rfl rfl rfl (by apply_assumption) rfl))); cases hi)) rfl (fun v G1 hG1 => ?_)
            obtain ⟨a1, c1, rfl⟩ := hG1.form
            rw [List.nil_append] at hG1 ⊢
            repeat' (first | refine Ops.bs1 rfl rfl rfl rfl rfl rfl rfl (by first | exact noPd rfl | (intro v A' hR i hi; obtain ⟨b, rfl, rfl⟩ := hR; (repeat (rcases List.mem_cons.1 hi with rfl | hi; · (first | exact Still.ld1 rfl rfl rfl rfl rfl | exact Still.ldN rfl rfl rfl rfl | exact Still.len rfl rfl rfl rfl rfl | exact Still.skip rfl rfl rfl | exact Still.ldRow1 rfl rfl rfl (by assumption) (by assumption) rfl rfl | exact Still.ldR rfl rfl rfl (by apply_assumption) rfl))); cases hi)) (fun b => ?_))
            refine Ops.app1 (rows := l.map Ev.row) hG1 (by rw [hlm]; omega) (by rw [hlm]; omega) rfl rfl rfl rfl (by rfl) (by rfl) rfl (noPd rfl) rfl (fun v G2 hG2 => ?_)
            have hO : OwnV v (l ++ [e]) G2 := by
              unfold OwnV
              rw [List.map_append]
              exact hG2
            clear hG2
            obtain ⟨a3, c3, rfl⟩ := hO.form
            skip
            have hcon := ConB.lend (P := Try.prog) (B1 := baseOf w) (G := G2) fun B0 hx0 hG => hfi B0 a3 c3 hx0 (hO.vin hG)
            have hcon : ConB Try.prog (baseOf w) 10 _ G2 _ := hcon
            refine Ops.callB hcon (Ext.refl _) rfl (noPd rfl) rfl rfl rfl (fun v A2 hR => ?_)
            obtain ⟨A3, rfl, rfl⟩ := hR
            repeat' (first | refine Ops.mv rfl rfl rfl rfl ?_ | refine Ops.asg rfl rfl rfl rfl ?_ | refine Ops.ext rfl rfl rfl rfl rfl ?_ | refine Ops.stN rfl rfl rfl rfl rfl rfl (by first | exact noPd rfl | (intro v A' hR i hi; obtain rfl := hR; (repeat (rcases List.mem_cons.1 hi with rfl | hi; · (first | exact Still.ld1 rfl rfl rfl rfl rfl | exact Still.ldN rfl rfl rfl rfl | exact Still.len rfl rfl rfl rfl rfl | exact Still.skip rfl rfl rfl | exact Still.ldRow1 rfl rfl rfl (by assumption) (by assumption) rfl rfl | exact Still.ldR rfl rfl rfl (by apply_assumption) rfl))); cases hi)) ?_)
            exact Ops.nilN (meet_end (Q := fun _ _ _ => True) _ trivial ⟨rfl, rfl, rfl, rfl, rfl, trivial⟩ (fun w h => h.split))
          · skip
            repeat' (first | refine Ops.bs1 rfl rfl rfl rfl rfl rfl rfl (by first | exact noPd rfl | (intro v A' hR i hi; obtain ⟨b, rfl, rfl⟩ := hR; (repeat (rcases List.mem_cons.1 hi with rfl | hi; · (first | exact Still.ld1 rfl rfl rfl rfl rfl | exact Still.ldN rfl rfl rfl rfl | exact Still.len rfl rfl rfl rfl rfl | exact Still.skip rfl rfl rfl | exact Still.ldRow1 rfl rfl rfl (by assumption) (by assumption) rfl rfl | exact Still.ldR rfl rfl rfl (by apply_assumption) rfl))); cases hi)) (fun b => ?_))
            refine Ops.appS (rows := []) (news := l.map Ev.row) Own.empty (hrl _) (by rw [hlm, List.length_nil]; omega) (by rw [hlm, List.length_nil]; omega) rfl rfl rfl rfl rfl (by first | exact noPd rfl | (intro v A' hR i hi; obtain ⟨G2, hR, rfl⟩ := hR; (repeat (rcases List.mem_cons.1 hi with rfl | hi; · (first | exact Still.ld1 rfl rfl rfl rfl rfl | exact Still.ldN rfl rfl rfl rfl | exact Still.len rfl rfl rfl rfl rfl | exact Still.skip rfl rfl rfl | exact Still.ldRow1 rfl rfl rfl (by assumption) (by assumption) rfl rfl | exact Still.ldR rfl rfl rfl (by apply_assumption) rfl))); cases hi)) rfl (fun v G1 hG1 => ?_)
            obtain ⟨a1, c1, rfl⟩ := hG1.form
            rw [List.nil_append] at hG1 ⊢
            skip
            refine Ops.app1 (rows := l.map Ev.row) hG1 (by rw [hlm]; omega) (by rw [hlm]; omega) rfl rfl rfl rfl (by rfl) (by rfl) rfl (noPd rfl) rfl (fun v G2 hG2 => ?_)
            have hO : OwnV v (l ++ [e]) G2 := by
              unfold OwnV
              rw [List.map_append]
              exact hG2
            clear hG2
            obtain ⟨a3, c3, rfl⟩ := hO.form
            skip
            have hcon := ConB.lend (P := Try.prog) (B1 := baseOf w) (G := G2) fun B0 hx0 hG => hfi B0 a3 c3 hx0 (hO.vin hG)
            have hcon : ConB Try.prog (baseOf w) 10 _ G2 _ := hcon
            refine Ops.callB hcon (Ext.refl _) rfl (noPd rfl) rfl rfl rfl (fun v A2 hR => ?_)
            obtain ⟨A3, rfl, rfl⟩ := hR
            repeat' (first | refine Ops.mv rfl rfl rfl rfl ?_ | refine Ops.asg rfl rfl rfl rfl ?_ | refine Ops.ext rfl rfl rfl rfl rfl ?_ | refine Ops.stN rfl rfl rfl rfl rfl rfl (by first | exact noPd rfl | (intro v A' hR i hi; obtain rfl := hR; (repeat (rcases List.mem_cons.1 hi with rfl | hi; · (first | exact Still.ld1 rfl rfl rfl rfl rfl | exact Still.ldN rfl rfl rfl rfl | exact Still.len rfl rfl rfl rfl rfl | exact Still.skip rfl rfl rfl | exact Still.ldRow1 rfl rfl rfl (by assumption) (by assumption) rfl rfl | exact Still.ldR rfl rfl rfl (by apply_assumption) rfl))); cases hi)) ?_)
            exact Ops.nilN (meet_end (Q := fun _ _ _ => True) _ trivial ⟨rfl, rfl, rfl, rfl, rfl, trivial⟩ (fun w h => h.split))
        · skip
          repeat' (first | refine Ops.bs0 rfl rfl rfl (by first | exact noPd rfl | (intro v A' hR i hi; obtain ⟨b, rfl, rfl⟩ := hR; (repeat (rcases List.mem_cons.1 hi with rfl | hi; · (first | exact Still.ld1 rfl rfl rfl rfl rfl | exact Still.ldN rfl rfl rfl rfl | exact Still.len rfl rfl rfl rfl rfl | exact Still.skip rfl rfl rfl | exact Still.ldRow1 rfl rfl rfl (by assumption) (by assumption) rfl rfl | exact Still.ldR rfl rfl rfl (by apply_assumption) rfl))); cases hi)) (fun b => ?_) | refine Ops.bs1 rfl rfl rfl rfl rfl rfl rfl (by first | exact noPd rfl | (intro v A' hR i hi; obtain ⟨b, rfl, rfl⟩ := hR; (repeat (rcases List.mem_cons.1 hi with rfl | hi; · (first | exact Still.ld1 rfl rfl rfl rfl rfl | exact Still.ldN rfl rfl rfl rfl | exact Still.len rfl rfl rfl rfl rfl | exact Still.skip rfl rfl rfl | exact Still.ldRow1 rfl rfl rfl (by assumption) (by assumption) rfl rfl | exact Still.ldR rfl rfl rfl (by apply_assumption) rfl))); cases hi)) (fun b => ?_))
          refine Ops.appS (rows := []) (news := l.map Ev.row) Own.empty (hrl _) (by rw [hlm, List.length_nil]; omega) (by rw [hlm, List.length_nil]; omega) rfl rfl rfl rfl rfl (by first | exact noPd rfl | (intro v A' hR i hi; obtain ⟨G2, hR, rfl⟩ := hR; (repeat (rcases List.mem_cons.1 hi with rfl | hi; · (first | exact Still.ld1 rfl rfl rfl rfl rfl | exact Still.ldN rfl rfl rfl rfl | exact Still.len rfl rfl rfl rfl rfl | exact Still.skip rfl rfl rfl | exact Still.ldRow1 rfl rfl rfl (by assumption) (by assumption) rfl rfl | exact Still.ldR rfl rfl rfl (by apply_assumption) rfl))); cases hi)) rfl (fun v G1 hG1 => ?_)
          obtain ⟨a1, c1, rfl⟩ := hG1.form
          rw [List.nil_append] at hG1 ⊢
          skip
          refine Ops.app1 (rows := l.map Ev.row) hG1 (by rw [hlm]; omega) (by rw [hlm]; omega) rfl rfl rfl rfl (by rfl) (by rfl) rfl (noPd rfl) rfl (fun v G2 hG2 => ?_)
          have hO : OwnV v (l ++ [e]) G2 := by
            unfold OwnV
            rw [List.map_append]
            exact hG2
          clear hG2
          obtain ⟨a3, c3, rfl⟩ := hO.form
          skip
          have hcon := ConB.lend (P := Try.prog) (B1 := baseOf w) (G := G2) fun B0 hx0 hG => hfi B0 a3 c3 hx0 (hO.vin hG)
          have hcon : ConB Try.prog (baseOf w) 10 _ G2 _ := hcon
          refine Ops.callB hcon (Ext.refl _) rfl (noPd rfl) rfl rfl rfl (fun v A2 hR => ?_)
          obtain ⟨A3, rfl, rfl⟩ := hR
          repeat' (first | refine Ops.mv rfl rfl rfl rfl ?_ | refine Ops.asg rfl rfl rfl rfl ?_ | refine Ops.ext rfl rfl rfl rfl rfl ?_ | refine Ops.stN rfl rfl rfl rfl rfl rfl (by first | exact noPd rfl | (intro v A' hR i hi; obtain rfl := hR; (repeat (rcases List.mem_cons.1 hi with rfl | hi; · (first | exact Still.ld1 rfl rfl rfl rfl rfl | exact Still.ldN rfl rfl rfl rfl | exact Still.len rfl rfl rfl rfl rfl | exact Still.skip rfl rfl rfl | exact Still.ldRow1 rfl rfl rfl (by assumption) (by assumption) rfl rfl | exact Still.ldR rfl rfl rfl (by apply_assumption) rfl))); cases hi)) ?_)
          exact Ops.nilN (meet_end (Q := fun _ _ _ => True) _ trivial ⟨rfl, rfl, rfl, rfl, rfl, trivial⟩ (fun w h => h.split))
    · have hfl : fh.2 = l.length ∨ fv = true := by cases fv; exact .inl (hat' rfl); exact .inr rfl
      cases fv
      · have hfl : fh.2 = l.length := hat' rfl
        have hnt : (!false) = true := rfl
        rw [hnt]
        repeat' (first | refine Cd.seq ?_ | refine Cd.reg ?_ | refine Ops.mv rfl rfl rfl rfl ?_ | refine Ops.fa0 rfl rfl rfl rfl ?_ | refine Ops.ld1 rfl rfl rfl rfl rfl ?_ | refine Ops.lenS rfl rfl rfl rfl ?_ | refine Ops.bin rfl rfl rfl rfl rfl ?_ | refine Ops.un rfl rfl rfl rfl ?_ | refine Ops.pickT rfl rfl rfl rfl rfl ?_ | refine Ops.pickF rfl rfl rfl rfl rfl ?_ | ((fail_if_success refine Ops.probe rfl ?_); refine Ops.gT rfl rfl (by first | rfl | assumption | (simp only [decide_eq_true_eq, decide_eq_false_iff_not, Bool.not_eq_true', Bool.not_eq_false', Bool.not_eq_eq_eq_not, Bool.not_true, Bool.not_false, beq_iff_eq, beq_eq_false_iff_ne, ne_eq, decide_eq_decide, eq_self, true_iff, iff_true, not_true_eq_false, not_false_eq_true]; first | done | omega)) ?_))
        refine Ops.call fixed_spec rfl (noPd rfl) rfl rfl rfl (fun v A2 hR => ?_)
        obtain ⟨rfl, rfl⟩ := hR
        repeat' (first | refine Ops.nil ?_ | refine Ops.asg rfl rfl rfl rfl ?_ | refine Ops.pickT rfl rfl rfl rfl rfl ?_)
        exact Cd.ret (ret1 (A' := []) rfl (Res.tmp rfl) (fun _ h => h.split) rfl)
      · have hnt : (!true) = false := rfl
        rw [hnt]
        repeat' (first | refine Cd.seq ?_ | refine Cd.reg ?_ | refine Ops.mv rfl rfl rfl rfl ?_ | refine Ops.bin rfl rfl rfl rfl rfl ?_ | refine Ops.un rfl rfl rfl rfl ?_ | refine Ops.pickT rfl rfl rfl rfl rfl ?_ | refine Ops.gSkip rfl rfl rfl ?_)
        refine Ops.call fixed_spec rfl (noPd rfl) rfl rfl rfl (fun v A2 hR => ?_)
        obtain ⟨rfl, rfl⟩ := hR
        repeat' (first | refine Ops.nil ?_ | refine Ops.asg rfl rfl rfl rfl ?_ | refine Ops.pickT rfl rfl rfl rfl rfl ?_)
        exact Cd.ret (ret1 (A' := []) rfl (Res.tmp rfl) (fun _ h => h.split) rfl)
end Go.Proofs.Ytfghnepmbgbnoaa
