import Derived.Test.YtfghnepmbgbnoaaA27
import Derived.Test.YtfghnepmbgbnoaaB6
namespace Go.Proofs.Ytfghnepmbgbnoaa
open Go Go.Sep Go.Proofs
set_option maxRecDepth 10000
set_option maxHeartbeats 16000000
set_option synthInstance.maxSize 2000
set_option linter.unusedSimpArgs false
set_option linter.unusedVariables false

def cnts (k : Int) (l : List Ev) : List Int := (List.range 9).map fun (n : Nat) => ((cntF k (n : Int) l : Nat) : Int)
theorem cnts_len (k : Int) (l : List Ev) : (cnts k l).length = 9 := by simp [cnts]
theorem cnts_at {k n : Int} {l : List Ev} (h0 : 0 ≤ n) (h8 : n ≤ 8) : (cnts k l)[n.toNat]? = some ((cntF k n l : Nat) : Int) := by
  unfold cnts
  rw [List.getElem?_map, List.getElem?_range (by omega)]
  simp only [Option.map_some]
  rw [Int.toNat_of_nonneg h0]
theorem cnts_other {k : Int} {l : List Ev} {e : Ev} (h : e.kind ≠ k) : cnts k (l ++ [e]) = cnts k l := by
  unfold cnts
  apply List.map_congr_left
  intro n _
  rw [cntF_snoc, if_neg (fun q => h q.1)]; rfl
theorem cnts_own {k : Int} {l : List Ev} {e : Ev} (h : e.kind = k) (h0 : 0 ≤ e.job) (h8 : e.job ≤ 8) : cnts k (l ++ [e]) = (cnts k l).set e.job.toNat ((cntF k e.job l : Nat) + 1 : Int) := by
  apply List.ext_getElem?
  intro q
  by_cases hq : q < 9
  · have e1 := cnts_at (k := k) (n := (q : Int)) (l := l ++ [e]) (by omega) (by omega)
    have e2 := cnts_at (k := k) (n := (q : Int)) (l := l) (by omega) (by omega)
    rw [Int.toNat_natCast] at e1 e2
    rw [e1, cntF_snoc]
    by_cases hj : e.job.toNat = q
    · have hjq : e.job = (q : Int) := by omega
      subst hj
      rw [List.getElem?_set_self (by rw [cnts_len]; omega), if_pos ⟨h, hjq⟩, ← hjq]; rfl
    · rw [List.getElem?_set_ne hj, e2, if_neg (fun z => hj (by omega))]; rfl
  · rw [List.getElem?_eq_none (by rw [cnts_len]; omega), List.getElem?_eq_none (by rw [List.length_set, cnts_len]; omega)]
def sameE (x y : Ev) : Bool := decide (y.kind = 12) && (decide (y.job = x.job) && (decide (y.badge = x.badge) && decide (y.rcode = x.rcode ∧ y.rbits = x.rbits)))
theorem allF_bad {l : List Ev} (h : (allF l).1 ≠ []) : (allF l).2 = 0 := by
  unfold allF at h ⊢
  split
  · rename_i hc; rw [if_pos hc] at h; exact absurd rfl h
  · rename_i hc
    rw [if_neg hc] at h
    split
    · rename_i hd; rw [if_pos hd] at h; exact absurd rfl h
    · rfl
theorem sbool {a b : Bool} (h : a = b) : some (Value.bool a) = some (Value.bool b) := by rw [h]
theorem sint {a b : Int} (h : a = b) : some (Value.int .i64 a) = some (Value.int .i64 b) := by rw [h]

theorem audit_means (w : World) (sa : Option Addr) (cap : Nat) (l : List Ev) (hL : LsOk (baseOf w) sa l) (hcap : l.length ≤ cap) :
    Calls Try.prog 5 #[.slice sa l.length cap] w fun x w' => x = .returned (.bool true) ∧ RowKit.Below w.heap.size w w' := by
  have hfst := first_spec (baseOf w) sa cap l hL
  have hall0 := rall_spec (baseOf w) sa cap l hL
  have hfew2 := hL.few
  refine calls_base (vs := [_]) Try.func5 rfl Try.ntmps5 rfl ?_
  generalize hc6 : Code.seq (Code.region 6 _ _) _ = c6
  repeat' (first | refine Cd.seq ?_ | refine Cd.reg ?_ | refine Ops.mv rfl rfl rfl rfl ?_ | refine Ops.asg rfl rfl rfl rfl ?_)
  refine Ops.callB hfst (Ext.refl _) rfl (noPd rfl) rfl rfl rfl (fun v A' hR => ?_)
  obtain rfl := hR
  generalize (allF l).1.headD (0, 0) = fh0
  by_cases h1 : (allF l).1 = []
  case neg =>
    have hany : (!decide ((allF l).1 = [])) = true := by simp [h1]
    have h2 := allF_bad h1
    rw [hany, h2]
    rw [h2] at hall0
    repeat' (first | refine Cd.seq ?_ | refine Cd.reg ?_ | refine Ops.nil ?_ | refine Ops.mv rfl rfl rfl rfl ?_ | refine Ops.asg rfl rfl rfl rfl ?_ | refine Ops.pickT rfl rfl rfl rfl rfl ?_ | refine Ops.ext rfl rfl rfl rfl rfl ?_ | refine Ops.alloc rfl rfl rfl (noPd rfl) (fun b => ?_) | refine Ops.stN rfl rfl rfl rfl rfl rfl (noPd rfl) ?_ | refine Ops.gSkip rfl rfl rfl ?_ | refine Cd.condT rfl rfl ?_)
    refine Ops.callB hall0 (Ext.refl _) rfl (noPd rfl) rfl rfl rfl (fun v A2 hR => ?_)
    obtain ⟨⟨sv, rfl⟩, rfl⟩ := hR
    repeat' (first | refine Cd.seq ?_ | refine Cd.reg ?_ | refine Ops.mv rfl rfl rfl rfl ?_ | refine Ops.asg rfl rfl rfl rfl ?_ | refine Ops.bin rfl rfl rfl rfl rfl ?_ | refine Ops.ext rfl rfl rfl rfl rfl ?_)
    refine Ops.call fixed_spec rfl (noPd rfl) rfl rfl rfl (fun v A2 hR => ?_)
    obtain ⟨rfl, rfl⟩ := hR
    repeat' (first | refine Ops.nil ?_ | refine Ops.asg rfl rfl rfl rfl ?_ | refine Ops.pickT rfl rfl rfl rfl rfl ?_)
    exact Cd.ret (ret1 (A' := []) rfl (Res.tmp rfl) (fun _ h => h.split) rfl)
  have hany : (!decide ((allF l).1 = [])) = false := by simp [h1]
  rw [hany]
  by_cases h2 : (allF l).2 = 0
  case neg =>
    generalize (allF l).2 = er at h2 hall0 ⊢
    repeat' (first | refine Cd.seq ?_ | refine Cd.reg ?_ | refine Ops.nil ?_ | refine Ops.mv rfl rfl rfl rfl ?_ | refine Ops.asg rfl rfl rfl rfl ?_ | refine Ops.bin rfl rfl rfl rfl rfl ?_ | refine Ops.pickF rfl rfl rfl rfl rfl ?_ | refine Ops.ext rfl rfl rfl rfl rfl ?_ | refine Ops.alloc rfl rfl rfl (noPd rfl) (fun b => ?_) | refine Ops.stN rfl rfl rfl rfl rfl rfl (noPd rfl) ?_ | refine Cd.condT rfl (by first | rfl | assumption | (simp only [decide_eq_true_eq, decide_eq_false_iff_not, Bool.not_eq_true', Bool.not_eq_false', Bool.not_eq_eq_eq_not, Bool.not_true, Bool.not_false, beq_iff_eq, beq_eq_false_iff_ne, ne_eq, decide_eq_decide, eq_self, true_iff, iff_true, not_true_eq_false, not_false_eq_true]; first | done | omega)) ?_)
    refine Ops.callB hall0 (Ext.refl _) rfl (noPd rfl) rfl rfl rfl (fun v A2 hR => ?_)
    obtain ⟨⟨sv, rfl⟩, rfl⟩ := hR
    repeat' (first | refine Cd.seq ?_ | refine Cd.reg ?_ | refine Ops.mv rfl rfl rfl rfl ?_ | refine Ops.asg rfl rfl rfl rfl ?_ | refine Ops.bin rfl rfl rfl rfl rfl ?_ | refine Ops.ext rfl rfl rfl rfl rfl ?_ | ((fail_if_success refine Ops.probe rfl ?_); refine Ops.gT rfl rfl (by first | rfl | assumption | (simp only [decide_eq_true_eq, decide_eq_false_iff_not, Bool.not_eq_true', Bool.not_eq_false', Bool.not_eq_eq_eq_not, Bool.not_true, Bool.not_false, beq_iff_eq, beq_eq_false_iff_ne, ne_eq, decide_eq_decide, eq_self, true_iff, iff_true, not_true_eq_false, not_false_eq_true]; first | done | omega)) ?_))
    refine Ops.call fixed_spec rfl (noPd rfl) rfl rfl rfl (fun v A2 hR => ?_)
    obtain ⟨rfl, rfl⟩ := hR
    repeat' (first | refine Ops.nil ?_ | refine Ops.asg rfl rfl rfl rfl ?_ | refine Ops.pickT rfl rfl rfl rfl rfl ?_)
    exact Cd.ret (ret1 (A' := []) rfl (Res.tmp rfl) (fun _ h => h.split) rfl)
  have hall : allF l = ([], 0) := Prod.ext h1 h2
  rw [h2]
  obtain ⟨p1, p2, p3⟩ := allF_ok hall
  obtain ⟨mr1, mr2⟩ := means_run l Au.new 0 [] Means.new p3.symm
  rw [List.nil_append] at mr1
  clear hfst hall0
  repeat' (first | refine Cd.seq ?_ | refine Cd.reg ?_ | refine Ops.nil ?_ | refine Ops.mv rfl rfl rfl rfl ?_ | refine Ops.asg rfl rfl rfl rfl ?_ | refine Ops.bin rfl rfl rfl rfl rfl ?_ | refine Ops.pickF rfl rfl rfl rfl rfl ?_ | refine Ops.ext rfl rfl rfl rfl rfl ?_ | refine Ops.alloc rfl rfl rfl (noPd rfl) (fun b => ?_) | refine Ops.stN rfl rfl rfl rfl rfl rfl (noPd rfl) ?_ | refine Cd.condF rfl rfl ?_ | refine Cd.skip (Cd.next ?_))
  subst hc6
  refine Cd.cut (σ := Nat × Nat) (fun _ => True) (fun s => [(0, .slice sa l.length cap), (8, .int .i64 0), (9, .slice (some ⟨s.1, 0, none⟩) 9 9), (10, .slice (some ⟨s.2, 0, none⟩) 9 9)]) (fun s => [IBk s.1 (cnts 9 []), IBk s.2 (cnts 7 [])]) ?_ (fun s _ => ?_)
  · refine Cd.draw [(0, 4, []), (2, 0, []), (1, 2, []), (3, 0, [])] (by kernel_rfl) (by kernel_rfl) (by simp only [picked, nth]; exact rfl) ?_
    refine Ops.fork' [(1, 4, []), (0, 2, []), (2, 0, []), (3, 0, [])] (by kernel_rfl) rfl (by simp only [picked, nth]; exact rfl) ?_ ?_
    · refine Ops.mk1 rfl rfl rfl rfl (by omega) (by omega) (by decide) rfl (noPd rfl) (fun rb => ?_)
      repeat' (first | refine Ops.asg rfl rfl rfl rfl ?_)
      refine Ops.mk1 rfl rfl rfl rfl (by omega) (by omega) (by decide) rfl (noPd rfl) (fun lb => ?_)
      repeat' (first | refine Ops.asg rfl rfl rfl rfl ?_)
      exact Ops.nilN (meet_end (Q := fun _ _ _ => True) (rb, lb) trivial ⟨rfl, rfl, rfl, rfl, trivial⟩ (fun w h => (h.split : Sat _ [(rb, cl (List.replicate (9 : Int).toNat (.int .i64 0)) 3), (lb, cl (List.replicate (9 : Int).toNat (.int .i64 0)) 3)] _)))
    · refine Ops.mk1 rfl rfl rfl rfl (by omega) (by omega) (by decide) rfl (noPd rfl) (fun lb => ?_)
      skip
      refine Ops.mk1 rfl rfl rfl rfl (by omega) (by omega) (by decide) rfl (noPd rfl) (fun rb => ?_)
      repeat' (first | refine Ops.asg rfl rfl rfl rfl ?_)
      exact Ops.nilN (meet_end (Q := fun _ _ _ => True) (rb, lb) trivial ⟨rfl, rfl, rfl, rfl, trivial⟩ (fun w h => (h.split : Sat _ [(rb, cl (List.replicate (9 : Int).toNat (.int .i64 0)) 3), (lb, cl (List.replicate (9 : Int).toNat (.int .i64 0)) 3)] _)))
  obtain ⟨rb, lb⟩ := s
  dsimp only
  repeat' (first | refine Cd.seq ?_ | refine Cd.reg ?_ | refine Ops.nil ?_ | refine Ops.asg rfl rfl rfl rfl ?_ | refine Cd.block ?_)
  refine Cd.loopK (fun i : Nat => i ≤ l.length) (fun i => [(0, .slice sa l.length cap), (8, .int .i64 (lastG (l.take i))), (9, .slice (some ⟨rb, 0, none⟩) 9 9), (10, .slice (some ⟨lb, 0, none⟩) 9 9), (11, .int .i64 i)]) (fun i => [IBk rb (cnts 9 (l.take i)), IBk lb (cnts 7 (l.take i))]) (fun i => l.length - i) 0 (Nat.zero_le _) ⟨rfl, rfl, rfl, rfl, rfl, trivial⟩ (fun w h => h) (fun i hi => ?_)
  by_cases hil : i < l.length
  · have hil' : (i : Int) < l.length := by omega
    obtain ⟨x, hx⟩ : ∃ x, l[i]? = some x := ⟨_, List.getElem?_eq_getElem hil⟩
    have hmx := p2 x (List.mem_of_getElem? hx)
    obtain ⟨says5, says9⟩ := mr2 i x hx
    rw [List.nil_append] at says5 says9
    simp only [mayE, Bool.and_eq_true, Bool.or_eq_true, Bool.not_eq_true', decide_eq_true_eq, decide_eq_false_iff_not] at hmx
    obtain ⟨b0, off0, hsa0, hrd0⟩ := hL.vin i x hx
    subst hsa0
    have htk : l.take (i + 1) = l.take i ++ [x] := by
      obtain ⟨h1, rfl⟩ := List.getElem?_eq_some_iff.1 hx
      rw [List.take_succ_eq_append_getElem h1]
    have hr0 : ∀ A, Rd (baseOf w) A b0 (off0 + (i : Int).toNat * 13 + 0) (.int .i64 x.kind) := fun A => by rw [Int.toNat_natCast]; exact hrd0 A 0 _ rfl
    have hr4 : ∀ A, Rd (baseOf w) A b0 (off0 + (i : Int).toNat * 13 + 4) (.int .i64 x.job) := fun A => by rw [Int.toNat_natCast]; exact hrd0 A 4 _ rfl
    have hr5 : ∀ A, Rd (baseOf w) A b0 (off0 + (i : Int).toNat * 13 + 5) (.int .i64 x.badge) := fun A => by rw [Int.toNat_natCast]; exact hrd0 A 5 _ rfl
    have hr9 : ∀ A j u, [Value.int .i64 x.rcode, Value.int .u64 x.rbits][j]? = some u → Rd (baseOf w) A b0 (off0 + (i : Int).toNat * 13 + 9 + j) u := fun A j u hu => by
      rw [Int.toNat_natCast, Nat.add_assoc]
      refine hrd0 A (9 + j) u ?_
      match j, hu with
      | 0, hu => exact hu
      | 1, hu => exact hu
    clear hrd0
    have hgl : x.kind ≠ 5 → lastG (l.take (i + 1)) = lastG (l.take i) := fun h => by rw [htk, lastG_snoc, if_neg h]
    have hc7 : x.kind ≠ 7 → cnts 7 (l.take (i + 1)) = cnts 7 (l.take i) := fun h => by rw [htk, cnts_other h]
    have hc9 : x.kind ≠ 9 → cnts 9 (l.take (i + 1)) = cnts 9 (l.take i) := fun h => by rw [htk, cnts_other h]
    have hok9 := irows_ok (cnts 9 (l.take i))
    have hok7 := irows_ok (cnts 7 (l.take i))
    by_cases k5 : x.kind = 5
    · have hlt := says5 k5
      have hg5 : lastG (l.take (i + 1)) = x.badge := by rw [htk, lastG_snoc, if_pos k5]
      repeat' (first | refine Cd.seq ?_ | refine Cd.reg ?_ | refine Ops.nil ?_ | refine Ops.mv rfl rfl rfl rfl ?_ | refine Ops.asg rfl rfl rfl rfl ?_ | refine Ops.fa rfl rfl rfl rfl ?_ | refine Ops.lenS rfl rfl rfl rfl ?_ | refine Ops.addI rfl rfl rfl rfl (by omega) (by omega) rfl ?_ | refine Ops.bin rfl rfl rfl rfl rfl ?_ | refine Cd.block ?_ | refine Cd.skip (Cd.next ?_) | refine Ops.ixa rfl rfl rfl rfl (by omega) (by omega) rfl ?_ | refine Ops.ldR rfl rfl rfl (by apply_assumption) rfl ?_ | refine Cd.condT rfl (by first | rfl | assumption | (simp only [decide_eq_true_eq, decide_eq_false_iff_not, Bool.not_eq_true', Bool.not_eq_false', Bool.not_eq_eq_eq_not, Bool.not_true, Bool.not_false, beq_iff_eq, beq_eq_false_iff_ne, ne_eq, decide_eq_decide, eq_self, true_iff, iff_true, not_true_eq_false, not_false_eq_true]; first | done | omega)) ?_ | refine Cd.condF rfl (by first | rfl | assumption | (simp only [decide_eq_true_eq, decide_eq_false_iff_not, Bool.not_eq_true', Bool.not_eq_false', Bool.not_eq_eq_eq_not, Bool.not_true, Bool.not_false, beq_iff_eq, beq_eq_false_iff_ne, ne_eq, decide_eq_decide, eq_self, true_iff, iff_true, not_true_eq_false, not_false_eq_true]; first | done | omega)) ?_)
      exact Ops.nilN (round_end (i + 1) (by show i + 1 ≤ l.length; omega) (by show l.length - (i + 1) < l.length - i; omega) ⟨rfl, sint hg5.symm, rfl, rfl, rfl, trivial⟩ (fun w h => by
        show Sat _ [IBk rb (cnts 9 (l.take (i + 1))), IBk lb (cnts 7 (l.take (i + 1)))] _
        rw [hc7 (by omega), hc9 (by omega)]
        exact h.split))
    by_cases k7 : x.kind = 7
    · have hj : 1 ≤ x.job ∧ x.job ≤ 8 := by omega
      have hat := cnts_at (k := 7) (n := x.job) (l := l.take i) (by omega) hj.2
      have hrow : ((cnts 7 (l.take i)).map irow)[x.job.toNat]? = some [.int .i64 ((cntF 7 x.job (l.take i) : Nat) : Int)] := by rw [List.getElem?_map, hat]; rfl
      have hlt : x.job.toNat < ((cnts 7 (l.take i)).map irow).length := by rw [List.length_map, cnts_len]; omega
      have hown := cnts_own (k := 7) (l := l.take i) k7 (by omega) hj.2
      rw [← htk] at hown
      have hmp : ∀ v, ((cnts 7 (l.take i)).map irow).set x.job.toNat [.int .i64 v] = ((cnts 7 (l.take i)).set x.job.toNat v).map irow := fun v => by rw [List.map_set]
      have hcb : cntF 7 x.job (l.take i) ≤ l.length := Nat.le_trans (List.length_filter_le _ _) (by rw [List.length_take]; omega)
      repeat' (first | refine Cd.seq ?_ | refine Cd.reg ?_ | refine Ops.nil ?_ | refine Ops.mv rfl rfl rfl rfl ?_ | refine Ops.asg rfl rfl rfl rfl ?_ | refine Ops.fa rfl rfl rfl rfl ?_ | refine Ops.lenS rfl rfl rfl rfl ?_ | refine Ops.addI rfl rfl rfl rfl (by omega) (by omega) rfl ?_ | refine Ops.bin rfl rfl rfl rfl rfl ?_ | refine Cd.block ?_ | refine Cd.skip (Cd.next ?_) | refine Ops.ixa0 rfl rfl rfl rfl (by omega) (by omega) rfl ?_ | refine Ops.ixa rfl rfl rfl rfl (by omega) (by omega) rfl ?_ | refine Ops.ldCell rfl rfl rfl (by assumption) (by assumption) rfl ?_ | refine Ops.ldR rfl rfl rfl (by apply_assumption) rfl ?_ | refine Cd.condT rfl (by first | rfl | assumption | (simp only [decide_eq_true_eq, decide_eq_false_iff_not, Bool.not_eq_true', Bool.not_eq_false', Bool.not_eq_eq_eq_not, Bool.not_true, Bool.not_false, beq_iff_eq, beq_eq_false_iff_ne, ne_eq, decide_eq_decide, eq_self, true_iff, iff_true, not_true_eq_false, not_false_eq_true]; first | done | omega)) ?_ | refine Cd.condF rfl (by first | rfl | assumption | (simp only [decide_eq_true_eq, decide_eq_false_iff_not, Bool.not_eq_true', Bool.not_eq_false', Bool.not_eq_eq_eq_not, Bool.not_true, Bool.not_false, beq_iff_eq, beq_eq_false_iff_ne, ne_eq, decide_eq_decide, eq_self, true_iff, iff_true, not_true_eq_false, not_false_eq_true]; first | done | omega)) ?_)
      refine Ops.stRow rfl rfl rfl rfl rfl rfl hok7 hlt (noPd rfl) ?_
      rw [hmp, ← hown]
      repeat' (first | refine Cd.reg ?_ | refine Ops.mv rfl rfl rfl rfl ?_ | refine Ops.asg rfl rfl rfl rfl ?_ | refine Ops.addI rfl rfl rfl rfl (by omega) (by omega) rfl ?_)
      exact Ops.nilN (round_end (i + 1) (by show i + 1 ≤ l.length; omega) (by show l.length - (i + 1) < l.length - i; omega) ⟨rfl, sint (hgl k5).symm, rfl, rfl, rfl, trivial⟩ (fun w h => by
        show Sat _ [IBk rb (cnts 9 (l.take (i + 1))), IBk lb (cnts 7 (l.take (i + 1)))] _
        rw [hc9 (by omega)]
        exact h.split))
    by_cases k9 : x.kind = 9
    · have hj : 1 ≤ x.job ∧ x.job ≤ 8 := by omega
      have hat := cnts_at (k := 9) (n := x.job) (l := l.take i) (by omega) hj.2
      have hrow : ((cnts 9 (l.take i)).map irow)[x.job.toNat]? = some [.int .i64 ((cntF 9 x.job (l.take i) : Nat) : Int)] := by rw [List.getElem?_map, hat]; rfl
      have hlt : x.job.toNat < ((cnts 9 (l.take i)).map irow).length := by rw [List.length_map, cnts_len]; omega
      have hown := cnts_own (k := 9) (l := l.take i) k9 (by omega) hj.2
      rw [← htk] at hown
      have hmp : ∀ v, ((cnts 9 (l.take i)).map irow).set x.job.toNat [.int .i64 v] = ((cnts 9 (l.take i)).set x.job.toNat v).map irow := fun v => by rw [List.map_set]
      have hcb : cntF 9 x.job (l.take i) ≤ l.length := Nat.le_trans (List.length_filter_le _ _) (by rw [List.length_take]; omega)
      repeat' (first | refine Cd.seq ?_ | refine Cd.reg ?_ | refine Ops.nil ?_ | refine Ops.mv rfl rfl rfl rfl ?_ | refine Ops.asg rfl rfl rfl rfl ?_ | refine Ops.fa rfl rfl rfl rfl ?_ | refine Ops.lenS rfl rfl rfl rfl ?_ | refine Ops.addI rfl rfl rfl rfl (by omega) (by omega) rfl ?_ | refine Ops.bin rfl rfl rfl rfl rfl ?_ | refine Cd.block ?_ | refine Cd.skip (Cd.next ?_) | refine Ops.ixa0 rfl rfl rfl rfl (by omega) (by omega) rfl ?_ | refine Ops.ixa rfl rfl rfl rfl (by omega) (by omega) rfl ?_ | refine Ops.ldCell rfl rfl rfl (by assumption) (by assumption) rfl ?_ | refine Ops.ldR rfl rfl rfl (by apply_assumption) rfl ?_ | refine Cd.condT rfl (by first | rfl | assumption | (simp only [decide_eq_true_eq, decide_eq_false_iff_not, Bool.not_eq_true', Bool.not_eq_false', Bool.not_eq_eq_eq_not, Bool.not_true, Bool.not_false, beq_iff_eq, beq_eq_false_iff_ne, ne_eq, decide_eq_decide, eq_self, true_iff, iff_true, not_true_eq_false, not_false_eq_true]; first | done | omega)) ?_ | refine Cd.condF rfl (by first | rfl | assumption | (simp only [decide_eq_true_eq, decide_eq_false_iff_not, Bool.not_eq_true', Bool.not_eq_false', Bool.not_eq_eq_eq_not, Bool.not_true, Bool.not_false, beq_iff_eq, beq_eq_false_iff_ne, ne_eq, decide_eq_decide, eq_self, true_iff, iff_true, not_true_eq_false, not_false_eq_true]; first | done | omega)) ?_)
      refine Ops.stRow rfl rfl rfl rfl rfl rfl hok9 hlt (noPd rfl) ?_
      rw [hmp, ← hown]
      repeat' (first | refine Cd.seq ?_ | refine Cd.reg ?_ | refine Ops.nil ?_ | refine Ops.asg rfl rfl rfl rfl ?_ | refine Cd.block ?_)
      refine Cd.loopK (σ := Nat × Bool) (fun s => s.1 ≤ i ∧ s.2 = (l.take s.1).any (sameE x)) (fun s => [(0, .slice (some ⟨b0, off0, none⟩) l.length cap), (8, .int .i64 (lastG (l.take i))), (9, .slice (some ⟨rb, 0, none⟩) 9 9), (10, .slice (some ⟨lb, 0, none⟩) 9 9), (11, .int .i64 i), (12, .bool s.2), (13, .int .i64 s.1)]) (fun _ => [IBk rb (cnts 9 (l.take (i + 1))), IBk lb (cnts 7 (l.take i))]) (fun s => i - s.1) (0, false) ⟨Nat.zero_le _, rfl⟩ ⟨rfl, rfl, rfl, rfl, rfl, rfl, rfl, trivial⟩ (fun w h => h.split) (fun s hs => ?_)
      obtain ⟨k, th⟩ := s
      obtain ⟨hk, hth⟩ := hs
      dsimp only at hk hth ⊢
      by_cases hki : k < i
      · have hki' : (k : Int) < i := by omega
        have hkl : k < l.length := by omega
        have hkl' : (k : Int) < l.length := by omega
        obtain ⟨y, hy⟩ : ∃ y, l[k]? = some y := ⟨_, List.getElem?_eq_getElem hkl⟩
        obtain ⟨b1, off1, hsa1, hrd1⟩ := hL.vin k y hy
        injection hsa1 with hsa1
        injection hsa1 with g1 g2 g3
        subst g1; subst g2
        have htk2 : l.take (k + 1) = l.take k ++ [y] := by
          obtain ⟨h1, rfl⟩ := List.getElem?_eq_some_iff.1 hy
          rw [List.take_succ_eq_append_getElem h1]
        have hany2 : (l.take (k + 1)).any (sameE x) = ((l.take k).any (sameE x) || sameE x y) := by rw [htk2, List.any_append]; simp
        have hk0 : ∀ A, Rd (baseOf w) A b0 (off0 + (k : Int).toNat * 13 + 0) (.int .i64 y.kind) := fun A => by rw [Int.toNat_natCast]; exact hrd1 A 0 _ rfl
        have hk4 : ∀ A, Rd (baseOf w) A b0 (off0 + (k : Int).toNat * 13 + 4) (.int .i64 y.job) := fun A => by rw [Int.toNat_natCast]; exact hrd1 A 4 _ rfl
        have hk5 : ∀ A, Rd (baseOf w) A b0 (off0 + (k : Int).toNat * 13 + 5) (.int .i64 y.badge) := fun A => by rw [Int.toNat_natCast]; exact hrd1 A 5 _ rfl
        have hk9 : ∀ A j u, [Value.int .i64 y.rcode, Value.int .u64 y.rbits][j]? = some u → Rd (baseOf w) A b0 (off0 + (k : Int).toNat * 13 + 9 + j) u := fun A j u hu => by
          rw [Int.toNat_natCast, Nat.add_assoc]
          refine hrd1 A (9 + j) u ?_
          match j, hu with
          | 0, hu => exact hu
          | 1, hu => exact hu
        clear hrd1
        cases th
        · rw [← hth, Bool.false_or] at hany2
          by_cases y12 : y.kind = 12
          · by_cases yj : y.job = x.job
            · by_cases yb : y.badge = x.badge
              · repeat' (first | refine Cd.seq ?_ | refine Cd.reg ?_ | refine Ops.nil ?_ | refine Ops.mv rfl rfl rfl rfl ?_ | refine Ops.bin rfl rfl rfl rfl rfl ?_ | refine Cd.block ?_ | refine Cd.skip (Cd.next ?_) | refine Cd.condT rfl (by first | rfl | assumption | (simp only [decide_eq_true_eq, decide_eq_false_iff_not, Bool.not_eq_true', Bool.not_eq_false', Bool.not_eq_eq_eq_not, Bool.not_true, Bool.not_false, beq_iff_eq, beq_eq_false_iff_ne, ne_eq, decide_eq_decide, eq_self, true_iff, iff_true, not_true_eq_false, not_false_eq_true]; first | done | omega)) ?_)
                refine Cd.draw [(0, 0, []), (1, 0, []), (2, 0, []), (3, 0, []), (4, 0, []), (5, 0, []), (6, 1, []), (7, 0, []), (8, 0, []), (9, 0, []), (10, 0, []), (11, 0, []), (12, 0, []), (13, 1, []), (14, 0, []), (15, 0, []), (16, 0, []), (17, 0, []), (18, 1, []), (19, 0, []), (20, 0, []), (21, 0, []), (22, 0, []), (23, 0, []), (24, 0, []), (25, 0, []), (26, 1, []), (27, 0, []), (28, 0, []), (29, 0, []), (30, 0, []), (31, 1, []), (32, 0, []), (33, 0, []), (34, 0, []), (35, 0, []), (36, 0, []), (37, 0, []), (38, 0, []), (39, 1, []), (40, 0, []), (41, 0, []), (42, 0, []), (43, 0, []), (44, 1, []), (45, 0, []), (46, 0, []), (47, 0, []), (48, 2, [])] (by kernel_rfl) (by kernel_rfl) (by simp only [picked, nth]; exact rfl) ?_
                repeat' (first | refine Ops.mv rfl rfl rfl rfl ?_ | refine Ops.fa rfl rfl rfl rfl ?_ | refine Ops.bin rfl rfl rfl rfl rfl ?_ | refine Ops.pickT rfl rfl rfl rfl rfl ?_ | refine Ops.ixa rfl rfl rfl rfl (by omega) (by omega) rfl ?_ | refine Ops.ldR rfl rfl rfl (by apply_assumption) rfl ?_ | ((fail_if_success refine Ops.probe rfl ?_); refine Ops.gT rfl rfl (by first | rfl | assumption | (simp only [decide_eq_true_eq, decide_eq_false_iff_not, Bool.not_eq_true', Bool.not_eq_false', Bool.not_eq_eq_eq_not, Bool.not_true, Bool.not_false, beq_iff_eq, beq_eq_false_iff_ne, ne_eq, decide_eq_decide, eq_self, true_iff, iff_true, not_true_eq_false, not_false_eq_true]; first | done | omega)) ?_))
                refine Ops.ldRN (r := [Value.int .i64 y.rcode, Value.int .u64 y.rbits]) rfl rfl rfl rfl (hk9 _) rfl ?_
                repeat' (first | refine Ops.mv rfl rfl rfl rfl ?_ | refine Ops.fa rfl rfl rfl rfl ?_ | refine Ops.ixa rfl rfl rfl rfl (by omega) (by omega) rfl ?_)
                refine Ops.ldRN (r := [Value.int .i64 x.rcode, Value.int .u64 x.rbits]) rfl rfl rfl rfl (hr9 _) rfl ?_
                repeat' (first | refine Ops.nilN (inB (Cd.next ?_)) | refine Cd.reg ?_ | refine Ops.mv rfl rfl rfl rfl ?_ | refine Ops.asg rfl rfl rfl rfl ?_ | refine Ops.addI rfl rfl rfl rfl (by omega) (by omega) rfl ?_ | refine Ops.bin rfl rfl rfl rfl rfl ?_ | refine Ops.pickT rfl rfl rfl rfl rfl ?_ | refine Ops.pickF rfl rfl rfl rfl rfl ?_ | refine Ops.asgE rfl (noPd rfl) rfl rfl rfl ?_)
                exact Ops.nilN (round_end (k + 1, (l.take (k + 1)).any (sameE x)) ⟨by show k + 1 ≤ i; omega, rfl⟩ (by show i - (k + 1) < i - k; omega) ⟨rfl, rfl, rfl, rfl, rfl, sbool (by rw [hany2]; simp [sameE, y12, yj, yb]), rfl, trivial⟩ (fun w h => h.split))
              · repeat' (first | refine Cd.seq ?_ | refine Cd.reg ?_ | refine Ops.nil ?_ | refine Ops.mv rfl rfl rfl rfl ?_ | refine Ops.bin rfl rfl rfl rfl rfl ?_ | refine Cd.block ?_ | refine Cd.skip (Cd.next ?_) | refine Cd.condT rfl (by first | rfl | assumption | (simp only [decide_eq_true_eq, decide_eq_false_iff_not, Bool.not_eq_true', Bool.not_eq_false', Bool.not_eq_eq_eq_not, Bool.not_true, Bool.not_false, beq_iff_eq, beq_eq_false_iff_ne, ne_eq, decide_eq_decide, eq_self, true_iff, iff_true, not_true_eq_false, not_false_eq_true]; first | done | omega)) ?_)
                refine Cd.draw [(0, 0, []), (1, 0, []), (2, 0, []), (3, 0, []), (4, 0, []), (5, 0, []), (6, 1, []), (7, 0, []), (8, 0, []), (9, 0, []), (10, 0, []), (11, 0, []), (12, 0, []), (13, 1, []), (14, 0, []), (15, 0, []), (16, 0, []), (17, 0, []), (18, 1, []), (19, 0, []), (20, 0, []), (21, 0, []), (22, 0, []), (23, 0, []), (24, 0, []), (25, 0, []), (26, 1, []), (27, 0, []), (28, 0, []), (29, 0, []), (30, 0, []), (31, 1, []), (32, 0, []), (33, 0, []), (34, 0, []), (35, 0, []), (36, 0, []), (37, 0, []), (38, 0, []), (39, 1, []), (40, 0, []), (41, 0, []), (42, 0, []), (43, 0, []), (44, 1, []), (45, 0, []), (46, 0, []), (47, 0, []), (48, 2, [])] (by kernel_rfl) (by kernel_rfl) (by simp only [picked, nth]; exact rfl) ?_
                repeat' (first | refine Ops.nilN (inB (Cd.next ?_)) | refine Cd.reg ?_ | refine Ops.mv rfl rfl rfl rfl ?_ | refine Ops.asg rfl rfl rfl rfl ?_ | refine Ops.fa rfl rfl rfl rfl ?_ | refine Ops.addI rfl rfl rfl rfl (by omega) (by omega) rfl ?_ | refine Ops.bin rfl rfl rfl rfl rfl ?_ | refine Ops.pickT rfl rfl rfl rfl rfl ?_ | refine Ops.pickF rfl rfl rfl rfl rfl ?_ | refine Ops.gSkip rfl rfl rfl ?_ | refine Ops.asgE rfl (noPd rfl) rfl rfl rfl ?_ | refine Ops.ixa rfl rfl rfl rfl (by omega) (by omega) rfl ?_ | refine Ops.ldR rfl rfl rfl (by apply_assumption) rfl ?_ | ((fail_if_success refine Ops.probe rfl ?_); refine Ops.gT rfl rfl (by first | rfl | assumption | (simp only [decide_eq_true_eq, decide_eq_false_iff_not, Bool.not_eq_true', Bool.not_eq_false', Bool.not_eq_eq_eq_not, Bool.not_true, Bool.not_false, beq_iff_eq, beq_eq_false_iff_ne, ne_eq, decide_eq_decide, eq_self, true_iff, iff_true, not_true_eq_false, not_false_eq_true]; first | done | omega)) ?_) | ((fail_if_success refine Ops.probe rfl ?_); refine Ops.gF rfl rfl (by first | rfl | assumption | (simp only [decide_eq_true_eq, decide_eq_false_iff_not, Bool.not_eq_true', Bool.not_eq_false', Bool.not_eq_eq_eq_not, Bool.not_true, Bool.not_false, beq_iff_eq, beq_eq_false_iff_ne, ne_eq, decide_eq_decide, eq_self, true_iff, iff_true, not_true_eq_false, not_false_eq_true]; first | done | omega)) ?_))
                exact Ops.nilN (round_end (k + 1, (l.take (k + 1)).any (sameE x)) ⟨by show k + 1 ≤ i; omega, rfl⟩ (by show i - (k + 1) < i - k; omega) ⟨rfl, rfl, rfl, rfl, rfl, sbool (by rw [hany2]; simp [sameE, y12, yj, yb]), rfl, trivial⟩ (fun w h => h.split))
            · repeat' (first | refine Cd.seq ?_ | refine Cd.reg ?_ | refine Ops.nil ?_ | refine Ops.mv rfl rfl rfl rfl ?_ | refine Ops.bin rfl rfl rfl rfl rfl ?_ | refine Cd.block ?_ | refine Cd.skip (Cd.next ?_) | refine Cd.condT rfl (by first | rfl | assumption | (simp only [decide_eq_true_eq, decide_eq_false_iff_not, Bool.not_eq_true', Bool.not_eq_false', Bool.not_eq_eq_eq_not, Bool.not_true, Bool.not_false, beq_iff_eq, beq_eq_false_iff_ne, ne_eq, decide_eq_decide, eq_self, true_iff, iff_true, not_true_eq_false, not_false_eq_true]; first | done | omega)) ?_)
              refine Cd.draw [(0, 0, []), (1, 0, []), (2, 0, []), (3, 0, []), (4, 0, []), (5, 0, []), (6, 1, []), (7, 0, []), (8, 0, []), (9, 0, []), (10, 0, []), (11, 0, []), (12, 0, []), (13, 1, []), (14, 0, []), (15, 0, []), (16, 0, []), (17, 0, []), (18, 1, []), (19, 0, []), (20, 0, []), (21, 0, []), (22, 0, []), (23, 0, []), (24, 0, []), (25, 0, []), (26, 1, []), (27, 0, []), (28, 0, []), (29, 0, []), (30, 0, []), (31, 1, []), (32, 0, []), (33, 0, []), (34, 0, []), (35, 0, []), (36, 0, []), (37, 0, []), (38, 0, []), (39, 1, []), (40, 0, []), (41, 0, []), (42, 0, []), (43, 0, []), (44, 1, []), (45, 0, []), (46, 0, []), (47, 0, []), (48, 2, [])] (by kernel_rfl) (by kernel_rfl) (by simp only [picked, nth]; exact rfl) ?_
              repeat' (first | refine Ops.nilN (inB (Cd.next ?_)) | refine Cd.reg ?_ | refine Ops.mv rfl rfl rfl rfl ?_ | refine Ops.asg rfl rfl rfl rfl ?_ | refine Ops.fa rfl rfl rfl rfl ?_ | refine Ops.addI rfl rfl rfl rfl (by omega) (by omega) rfl ?_ | refine Ops.bin rfl rfl rfl rfl rfl ?_ | refine Ops.pickT rfl rfl rfl rfl rfl ?_ | refine Ops.pickF rfl rfl rfl rfl rfl ?_ | refine Ops.gSkip rfl rfl rfl ?_ | refine Ops.asgE rfl (noPd rfl) rfl rfl rfl ?_ | refine Ops.ixa rfl rfl rfl rfl (by omega) (by omega) rfl ?_ | refine Ops.ldR rfl rfl rfl (by apply_assumption) rfl ?_ | ((fail_if_success refine Ops.probe rfl ?_); refine Ops.gT rfl rfl (by first | rfl | assumption | (simp only [decide_eq_true_eq, decide_eq_false_iff_not, Bool.not_eq_true', Bool.not_eq_false', Bool.not_eq_eq_eq_not, Bool.not_true, Bool.not_false, beq_iff_eq, beq_eq_false_iff_ne, ne_eq, decide_eq_decide, eq_self, true_iff, iff_true, not_true_eq_false, not_false_eq_true]; first | done | omega)) ?_) | ((fail_if_success refine Ops.probe rfl ?_); refine Ops.gF rfl rfl (by first | rfl | assumption | (simp only [decide_eq_true_eq, decide_eq_false_iff_not, Bool.not_eq_true', Bool.not_eq_false', Bool.not_eq_eq_eq_not, Bool.not_true, Bool.not_false, beq_iff_eq, beq_eq_false_iff_ne, ne_eq, decide_eq_decide, eq_self, true_iff, iff_true, not_true_eq_false, not_false_eq_true]; first | done | omega)) ?_))
              exact Ops.nilN (round_end (k + 1, (l.take (k + 1)).any (sameE x)) ⟨by show k + 1 ≤ i; omega, rfl⟩ (by show i - (k + 1) < i - k; omega) ⟨rfl, rfl, rfl, rfl, rfl, sbool (by rw [hany2]; simp [sameE, y12, yj]), rfl, trivial⟩ (fun w h => h.split))
          · repeat' (first | refine Cd.seq ?_ | refine Cd.reg ?_ | refine Ops.nil ?_ | refine Ops.mv rfl rfl rfl rfl ?_ | refine Ops.bin rfl rfl rfl rfl rfl ?_ | refine Cd.block ?_ | refine Cd.skip (Cd.next ?_) | refine Cd.condT rfl (by first | rfl | assumption | (simp only [decide_eq_true_eq, decide_eq_false_iff_not, Bool.not_eq_true', Bool.not_eq_false', Bool.not_eq_eq_eq_not, Bool.not_true, Bool.not_false, beq_iff_eq, beq_eq_false_iff_ne, ne_eq, decide_eq_decide, eq_self, true_iff, iff_true, not_true_eq_false, not_false_eq_true]; first | done | omega)) ?_)
            refine Cd.draw [(0, 0, []), (1, 0, []), (2, 0, []), (3, 0, []), (4, 0, []), (5, 0, []), (6, 1, []), (7, 0, []), (8, 0, []), (9, 0, []), (10, 0, []), (11, 0, []), (12, 0, []), (13, 1, []), (14, 0, []), (15, 0, []), (16, 0, []), (17, 0, []), (18, 1, []), (19, 0, []), (20, 0, []), (21, 0, []), (22, 0, []), (23, 0, []), (24, 0, []), (25, 0, []), (26, 1, []), (27, 0, []), (28, 0, []), (29, 0, []), (30, 0, []), (31, 1, []), (32, 0, []), (33, 0, []), (34, 0, []), (35, 0, []), (36, 0, []), (37, 0, []), (38, 0, []), (39, 1, []), (40, 0, []), (41, 0, []), (42, 0, []), (43, 0, []), (44, 1, []), (45, 0, []), (46, 0, []), (47, 0, []), (48, 2, [])] (by kernel_rfl) (by kernel_rfl) (by simp only [picked, nth]; exact rfl) ?_
            repeat' (first | refine Ops.nilN (inB (Cd.next ?_)) | refine Cd.reg ?_ | refine Ops.mv rfl rfl rfl rfl ?_ | refine Ops.asg rfl rfl rfl rfl ?_ | refine Ops.fa rfl rfl rfl rfl ?_ | refine Ops.addI rfl rfl rfl rfl (by omega) (by omega) rfl ?_ | refine Ops.bin rfl rfl rfl rfl rfl ?_ | refine Ops.pickF rfl rfl rfl rfl rfl ?_ | refine Ops.gSkip rfl rfl rfl ?_ | refine Ops.asgE rfl (noPd rfl) rfl rfl rfl ?_ | refine Ops.ixa rfl rfl rfl rfl (by omega) (by omega) rfl ?_ | refine Ops.ldR rfl rfl rfl (by apply_assumption) rfl ?_ | ((fail_if_success refine Ops.probe rfl ?_); refine Ops.gF rfl rfl (by first | rfl | assumption | (simp only [decide_eq_true_eq, decide_eq_false_iff_not, Bool.not_eq_true', Bool.not_eq_false', Bool.not_eq_eq_eq_not, Bool.not_true, Bool.not_false, beq_iff_eq, beq_eq_false_iff_ne, ne_eq, decide_eq_decide, eq_self, true_iff, iff_true, not_true_eq_false, not_false_eq_true]; first | done | omega)) ?_))
            exact Ops.nilN (round_end (k + 1, (l.take (k + 1)).any (sameE x)) ⟨by show k + 1 ≤ i; omega, rfl⟩ (by show i - (k + 1) < i - k; omega) ⟨rfl, rfl, rfl, rfl, rfl, sbool (by rw [hany2]; simp [sameE, y12]), rfl, trivial⟩ (fun w h => h.split))
        · rw [← hth, Bool.true_or] at hany2
          repeat' (first | refine Cd.seq ?_ | refine Cd.reg ?_ | refine Ops.nil ?_ | refine Ops.mv rfl rfl rfl rfl ?_ | refine Ops.bin rfl rfl rfl rfl rfl ?_ | refine Cd.block ?_ | refine Cd.skip (Cd.next ?_) | refine Cd.condT rfl (by first | rfl | assumption | (simp only [decide_eq_true_eq, decide_eq_false_iff_not, Bool.not_eq_true', Bool.not_eq_false', Bool.not_eq_eq_eq_not, Bool.not_true, Bool.not_false, beq_iff_eq, beq_eq_false_iff_ne, ne_eq, decide_eq_decide, eq_self, true_iff, iff_true, not_true_eq_false, not_false_eq_true]; first | done | omega)) ?_)
          refine Cd.draw [(0, 0, []), (1, 0, []), (2, 0, []), (3, 0, []), (4, 0, []), (5, 0, []), (6, 1, []), (7, 0, []), (8, 0, []), (9, 0, []), (10, 0, []), (11, 0, []), (12, 0, []), (13, 1, []), (14, 0, []), (15, 0, []), (16, 0, []), (17, 0, []), (18, 1, []), (19, 0, []), (20, 0, []), (21, 0, []), (22, 0, []), (23, 0, []), (24, 0, []), (25, 0, []), (26, 1, []), (27, 0, []), (28, 0, []), (29, 0, []), (30, 0, []), (31, 1, []), (32, 0, []), (33, 0, []), (34, 0, []), (35, 0, []), (36, 0, []), (37, 0, []), (38, 0, []), (39, 1, []), (40, 0, []), (41, 0, []), (42, 0, []), (43, 0, []), (44, 1, []), (45, 0, []), (46, 0, []), (47, 0, []), (48, 2, [])] (by kernel_rfl) (by kernel_rfl) (by simp only [picked, nth]; exact rfl) ?_
          repeat' (first | refine Ops.nilN (inB (Cd.next ?_)) | refine Cd.reg ?_ | refine Ops.mv rfl rfl rfl rfl ?_ | refine Ops.asg rfl rfl rfl rfl ?_ | refine Ops.addI rfl rfl rfl rfl (by omega) (by omega) rfl ?_ | refine Ops.pickT rfl rfl rfl rfl rfl ?_ | refine Ops.gSkip rfl rfl rfl ?_ | refine Ops.gSkipU rfl rfl rfl rfl ?_ | refine Ops.asgE rfl (noPd rfl) rfl rfl rfl ?_)
          exact Ops.nilN (round_end (k + 1, (l.take (k + 1)).any (sameE x)) ⟨by show k + 1 ≤ i; omega, rfl⟩ (by show i - (k + 1) < i - k; omega) ⟨rfl, rfl, rfl, rfl, rfl, sbool hany2.symm, rfl, trivial⟩ (fun w h => h.split))
      · obtain rfl : k = i := by omega
        have hki' : ¬ ((k : Nat) : Int) < k := by omega
        have ht : th = true := by
          obtain ⟨y, hy, h12, h2, h3, h4, h5⟩ := says9 k9
          rw [hth]
          exact List.any_eq_true.2 ⟨y, hy, by simp [sameE, h12, h2, h3, h4, h5]⟩
        subst ht
        repeat' (first | refine Cd.seq ?_ | refine Cd.reg ?_ | refine Ops.nil ?_ | refine Ops.mv rfl rfl rfl rfl ?_ | refine Ops.asg rfl rfl rfl rfl ?_ | refine Ops.addI rfl rfl rfl rfl (by omega) (by omega) rfl ?_ | refine Ops.bin rfl rfl rfl rfl rfl ?_ | refine Ops.un rfl rfl rfl rfl ?_ | refine Cd.condF rfl rfl ?_ | refine Cd.skip (Cd.next (Q' := fun _ _ _ => True) ?_) | refine Cd.exit (Cd.next (Q' := fun _ _ _ => True) ?_) | refine Cd.condF rfl (by first | rfl | assumption | (simp only [decide_eq_true_eq, decide_eq_false_iff_not, Bool.not_eq_true', Bool.not_eq_false', Bool.not_eq_eq_eq_not, Bool.not_true, Bool.not_false, beq_iff_eq, beq_eq_false_iff_ne, ne_eq, decide_eq_decide, eq_self, true_iff, iff_true, not_true_eq_false, not_false_eq_true]; first | done | omega)) ?_)
        exact Ops.nilN (round_end (k + 1) (by show k + 1 ≤ l.length; omega) (by show l.length - (k + 1) < l.length - k; omega) ⟨rfl, sint (hgl k5).symm, rfl, rfl, rfl, trivial⟩ (fun w h => by
          show Sat _ [IBk rb (cnts 9 (l.take (k + 1))), IBk lb (cnts 7 (l.take (k + 1)))] _
          rw [hc7 (by omega)]
          exact h.split))
    · repeat' (first | refine Cd.seq ?_ | refine Cd.reg ?_ | refine Ops.nil ?_ | refine Ops.mv rfl rfl rfl rfl ?_ | refine Ops.asg rfl rfl rfl rfl ?_ | refine Ops.fa rfl rfl rfl rfl ?_ | refine Ops.lenS rfl rfl rfl rfl ?_ | refine Ops.addI rfl rfl rfl rfl (by omega) (by omega) rfl ?_ | refine Ops.bin rfl rfl rfl rfl rfl ?_ | refine Cd.block ?_ | refine Cd.skip (Cd.next ?_) | refine Cd.skip (Cd.next (Q' := fun _ _ _ => True) ?_) | refine Ops.ixa rfl rfl rfl rfl (by omega) (by omega) rfl ?_ | refine Ops.ldR rfl rfl rfl (by apply_assumption) rfl ?_ | refine Cd.condT rfl (by first | rfl | assumption | (simp only [decide_eq_true_eq, decide_eq_false_iff_not, Bool.not_eq_true', Bool.not_eq_false', Bool.not_eq_eq_eq_not, Bool.not_true, Bool.not_false, beq_iff_eq, beq_eq_false_iff_ne, ne_eq, decide_eq_decide, eq_self, true_iff, iff_true, not_true_eq_false, not_false_eq_true]; first | done | omega)) ?_ | refine Cd.condF rfl (by first | rfl | assumption | (simp only [decide_eq_true_eq, decide_eq_false_iff_not, Bool.not_eq_true', Bool.not_eq_false', Bool.not_eq_eq_eq_not, Bool.not_true, Bool.not_false, beq_iff_eq, beq_eq_false_iff_ne, ne_eq, decide_eq_decide, eq_self, true_iff, iff_true, not_true_eq_false, not_false_eq_true]; first | done | omega)) ?_)
      exact Ops.nilN (round_end (i + 1) (by show i + 1 ≤ l.length; omega) (by show l.length - (i + 1) < l.length - i; omega) ⟨rfl, sint (hgl k5).symm, rfl, rfl, rfl, trivial⟩ (fun w h => by
        show Sat _ [IBk rb (cnts 9 (l.take (i + 1))), IBk lb (cnts 7 (l.take (i + 1)))] _
        rw [hc7 k7, hc9 k9]
        exact h.split))
  · obtain rfl : i = l.length := by omega
    have hil' : ¬ ((l.length : Nat) : Int) < l.length := by omega
    rw [List.take_length]
    have hok9 := irows_ok (cnts 9 l)
    have hok7 := irows_ok (cnts 7 l)
    repeat' (first | refine Cd.seq ?_ | refine Cd.reg ?_ | refine Ops.nil ?_ | refine Ops.mv rfl rfl rfl rfl ?_ | refine Ops.asg rfl rfl rfl rfl ?_ | refine Ops.lenS rfl rfl rfl rfl ?_ | refine Ops.bin rfl rfl rfl rfl rfl ?_ | refine Cd.block ?_ | refine Cd.exit (Cd.next (Q' := fun _ _ _ => True) ?_) | refine Cd.condF rfl (by first | rfl | assumption | (simp only [decide_eq_true_eq, decide_eq_false_iff_not, Bool.not_eq_true', Bool.not_eq_false', Bool.not_eq_eq_eq_not, Bool.not_true, Bool.not_false, beq_iff_eq, beq_eq_false_iff_ne, ne_eq, decide_eq_decide, eq_self, true_iff, iff_true, not_true_eq_false, not_false_eq_true]; first | done | omega)) ?_)
    refine Cd.loopK (fun k : Nat => 1 ≤ k ∧ k ≤ 9) (fun k => [(9, .slice (some ⟨rb, 0, none⟩) 9 9), (10, .slice (some ⟨lb, 0, none⟩) 9 9), (14, .int .i64 k)]) (fun _ => [IBk rb (cnts 9 l), IBk lb (cnts 7 l)]) (fun k => 9 - k) 1 ⟨Nat.le_refl _, by decide⟩ ⟨rfl, rfl, rfl, trivial⟩ (fun w h => h.split) (fun k hk => ?_)
    obtain ⟨hk1, hk9⟩ := hk
    by_cases hk : k = 9
    · subst hk
      repeat' (first | refine Cd.seq ?_ | refine Cd.reg ?_ | refine Ops.nil ?_ | refine Ops.mv rfl rfl rfl rfl ?_ | refine Ops.bin rfl rfl rfl rfl rfl ?_ | refine Cd.condF rfl rfl ?_ | refine Cd.exit (Cd.next (Q' := fun _ _ _ => True) ?_))
      refine Ops.call fixed_spec rfl (noPd rfl) rfl rfl rfl (fun v A2 hR => ?_)
      obtain ⟨rfl, rfl⟩ := hR
      repeat' (first | refine Ops.nil ?_ | refine Ops.asg rfl rfl rfl rfl ?_)
      exact Cd.ret (ret1 (A' := []) rfl (Res.tmp rfl) (fun _ h => h.split) rfl)
    · have hk8 : (k : Int) < 9 := by omega
      have hat9 := cnts_at (k := 9) (n := (k : Int)) (l := l) (by omega) (by omega)
      have hat7 := cnts_at (k := 7) (n := (k : Int)) (l := l) (by omega) (by omega)
      have hrow9 : ((cnts 9 l).map irow)[(k : Int).toNat]? = some [.int .i64 ((cntF 9 (k : Int) l : Nat) : Int)] := by rw [List.getElem?_map, hat9]; rfl
      have hrow7 : ((cnts 7 l).map irow)[(k : Int).toNat]? = some [.int .i64 ((cntF 7 (k : Int) l : Nat) : Int)] := by rw [List.getElem?_map, hat7]; rfl
      have hcc := (mr1.cnt (k : Int)).1
      repeat' (first | refine Cd.seq ?_ | refine Cd.reg ?_ | refine Ops.nil ?_ | refine Ops.mv rfl rfl rfl rfl ?_ | refine Ops.bin rfl rfl rfl rfl rfl ?_ | refine Cd.block ?_ | refine Cd.skip (Cd.next ?_) | refine Cd.condT rfl (by first | rfl | assumption | (simp only [decide_eq_true_eq, decide_eq_false_iff_not, Bool.not_eq_true', Bool.not_eq_false', Bool.not_eq_eq_eq_not, Bool.not_true, Bool.not_false, beq_iff_eq, beq_eq_false_iff_ne, ne_eq, decide_eq_decide, eq_self, true_iff, iff_true, not_true_eq_false, not_false_eq_true]; first | done | omega)) ?_)
      refine Cd.draw [(0, 0, []), (1, 0, []), (2, 0, []), (3, 1, []), (4, 0, []), (5, 0, []), (6, 0, []), (7, 1, []), (8, 0, []), (9, 0, [])] (by kernel_rfl) (by kernel_rfl) (by simp only [picked, nth]; exact rfl) ?_
      repeat' (first | refine Cd.reg ?_ | refine Ops.nil ?_ | refine Ops.mv rfl rfl rfl rfl ?_ | refine Ops.asg rfl rfl rfl rfl ?_ | refine Ops.addI rfl rfl rfl rfl (by omega) (by omega) rfl ?_ | refine Ops.bin rfl rfl rfl rfl rfl ?_ | refine Cd.skip (Cd.next (Q' := fun _ _ _ => True) ?_) | refine Ops.ixa0 rfl rfl rfl rfl (by omega) (by omega) rfl ?_ | refine Ops.ldCell rfl rfl rfl (by assumption) (by assumption) rfl ?_ | refine Cd.condF rfl (by first | rfl | assumption | (simp only [decide_eq_true_eq, decide_eq_false_iff_not, Bool.not_eq_true', Bool.not_eq_false', Bool.not_eq_eq_eq_not, Bool.not_true, Bool.not_false, beq_iff_eq, beq_eq_false_iff_ne, ne_eq, decide_eq_decide, eq_self, true_iff, iff_true, not_true_eq_false, not_false_eq_true]; first | done | omega)) ?_)
      exact Ops.nilN (round_end (k + 1) ⟨by show 1 ≤ k + 1; omega, by show k + 1 ≤ 9; omega⟩ (by show 9 - (k + 1) < 9 - k; omega) ⟨rfl, rfl, rfl, trivial⟩ (fun w h => h.split))
end Go.Proofs.Ytfghnepmbgbnoaa
