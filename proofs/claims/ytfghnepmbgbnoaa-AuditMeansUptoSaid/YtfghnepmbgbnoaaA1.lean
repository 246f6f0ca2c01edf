import Derived.Test.YtfghnepmbgbnoaaL1
namespace Go.Proofs.Ytfghnepmbgbnoaa
open Go Go.Sep Go.Proofs
set_option maxRecDepth 10000
set_option maxHeartbeats 2000000
set_option synthInstance.maxSize 2000
set_option linter.unusedSimpArgs false
set_option linter.unusedVariables false

theorem ins_nil_spec (a : Option Addr) (c : Nat) : Con Try.prog 62 #[.slice a 0 c, .int .i64 0, .int .i64 0] [] fun v A => A = [] := by
  refine Con.intro (vs := [_, _, _]) Try.func62 rfl Try.ntmps62 rfl (fun B => ?_)
  repeat' (first | refine Cd.seq ?_ | refine Cd.reg ?_ | refine Ops.nil ?_ | refine Ops.mv rfl rfl rfl rfl ?_ | refine Ops.asg rfl rfl rfl rfl ?_ | refine Ops.addI rfl rfl rfl rfl (by omega) (by omega) rfl ?_ | refine Cd.block ?_)
  refine Cd.loopK (σ := Unit) (fun _ => True) (fun _ => [(2, .int .i64 0), (6, .int .i64 1)]) (fun _ => []) (fun _ => 0) () trivial ⟨rfl, rfl, trivial⟩ (fun w h => h) (fun _ _ => ?_)
  repeat' (first | refine Cd.seq ?_ | refine Cd.reg ?_ | refine Ops.nil ?_ | refine Ops.mv rfl rfl rfl rfl ?_ | refine Ops.bin rfl rfl rfl rfl rfl ?_ | refine Cd.condF rfl rfl ?_)
  exact Cd.exit (end0 rfl (fun w h => h) rfl)
theorem pdq_nil_spec (a : Option Addr) (c : Nat) (k : Int) : Con Try.prog 50 #[.slice a 0 c, .int .i64 0, .int .i64 0, .int .i64 k] [] fun v A => A = [] := by
  refine Con.intro (vs := [_, _, _, _]) Try.func50 rfl Try.ntmps50 rfl (fun B => ?_)
  repeat' (first | refine Cd.seq ?_ | refine Cd.reg ?_ | refine Ops.nil ?_ | refine Ops.asg rfl rfl rfl rfl ?_ | refine Cd.block ?_)
  refine Cd.loopK (σ := Unit) (fun _ => True) (fun _ => [(0, .slice a 0 c), (1, .int .i64 0), (2, .int .i64 0)]) (fun _ => []) (fun _ => 0) () trivial ⟨rfl, rfl, rfl, trivial⟩ (fun w h => h) (fun _ _ => ?_)
  repeat' (first | refine Cd.seq ?_ | refine Cd.reg ?_ | refine Ops.nil ?_ | refine Ops.mv rfl rfl rfl rfl ?_ | refine Ops.asg rfl rfl rfl rfl ?_ | refine Ops.subI rfl rfl rfl rfl (by omega) (by omega) rfl ?_ | refine Ops.bin rfl rfl rfl rfl rfl ?_ | refine Cd.condT rfl rfl ?_ | refine Cd.block ?_)
  refine Ops.call (ins_nil_spec a c) rfl (noPd rfl) rfl rfl rfl (fun v A' hR => ?_)
  obtain rfl := hR
  repeat' (first | refine Ops.nil ?_)
  exact Cd.ret (ret0 rfl (fun w h => h) rfl)
theorem pdq_spec (g n c : Nat) (xs : List Int) (sp : List Value) (k : Int) (hn : xs.length = n) (hc : n ≤ c) (h12 : n ≤ 12) :
    Con Try.prog 50 #[.slice (some ⟨g, 0, none⟩) n c, .int .i64 0, .int .i64 n, .int .i64 k] (IB g xs sp) fun v A => ∃ ys, A = IB g ys sp ∧ ys.Perm xs ∧ ys.Pairwise (· ≤ ·) := by
  refine Con.intro (vs := [_, _, _, _]) Try.func50 rfl Try.ntmps50 rfl (fun B => ?_)
  repeat' (first | refine Cd.seq ?_ | refine Cd.reg ?_ | refine Ops.nil ?_ | refine Ops.asg rfl rfl rfl rfl ?_ | refine Cd.block ?_)
  refine Cd.loopK (σ := Unit) (fun _ => True) (fun _ => [(0, .slice (some ⟨g, 0, none⟩) n c), (1, .int .i64 0), (2, .int .i64 n)]) (fun _ => IB g xs sp) (fun _ => 0) () trivial ⟨rfl, rfl, rfl, trivial⟩ (fun w h => h) (fun _ _ => ?_)
  have h12' : (n : Int) - 0 ≤ 12 := by omega
  repeat' (first | refine Cd.seq ?_ | refine Cd.reg ?_ | refine Ops.nil ?_ | refine Ops.mv rfl rfl rfl rfl ?_ | refine Ops.asg rfl rfl rfl rfl ?_ | refine Ops.subI rfl rfl rfl rfl (by omega) (by omega) rfl ?_ | refine Ops.bin rfl rfl rfl rfl rfl ?_ | refine Cd.block ?_ | refine Cd.condT rfl (by first | rfl | assumption | (simp only [decide_eq_true_eq, decide_eq_false_iff_not, Bool.not_eq_true', Bool.not_eq_false', Bool.not_eq_eq_eq_not, Bool.not_true, Bool.not_false, beq_iff_eq, beq_eq_false_iff_ne, ne_eq, decide_eq_decide, eq_self, true_iff, iff_true, not_true_eq_false, not_false_eq_true]; first | done | omega)) ?_)
  refine Ops.call (ins_spec g n c xs sp hn hc (by omega)) rfl (noPd rfl) rfl rfl rfl (fun v A' hR => ?_)
  obtain ⟨ys, rfl, hp, hs⟩ := hR
  repeat' (first | refine Ops.nil ?_)
  exact Cd.ret (ret0 (A' := IB g ys sp) rfl (fun w h => h.split) ⟨ys, rfl, hp, hs⟩)
theorem sort_spec (sv : Value) (xs : List Int) (G : List Blk) (h : OwnI sv xs G) (h12 : xs.length ≤ 12) :
    Con Try.prog 34 #[sv] G fun v A => ∃ ys, OwnI sv ys A ∧ ys.Perm xs ∧ ys.Pairwise (· ≤ ·) := by
  rcases h.2 with ⟨rfl, hb, rfl⟩ | ⟨g, c, spare, rfl, rfl, hsp, hle⟩
  · obtain rfl : xs = [] := by simpa using hb
    refine Con.intro (vs := [_]) Try.func34 rfl Try.ntmps34 rfl (fun B => ?_)
    repeat' (first | refine Cd.seq ?_ | refine Cd.reg ?_ | refine Ops.mv rfl rfl rfl rfl ?_ | refine Ops.asg rfl rfl rfl rfl ?_ | refine Ops.lenS rfl rfl rfl rfl ?_)
    refine Ops.cvI rfl rfl rfl rfl ?_
    rw [u64_small (n := ((0 : Nat) : Int)) (by simp) (by simp)]
    refine Ops.call (blen_spec ((0 : Nat) : Int) (by simp) (by simp)) rfl (noPd rfl) rfl rfl rfl (fun v A' hR => ?_)
    obtain ⟨⟨k, rfl⟩, rfl⟩ := hR
    skip
    refine Ops.call (pdq_nil_spec none 0 k) rfl (noPd rfl) rfl rfl rfl (fun v A' hR => ?_)
    obtain rfl := hR
    exact Ops.nilN (end0 (A' := []) rfl (fun w h => h) ⟨[], Own.none, .refl _, List.Pairwise.nil⟩)
  · have hl : (xs.map irow).length = xs.length := by simp
    rw [hl] at hle ⊢
    refine Con.intro (vs := [_]) Try.func34 rfl Try.ntmps34 rfl (fun B => ?_)
    repeat' (first | refine Cd.seq ?_ | refine Cd.reg ?_ | refine Ops.mv rfl rfl rfl rfl ?_ | refine Ops.asg rfl rfl rfl rfl ?_ | refine Ops.lenS rfl rfl rfl rfl ?_)
    refine Ops.cvI rfl rfl rfl rfl ?_
    rw [u64_small (Int.natCast_nonneg _) (by omega)]
    refine Ops.call (blen_spec _ (Int.natCast_nonneg _) (by omega)) rfl (noPd rfl) rfl rfl rfl (fun v A' hR => ?_)
    obtain ⟨⟨k, rfl⟩, rfl⟩ := hR
    skip
    refine Ops.call (pdq_spec g xs.length c xs spare k rfl hle h12) rfl (noPd rfl) rfl rfl rfl (fun v A' hR => ?_)
    obtain ⟨ys, rfl, hp, hs⟩ := hR
    have e1 : ys.length = xs.length := hp.length_eq
    refine Ops.nilN (end0 (A' := IB g ys spare) rfl (fun w h => h.split) ⟨ys, ⟨irows_ok ys, .inr ⟨g, c, spare, by rw [List.length_map, e1], rfl, ?_, by rw [List.length_map, e1]; exact hle⟩⟩, hp, hs⟩)
    rw [(irows_ok ys).len, List.length_map, e1, ← hl, ← h.1.len]
    exact hsp

end Go.Proofs.Ytfghnepmbgbnoaa
