import Derived.Test.YtnmjdoaogdaehaaGreatA20
namespace Go.Proofs.YtnmjdoaogdaehaaGreat
open Go Go.Sep Go.Proofs
set_option maxRecDepth 10000
set_option maxHeartbeats 40000000
set_option synthInstance.maxSize 2000
set_option linter.unusedSimpArgs false
set_option linter.unusedVariables false
/-! records are laid behind the others; a snapshot takes their place; what there is room for -/
structure WlOk (w : Wl) (len : Nat) : Prop where
  n : w.h.number ≤ 1099511627776
  f : w.h.half ≤ 1
  fit : w.h.snap + w.h.log ≤ roomF len
  r0 : 0 ≤ w.recs
  r1 : w.recs ≤ 4000000000000000000
theorem frameF_size (r : ByteArray) (h : r.size ≤ 1000000) : (frameF r).size ≤ r.size + 10 := by
  have := numB_size (n := r.size) (by omega)
  rw [frameF, ByteArray.size_append]; omega
def LogR (wb db : Nat) (r : (Wl × Dk) × Int) (k : Nat) (v : Value) (A : List Blk) : Prop := v = .int .i64 r.2 ∧ ∃ D, A = WlB wb db r.1.1 :: D ∧ DkA db r.1.2 k D
theorem append_spec (B0 : Base) (wb db : Nat) (w : Wl) (x : Dk) (k : Nat) (D : List Blk) (hD : DkA db x k D) (r : ByteArray) (ok : WlOk w x.S.length) (hr : r.size ≤ 900000) (hk : k ≤ 800000000000) :
    ConB Tryz.prog B0 61 #[ptr wb, .string r] (WlB wb db w :: D) (LogR wb db (appendF w x r) (k + r.size + 20)) := by
  have hrl := roomF_le x.S.length
  have hfz := frameF_size r (by omega)
  have hadd : ∀ a b : Nat, (a : Int) + (b : Int) = ((a + b : Nat) : Int) := fun a b => by push_cast; rfl
  have hD9 := hD.more (k' := k + r.size + 20) (by omega) (by omega)
  obtain ⟨⟨hn, half, snap, log⟩, recs, dead⟩ := w
  obtain ⟨o1, o2, o3, o4, o5⟩ := ok
  dsimp only at o1 o2 o3 o4 o5
  refine ConB.intro (vs := [_, _]) Tryz.func61 rfl Tryz.ntmps61 rfl (fun B hB => ?_)
  dsimp only [WlB]
  have hap : appendF ⟨⟨hn, half, snap, log⟩, recs, dead⟩ x r = if (dead || x.de) then ((⟨⟨hn, half, snap, log⟩, recs, true⟩, x), 2)
    else if r.size = 0 ∨ 2048 < r.size then ((⟨⟨hn, half, snap, log⟩, recs, dead⟩, x), 92)
    else if roomF x.S.length < snap + log + (frameF r).size then ((⟨⟨hn, half, snap, log⟩, recs, dead⟩, x), 93)
    else if 1099511627776 ≤ hn then ((⟨⟨hn, half, snap, log⟩, recs, dead⟩, x), (94 : Int))
    else Wl.done ⟨⟨hn, half, snap, log⟩, recs, dead⟩ ⟨hn + 1, half, snap, log + (frameF r).size⟩ (recs + 1) (headF ⟨hn + 1, half, snap, log + (frameF r).size⟩ (pagesF half (snap + log) (frameF r) x)) := rfl
  repeat' (first | refine Cd.seq ?_ | refine Cd.reg ?_ | refine Ops.asg rfl rfl rfl rfl ?_)
  refine Cd.draw [(0, 0, []), (1, 0, []), (2, 0, []), (3, 0, []), (4, 1, []), (5, 0, []), (6, 0, []), (7, 0, []), (8, 0, []), (9, 1, []), (10, 0, []), (11, 0, [])] (by kernel_rfl) (by kernel_rfl) (by simp only [picked, nth]; exact rfl) ?_
  repeat' (first | refine Cd.seq ?_ | refine Cd.reg ?_ | refine Ops.nil ?_ | refine Ops.mv rfl rfl rfl rfl ?_ | refine Ops.asg rfl rfl rfl rfl ?_ | refine Ops.nilP rfl rfl rfl rfl ?_ | refine Ops.fa0 rfl rfl rfl rfl ?_ | refine Ops.fa rfl rfl rfl rfl ?_ | refine Ops.ld1 rfl rfl rfl rfl rfl ?_ | refine Ops.addI rfl rfl rfl rfl (by omega) (by omega) rfl ?_)
  rw [hadd]
  refine Ops.call (text_spec r (by omega)) rfl (noPd rfl) rfl rfl rfl (fun v A' hR => ?_)
  obtain ⟨rfl, rfl⟩ := hR
  rw [show numB r.size ++ r = frameF r from rfl]
  repeat' (first | refine Cd.seq ?_ | refine Cd.reg ?_ | refine Ops.mv rfl rfl rfl rfl ?_ | refine Ops.asg rfl rfl rfl rfl ?_ | refine Cd.block ?_)
  refine Ops.call (gone_spec wb db ⟨⟨hn, half, snap, log⟩, recs, dead⟩ x k D hD) rfl (noPd rfl) rfl rfl rfl (fun v A' hR => ?_)
  obtain ⟨rfl, rfl⟩ := hR
  dsimp only [WlB]
  by_cases hg : (dead || x.de) = true
  · rw [if_pos hg] at hap
    rw [hap, hg]
    repeat' (first | refine Cd.seq ?_ | refine Cd.reg ?_ | refine Ops.nil ?_ | refine Ops.asg rfl rfl rfl rfl ?_ | refine Cd.condT rfl rfl ?_)
    exact Cd.ret (ret1 (A' := WlB wb db ⟨⟨hn, half, snap, log⟩, recs, true⟩ :: D) rfl (Res.tmp rfl) (fun _ h => h.split) ⟨rfl, D, rfl, hD9⟩)
  have hg : (dead || x.de) = false := by simpa using hg
  obtain ⟨rfl, hde⟩ : dead = false ∧ x.de = false := by simpa using hg
  rw [if_neg (by rw [hde]; simp)] at hap
  rw [hde, show (false || false) = false from rfl]
  by_cases h1 : r.size = 0
  · have h1' : (r.size : Int) = 0 := by omega
    rw [if_pos (.inl h1)] at hap
    rw [hap]
    repeat' (first | refine Cd.seq ?_ | refine Cd.reg ?_ | refine Ops.nil ?_ | refine Ops.mv rfl rfl rfl rfl ?_ | refine Ops.asg rfl rfl rfl rfl ?_ | refine Ops.lenStr rfl rfl rfl rfl ?_ | refine Ops.bin rfl rfl rfl rfl rfl ?_ | refine Ops.pickT rfl rfl rfl rfl rfl ?_ | refine Ops.gSkip rfl rfl rfl ?_ | refine Cd.condT rfl rfl ?_ | refine Cd.condF rfl rfl ?_ | ((fail_if_success refine Ops.probe rfl ?_); refine Ops.gT rfl rfl (by first | rfl | assumption | (simp only [decide_eq_true_eq, decide_eq_false_iff_not, Bool.not_eq_true', Bool.not_eq_false', Bool.not_eq_eq_eq_not, Bool.not_true, Bool.not_false, beq_iff_eq, beq_eq_false_iff_ne, ne_eq, decide_eq_decide, eq_self, true_iff, iff_true, not_true_eq_false, not_false_eq_true]; first | done | omega)) ?_))
    exact Cd.ret (ret1 (A' := WlB wb db ⟨⟨hn, half, snap, log⟩, recs, false⟩ :: D) rfl (Res.tmp rfl) (fun _ h => h.split) ⟨rfl, D, rfl, hD9⟩)
  have h1' : ¬ (r.size : Int) = 0 := by omega
  by_cases h2 : 2048 < r.size
  · have h2' : (2048 : Int) < r.size := by omega
    rw [if_pos (.inr h2)] at hap
    rw [hap]
    repeat' (first | refine Cd.seq ?_ | refine Cd.reg ?_ | refine Ops.nil ?_ | refine Ops.mv rfl rfl rfl rfl ?_ | refine Ops.asg rfl rfl rfl rfl ?_ | refine Ops.lenStr rfl rfl rfl rfl ?_ | refine Ops.bin rfl rfl rfl rfl rfl ?_ | refine Ops.pickF rfl rfl rfl rfl rfl ?_ | refine Cd.condF rfl rfl ?_ | refine Cd.condT rfl (by first | rfl | assumption | (simp only [decide_eq_true_eq, decide_eq_false_iff_not, Bool.not_eq_true', Bool.not_eq_false', Bool.not_eq_eq_eq_not, Bool.not_true, Bool.not_false, beq_iff_eq, beq_eq_false_iff_ne, ne_eq, decide_eq_decide, eq_self, true_iff, iff_true, not_true_eq_false, not_false_eq_true]; first | done | omega)) ?_ | ((fail_if_success refine Ops.probe rfl ?_); refine Ops.gF rfl rfl (by first | rfl | assumption | (simp only [decide_eq_true_eq, decide_eq_false_iff_not, Bool.not_eq_true', Bool.not_eq_false', Bool.not_eq_eq_eq_not, Bool.not_true, Bool.not_false, beq_iff_eq, beq_eq_false_iff_ne, ne_eq, decide_eq_decide, eq_self, true_iff, iff_true, not_true_eq_false, not_false_eq_true]; first | done | omega)) ?_))
    exact Cd.ret (ret1 (A' := WlB wb db ⟨⟨hn, half, snap, log⟩, recs, false⟩ :: D) rfl (Res.tmp rfl) (fun _ h => h.split) ⟨rfl, D, rfl, hD9⟩)
  have h2' : ¬ (2048 : Int) < r.size := by omega
  rw [if_neg (by omega)] at hap
  by_cases h3 : roomF x.S.length < snap + log + (frameF r).size
  · have h3' : ((roomF x.S.length : Nat) : Int) < ((snap + log : Nat) : Int) + ((frameF r).size : Nat) := by omega
    rw [if_pos h3] at hap
    rw [hap]
    repeat' (first | refine Cd.seq ?_ | refine Cd.reg ?_ | refine Ops.nil ?_ | refine Ops.mv rfl rfl rfl rfl ?_ | refine Ops.asg rfl rfl rfl rfl ?_ | refine Ops.nilP rfl rfl rfl rfl ?_ | refine Ops.fa0 rfl rfl rfl rfl ?_ | refine Ops.ld1 rfl rfl rfl rfl rfl ?_ | refine Ops.lenStr rfl rfl rfl rfl ?_ | refine Ops.addI rfl rfl rfl rfl (by omega) (by omega) rfl ?_ | refine Ops.bin rfl rfl rfl rfl rfl ?_ | refine Ops.pickF rfl rfl rfl rfl rfl ?_ | refine Cd.condF rfl rfl ?_ | refine Cd.condF rfl (by first | rfl | assumption | (simp only [decide_eq_true_eq, decide_eq_false_iff_not, Bool.not_eq_true', Bool.not_eq_false', Bool.not_eq_eq_eq_not, Bool.not_true, Bool.not_false, beq_iff_eq, beq_eq_false_iff_ne, ne_eq, decide_eq_decide, eq_self, true_iff, iff_true, not_true_eq_false, not_false_eq_true]; first | done | omega)) ?_ | ((fail_if_success refine Ops.probe rfl ?_); refine Ops.gF rfl rfl (by first | rfl | assumption | (simp only [decide_eq_true_eq, decide_eq_false_iff_not, Bool.not_eq_true', Bool.not_eq_false', Bool.not_eq_eq_eq_not, Bool.not_true, Bool.not_false, beq_iff_eq, beq_eq_false_iff_ne, ne_eq, decide_eq_decide, eq_self, true_iff, iff_true, not_true_eq_false, not_false_eq_true]; first | done | omega)) ?_))
    refine Ops.call (room_spec db x k D hD) rfl (noPd rfl) rfl rfl rfl (fun v A' hR => ?_)
    obtain ⟨rfl, e⟩ := hR
    subst A'
    repeat' (first | refine Cd.seq ?_ | refine Cd.reg ?_ | refine Ops.nil ?_ | refine Ops.asg rfl rfl rfl rfl ?_ | refine Ops.bin rfl rfl rfl rfl rfl ?_ | refine Cd.condT rfl (by first | rfl | assumption | (simp only [decide_eq_true_eq, decide_eq_false_iff_not, Bool.not_eq_true', Bool.not_eq_false', Bool.not_eq_eq_eq_not, Bool.not_true, Bool.not_false, beq_iff_eq, beq_eq_false_iff_ne, ne_eq, decide_eq_decide, eq_self, true_iff, iff_true, not_true_eq_false, not_false_eq_true]; first | done | omega)) ?_)
    exact Cd.ret (ret1 (A' := WlB wb db ⟨⟨hn, half, snap, log⟩, recs, false⟩ :: D) rfl (Res.tmp rfl) (fun _ h => h.split) ⟨rfl, D, rfl, hD9⟩)
  have h3' : ¬ ((roomF x.S.length : Nat) : Int) < ((snap + log : Nat) : Int) + ((frameF r).size : Nat) := by omega
  rw [if_neg h3] at hap
  repeat' (first | refine Cd.seq ?_ | refine Cd.reg ?_ | refine Ops.nil ?_ | refine Ops.mv rfl rfl rfl rfl ?_ | refine Ops.asg rfl rfl rfl rfl ?_ | refine Ops.nilP rfl rfl rfl rfl ?_ | refine Ops.fa0 rfl rfl rfl rfl ?_ | refine Ops.ld1 rfl rfl rfl rfl rfl ?_ | refine Ops.lenStr rfl rfl rfl rfl ?_ | refine Ops.addI rfl rfl rfl rfl (by omega) (by omega) rfl ?_ | refine Ops.bin rfl rfl rfl rfl rfl ?_ | refine Ops.pickF rfl rfl rfl rfl rfl ?_ | refine Cd.condF rfl rfl ?_ | refine Cd.condF rfl (by first | rfl | assumption | (simp only [decide_eq_true_eq, decide_eq_false_iff_not, Bool.not_eq_true', Bool.not_eq_false', Bool.not_eq_eq_eq_not, Bool.not_true, Bool.not_false, beq_iff_eq, beq_eq_false_iff_ne, ne_eq, decide_eq_decide, eq_self, true_iff, iff_true, not_true_eq_false, not_false_eq_true]; first | done | omega)) ?_ | ((fail_if_success refine Ops.probe rfl ?_); refine Ops.gF rfl rfl (by first | rfl | assumption | (simp only [decide_eq_true_eq, decide_eq_false_iff_not, Bool.not_eq_true', Bool.not_eq_false', Bool.not_eq_eq_eq_not, Bool.not_true, Bool.not_false, beq_iff_eq, beq_eq_false_iff_ne, ne_eq, decide_eq_decide, eq_self, true_iff, iff_true, not_true_eq_false, not_false_eq_true]; first | done | omega)) ?_))
  refine Ops.call (room_spec db x k D hD) rfl (noPd rfl) rfl rfl rfl (fun v A' hR => ?_)
  obtain ⟨rfl, e⟩ := hR
  subst A'
  by_cases h4 : 1099511627776 ≤ hn
  · have h4' : (1099511627776 : Int) ≤ hn := by omega
    rw [if_pos h4] at hap
    rw [hap]
    repeat' (first | refine Cd.seq ?_ | refine Cd.reg ?_ | refine Ops.nil ?_ | refine Ops.mv rfl rfl rfl rfl ?_ | refine Ops.asg rfl rfl rfl rfl ?_ | refine Ops.nilP rfl rfl rfl rfl ?_ | refine Ops.fa0 rfl rfl rfl rfl ?_ | refine Ops.fa rfl rfl rfl rfl ?_ | refine Ops.ld1 rfl rfl rfl rfl rfl ?_ | refine Ops.bin rfl rfl rfl rfl rfl ?_ | refine Cd.condT rfl (by first | rfl | assumption | (simp only [decide_eq_true_eq, decide_eq_false_iff_not, Bool.not_eq_true', Bool.not_eq_false', Bool.not_eq_eq_eq_not, Bool.not_true, Bool.not_false, beq_iff_eq, beq_eq_false_iff_ne, ne_eq, decide_eq_decide, eq_self, true_iff, iff_true, not_true_eq_false, not_false_eq_true]; first | done | omega)) ?_ | refine Cd.condF rfl (by first | rfl | assumption | (simp only [decide_eq_true_eq, decide_eq_false_iff_not, Bool.not_eq_true', Bool.not_eq_false', Bool.not_eq_eq_eq_not, Bool.not_true, Bool.not_false, beq_iff_eq, beq_eq_false_iff_ne, ne_eq, decide_eq_decide, eq_self, true_iff, iff_true, not_true_eq_false, not_false_eq_true]; first | done | omega)) ?_)
    exact Cd.ret (ret1 (A' := WlB wb db ⟨⟨hn, half, snap, log⟩, recs, false⟩ :: D) rfl (Res.tmp rfl) (fun _ h => h.split) ⟨rfl, D, rfl, hD9⟩)
  have h4' : ¬ (1099511627776 : Int) ≤ hn := by omega
  rw [if_neg h4] at hap
  rw [hap]
  have hl1 : (hn : Int) + 1 = ((hn + 1 : Nat) : Int) := by push_cast; rfl
  repeat' (first | refine Cd.seq ?_ | refine Cd.reg ?_ | refine Ops.nil ?_ | refine Ops.mv rfl rfl rfl rfl ?_ | refine Ops.asg rfl rfl rfl rfl ?_ | refine Ops.nilP rfl rfl rfl rfl ?_ | refine Ops.fa0 rfl rfl rfl rfl ?_ | refine Ops.fa rfl rfl rfl rfl ?_ | refine Ops.ld1 rfl rfl rfl rfl rfl ?_ | refine Ops.ldN rfl rfl rfl rfl ?_ | refine Ops.lenStr rfl rfl rfl rfl ?_ | refine Ops.addI rfl rfl rfl rfl (by omega) (by omega) rfl ?_ | refine Ops.bin rfl rfl rfl rfl rfl ?_ | refine Ops.alloc rfl rfl rfl (noPd rfl) (fun b => ?_) | refine Ops.st1 rfl rfl rfl rfl rfl (noPd rfl) ?_ | refine Ops.stN rfl rfl rfl rfl rfl rfl (noPd rfl) ?_ | refine Cd.skip (Cd.next (Q' := fun _ _ _ => True) ?_) | refine Cd.condF rfl (by first | rfl | assumption | (simp only [decide_eq_true_eq, decide_eq_false_iff_not, Bool.not_eq_true', Bool.not_eq_false', Bool.not_eq_eq_eq_not, Bool.not_true, Bool.not_false, beq_iff_eq, beq_eq_false_iff_ne, ne_eq, decide_eq_decide, eq_self, true_iff, iff_true, not_true_eq_false, not_false_eq_true]; first | done | omega)) ?_)
  rw [hadd, hl1]
  refine Ops.callB (write_spec B0 wb db ⟨⟨hn, half, snap, log⟩, recs, false⟩ x k D hD (snap + log) (frameF r) ⟨hn + 1, half, snap, log + (frameF r).size⟩ ⟨by show hn + 1 < _; omega, by show half < _; omega, by show snap < _; omega, by show log + (frameF r).size < _; omega⟩ o2 (by omega) (by omega) hk) hB rfl (noPd rfl) rfl rfl rfl (fun v A' hR => ?_)
  obtain ⟨D2, hD2, hR⟩ := hR
  have hD3 := hD2.more (k' := k + r.size + 20) (by omega) (by omega)
  clear hD2
  generalize headF ⟨hn + 1, half, snap, log + (frameF r).size⟩ (pagesF half (snap + log) (frameF r) x) = q at hR hD3 ⊢
  obtain ⟨x2, b⟩ := q
  dsimp only at hR hD3 ⊢
  rcases hR with ⟨rfl, rfl, rfl⟩ | ⟨rfl, rfl, rfl⟩
  · dsimp only [WlB]
    repeat' (first | refine Cd.seq ?_ | refine Cd.reg ?_ | refine Ops.nil ?_ | refine Ops.mv rfl rfl rfl rfl ?_ | refine Ops.asg rfl rfl rfl rfl ?_ | refine Ops.nilP rfl rfl rfl rfl ?_ | refine Ops.fa0 rfl rfl rfl rfl ?_ | refine Ops.ld1 rfl rfl rfl rfl rfl ?_ | refine Ops.addI rfl rfl rfl rfl (by omega) (by omega) rfl ?_ | refine Ops.bin rfl rfl rfl rfl rfl ?_ | refine Ops.st1 rfl rfl rfl rfl rfl (noPd rfl) ?_ | refine Cd.condF rfl rfl ?_ | refine Cd.skip (Cd.next ?_))
    exact Cd.ret (ret1 (A' := WlB wb db ⟨⟨hn + 1, half, snap, log + (frameF r).size⟩, recs + 1, false⟩ :: D2) rfl (Res.tmp rfl) (fun _ h => h.split) ⟨rfl, D2, rfl, hD3⟩)
  · repeat' (first | refine Cd.seq ?_ | refine Cd.reg ?_ | refine Ops.nil ?_ | refine Ops.mv rfl rfl rfl rfl ?_ | refine Ops.asg rfl rfl rfl rfl ?_ | refine Ops.bin rfl rfl rfl rfl rfl ?_ | refine Cd.condT rfl rfl ?_)
    exact Cd.ret (ret1 (A' := WlB wb db ⟨⟨hn, half, snap, log⟩, recs, true⟩ :: D2) rfl (Res.tmp rfl) (fun _ h => h.split) ⟨rfl, D2, rfl, hD3⟩)
theorem fitN_stop {left n : Nat} (h : ¬ left < (numB n).size + n) : fitN left n = n := by
  cases n with
  | zero => rfl
  | succ n => rw [fitN, if_neg h]
theorem fitN_down {left n : Nat} (h0 : n ≠ 0) (h : left < (numB n).size + n) : fitN left n = fitN left (n - 1) := by
  cases n with
  | zero => exact absurd rfl h0
  | succ n => rw [fitN, if_pos h, Nat.add_sub_cancel]
theorem roomw_spec (B0 : Base) (wb db : Nat) (w : Wl) (x : Dk) (k : Nat) (D : List Blk) (hD : DkA db x k D) (ok : WlOk w x.S.length) :
    ConB Tryz.prog B0 60 #[ptr wb] (WlB wb db w :: D) fun v A => v = .int .i64 (roomW w x.S.length : Nat) ∧ A = WlB wb db w :: D := by
  have hrl := roomF_le x.S.length
  obtain ⟨⟨hn, half, snap, log⟩, recs, dead⟩ := w
  obtain ⟨o1, o2, o3, o4, o5⟩ := ok
  dsimp only at o1 o2 o3 o4 o5
  refine ConB.intro (vs := [_]) Tryz.func60 rfl Tryz.ntmps60 rfl (fun B hB => ?_)
  dsimp only [WlB]
  have hrw : roomW ⟨⟨hn, half, snap, log⟩, recs, dead⟩ x.S.length = fitN (roomF x.S.length - snap - log) (min 2048 (roomF x.S.length - snap - log)) := rfl
  repeat' (first | refine Cd.seq ?_ | refine Cd.reg ?_ | refine Ops.asg rfl rfl rfl rfl ?_)
  refine Cd.draw [(0, 0, []), (1, 0, []), (2, 0, []), (3, 1, []), (5, 0, []), (6, 0, []), (7, 0, []), (8, 0, []), (9, 1, []), (11, 0, []), (12, 0, []), (13, 0, []), (14, 0, []), (15, 1, []), (4, 2, [9, 15]), (10, 0, []), (16, 0, []), (17, 0, [])] (by kernel_rfl) (by kernel_rfl) (by simp only [picked, nth]; exact rfl) ?_
  repeat' (first | refine Ops.mv rfl rfl rfl rfl ?_ | refine Ops.nilP rfl rfl rfl rfl ?_ | refine Ops.fa0 rfl rfl rfl rfl ?_ | refine Ops.fa rfl rfl rfl rfl ?_ | refine Ops.ld1 rfl rfl rfl rfl rfl ?_)
  refine Ops.call (room_spec db x k D hD) rfl (by intro v A' hR i hi; obtain ⟨A2, hR, rfl⟩ := hR; obtain ⟨rfl, rfl⟩ := hR; (repeat (rcases List.mem_cons.1 hi with rfl | hi; · (first | exact Still.ld1 rfl rfl rfl rfl rfl | exact Still.ldN rfl rfl rfl rfl | exact Still.len rfl rfl rfl rfl rfl | exact Still.skip rfl rfl rfl | exact Still.ldRow1 rfl rfl rfl (by assumption) (by assumption) rfl rfl | exact Still.ldR rfl rfl rfl (by apply_assumption) rfl))); cases hi) rfl rfl rfl (fun v A' hR => ?_)
  obtain ⟨rfl, e⟩ := hR
  subst A'
  repeat' (first | refine Cd.seq ?_ | refine Cd.reg ?_ | refine Ops.nil ?_ | refine Ops.mv rfl rfl rfl rfl ?_ | refine Ops.asg rfl rfl rfl rfl ?_ | refine Ops.subI rfl rfl rfl rfl (by omega) (by omega) rfl ?_ | refine Ops.minI rfl rfl rfl rfl rfl ?_ | refine Cd.block ?_)
  rw [show ((roomF x.S.length : Nat) : Int) - snap - log = ((roomF x.S.length - snap - log : Nat) : Int) from by omega]
  generalize roomF x.S.length - snap - log = left at hrw ⊢
  skip
  rw [show min (2048 : Int) ((left : Nat) : Int) = ((min 2048 left : Nat) : Int) from by omega]
  refine Cd.loopK (σ := Nat) (fun n => n ≤ 2048 ∧ fitN left (min 2048 left) = fitN left n) (fun n => [(3, .int .i64 left), (4, .int .i64 n)]) (fun n => WlB wb db ⟨⟨hn, half, snap, log⟩, recs, dead⟩ :: D) (fun n => n) (min 2048 left) ⟨Nat.min_le_left _ _, rfl⟩ ⟨rfl, rfl, trivial⟩ (fun w h => h.split) (fun n hn2 => ?_)
  obtain ⟨hn2, hft⟩ := hn2
  have hexit : fitN left n = n → roomW ⟨⟨hn, half, snap, log⟩, recs, dead⟩ x.S.length = n := fun h => by rw [hrw, hft, h]
  by_cases h0 : n = 0
  · subst h0
    rw [hexit rfl]
    repeat' (first | refine Cd.seq ?_ | refine Cd.reg ?_ | refine Ops.nil ?_ | refine Ops.mv rfl rfl rfl rfl ?_ | refine Ops.asg rfl rfl rfl rfl ?_ | refine Ops.maxI rfl rfl rfl rfl rfl ?_ | refine Ops.bin rfl rfl rfl rfl rfl ?_ | refine Ops.pickF rfl rfl rfl rfl rfl ?_ | refine Ops.gSkip rfl rfl rfl ?_ | refine Cd.condF rfl rfl ?_ | refine Cd.exit (Cd.next (Q' := fun _ _ _ => True) ?_))
    exact Cd.ret (ret1 (A' := WlB wb db ⟨⟨hn, half, snap, log⟩, recs, dead⟩ :: D) rfl (Res.tmp rfl) (fun _ h => h.split) ⟨by congr 1, rfl⟩)
  have h0' : (0 : Int) < n := by omega
  have hnz : (numB n).size ≤ 10 := numB_size (by omega)
  by_cases hlt : left < (numB n).size + n
  · have hlt' : ((left : Nat) : Int) < ((numB n).size : Nat) + (n : Int) := by omega
    repeat' (first | refine Cd.seq ?_ | refine Cd.reg ?_ | refine Ops.mv rfl rfl rfl rfl ?_ | refine Ops.bin rfl rfl rfl rfl rfl ?_ | ((fail_if_success refine Ops.probe rfl ?_); refine Ops.gT rfl rfl (by first | rfl | assumption | (simp only [decide_eq_true_eq, decide_eq_false_iff_not, Bool.not_eq_true', Bool.not_eq_false', Bool.not_eq_eq_eq_not, Bool.not_true, Bool.not_false, beq_iff_eq, beq_eq_false_iff_ne, ne_eq, decide_eq_decide, eq_self, true_iff, iff_true, not_true_eq_false, not_false_eq_true]; first | done | omega)) ?_))
    refine Ops.cvI rfl rfl rfl rfl ?_
    rw [wrap_u64 (by omega)]
    skip
    refine Ops.call (num_spec n (by omega)) rfl (noPd rfl) rfl rfl rfl (fun v A' hR => ?_)
    obtain ⟨rfl, rfl⟩ := hR
    repeat' (first | refine Cd.reg ?_ | refine Ops.nil ?_ | refine Ops.mv rfl rfl rfl rfl ?_ | refine Ops.asg rfl rfl rfl rfl ?_ | refine Ops.lenStr rfl rfl rfl rfl ?_ | refine Ops.addI rfl rfl rfl rfl (by omega) (by omega) rfl ?_ | refine Ops.subI rfl rfl rfl rfl (by omega) (by omega) rfl ?_ | refine Ops.bin rfl rfl rfl rfl rfl ?_ | refine Ops.pickT rfl rfl rfl rfl rfl ?_ | refine Cd.block ?_ | refine Cd.skip (Cd.next ?_) | refine Cd.condT rfl (by first | rfl | assumption | (simp only [decide_eq_true_eq, decide_eq_false_iff_not, Bool.not_eq_true', Bool.not_eq_false', Bool.not_eq_eq_eq_not, Bool.not_true, Bool.not_false, beq_iff_eq, beq_eq_false_iff_ne, ne_eq, decide_eq_decide, eq_self, true_iff, iff_true, not_true_eq_false, not_false_eq_true]; first | done | omega)) ?_)
    rw [show (n : Int) - 1 = ((n - 1 : Nat) : Int) from by omega]
    exact Ops.nilN (inB (round_end (n - 1 : Nat) ⟨by show n - 1 ≤ 2048; omega, by rw [hft, fitN_down h0 hlt]⟩ (by show n - 1 < n; omega) ⟨rfl, rfl, trivial⟩ (fun w h => h.split)))
  · have hlt' : ¬ ((left : Nat) : Int) < ((numB n).size : Nat) + (n : Int) := by omega
    rw [hexit (fitN_stop hlt)]
    repeat' (first | refine Cd.seq ?_ | refine Cd.reg ?_ | refine Ops.mv rfl rfl rfl rfl ?_ | refine Ops.bin rfl rfl rfl rfl rfl ?_ | ((fail_if_success refine Ops.probe rfl ?_); refine Ops.gT rfl rfl (by first | rfl | assumption | (simp only [decide_eq_true_eq, decide_eq_false_iff_not, Bool.not_eq_true', Bool.not_eq_false', Bool.not_eq_eq_eq_not, Bool.not_true, Bool.not_false, beq_iff_eq, beq_eq_false_iff_ne, ne_eq, decide_eq_decide, eq_self, true_iff, iff_true, not_true_eq_false, not_false_eq_true]; first | done | omega)) ?_))
    refine Ops.cvI rfl rfl rfl rfl ?_
    rw [wrap_u64 (by omega)]
    skip
    refine Ops.call (num_spec n (by omega)) rfl (noPd rfl) rfl rfl rfl (fun v A' hR => ?_)
    obtain ⟨rfl, rfl⟩ := hR
    repeat' (first | refine Cd.seq ?_ | refine Cd.reg ?_ | refine Ops.nil ?_ | refine Ops.mv rfl rfl rfl rfl ?_ | refine Ops.asg rfl rfl rfl rfl ?_ | refine Ops.lenStr rfl rfl rfl rfl ?_ | refine Ops.addI rfl rfl rfl rfl (by omega) (by omega) rfl ?_ | refine Ops.maxI rfl rfl rfl rfl rfl ?_ | refine Ops.bin rfl rfl rfl rfl rfl ?_ | refine Ops.pickT rfl rfl rfl rfl rfl ?_ | refine Cd.exit (Cd.next (Q' := fun _ _ _ => True) ?_) | refine Cd.condF rfl (by first | rfl | assumption | (simp only [decide_eq_true_eq, decide_eq_false_iff_not, Bool.not_eq_true', Bool.not_eq_false', Bool.not_eq_eq_eq_not, Bool.not_true, Bool.not_false, beq_iff_eq, beq_eq_false_iff_ne, ne_eq, decide_eq_decide, eq_self, true_iff, iff_true, not_true_eq_false, not_false_eq_true]; first | done | omega)) ?_)
    exact Cd.ret (ret1 (A' := WlB wb db ⟨⟨hn, half, snap, log⟩, recs, dead⟩ :: D) rfl (Res.tmp rfl) (fun _ h => h.split) ⟨by congr 1 <;> omega, rfl⟩)
end Go.Proofs.YtnmjdoaogdaehaaGreat
namespace Go.Proofs.YtnmjdoaogdaehaaGreat
open Go Go.Sep Go.Proofs
set_option maxRecDepth 10000
set_option linter.unusedSimpArgs false
set_option linter.unusedVariables false
/-! a disk that is not armed never fails -/
structure Calm (x : Dk) (len : Nat) : Prop where
  de : x.de = false
  ar : x.ar = 0
  len : x.S.length = len
  sz : ∀ s ∈ x.S, s.size = 128
theorem write_calm {x : Dk} {len i : Nat} {s : ByteArray} (h : Calm x len) (hi : i < len) (hs : s.size = 128) : (x.write (i : Int) s).2 = 0 ∧ Calm (x.write (i : Int) s).1 len := by
  obtain ⟨S, ar, bd, de⟩ := x
  obtain ⟨h1, h2, h3, h4⟩ := h
  dsimp only at h1 h2 h3 h4
  subst h1
  subst h2
  have e : writeD S 0 bd false (i : Int) s = ((S.set i s, 0, false), 0) := by
    unfold writeD
    rw [if_neg (by simp), if_neg (by omega), if_neg (by omega), if_neg (by decide)]
    rfl
  unfold Dk.write Dk.put
  dsimp only
  rw [e]
  refine ⟨rfl, rfl, rfl, by simpa using h3, fun t ht => ?_⟩
  rcases List.mem_or_eq_of_mem_set ht with ht | rfl
  · exact h4 t ht
  · exact hs
theorem pages_calm {half len : Nat} (hh : half ≤ 1) : ∀ (n at_ : Nat) (s : ByteArray) (x : Dk), s.size ≤ n → Calm x len → at_ + s.size ≤ roomF len → (pagesF half at_ s x).2 = true ∧ Calm (pagesF half at_ s x).1 len
  | 0, at_, s, x, hs, hc, hr => by
    unfold pagesF
    rw [dif_pos (by omega)]
    exact ⟨rfl, hc⟩
  | n + 1, at_, s, x, hs, hc, hr => by
    by_cases h0 : s.size = 0
    · unfold pagesF
      rw [dif_pos h0]
      exact ⟨rfl, hc⟩
    have hrm : roomF len ≠ 0 := by omega
    have e1 : roomF len = (len - 2) / 2 * 128 ∧ 4 ≤ len ∧ len % 2 = 0 := by
      unfold roomF at hrm ⊢
      split at hrm
      · omega
      · rename_i h; rw [if_neg h]; omega
    obtain ⟨e1, e2, e3⟩ := e1
    have e4 : half * roomF len / 128 = half * ((len - 2) / 2) := by
      rw [e1, ← Nat.mul_assoc, Nat.mul_div_cancel _ (by decide)]
    have hlt : 2 + half * roomF x.S.length / 128 + at_ / 128 < len := by
      rw [hc.len, e4]
      have : at_ / 128 < (len - 2) / 2 := by omega
      rcases (by omega : half = 0 ∨ half = 1) with rfl | rfl <;> omega
    have hpg : (pageF (x.S.getD (2 + half * roomF x.S.length / 128 + at_ / 128) .empty) s (at_ % 128)).size = 128 := by
      refine pageF_size ?_ (Nat.mod_lt _ (by decide))
      rw [List.getD_eq_getElem?_getD, List.getElem?_eq_getElem (by have := hc.len; omega)]
      exact hc.sz _ (List.getElem_mem _)
    obtain ⟨w1, w2⟩ := write_calm hc hlt hpg
    have hng : ¬ (x.de = true ∨ ¬ 2 + half * roomF x.S.length / 128 + at_ / 128 < x.S.length) := by
      rintro (q | q)
      · rw [hc.de] at q; cases q
      · have := hc.len; omega
    unfold pagesF
    rw [dif_neg h0, if_neg hng]
    dsimp only
    rw [if_neg (not_not_intro w1)]
    refine pages_calm hh n _ _ _ ?_ w2 ?_
    · rw [ByteArray.size_extract]; omega
    · rw [ByteArray.size_extract]; omega
theorem head_calm {h : Hd} {r : Dk × Bool} {len : Nat} (hr : r.2 = true) (hc : Calm r.1 len) (hl : 2 ≤ len) : (headF h r).2 = true ∧ Calm (headF h r).1 len := by
  have hlt : h.number % 2 < len := by omega
  obtain ⟨w1, w2⟩ := write_calm hc hlt (sectorF_size h)
  unfold headF
  rw [if_pos hr]
  exact ⟨by rw [decide_eq_true w1], w2⟩
theorem append_calm {w : Wl} {x : Dk} {len : Nat} {r : ByteArray} (hc : Calm x len) (hw : WlOk w len) (hd : w.dead = false) (h1 : 0 < r.size) (h2 : r.size ≤ 2048) (hfit : w.h.snap + w.h.log + (frameF r).size ≤ roomF len) (hn : w.h.number < 1099511627776) :
    (appendF w x r).2 = 0 ∧ (appendF w x r).1.1 = ⟨⟨w.h.number + 1, w.h.half, w.h.snap, w.h.log + (frameF r).size⟩, w.recs + 1, false⟩ ∧ Calm (appendF w x r).1.2 len := by
  have hl2 : 2 ≤ len := by
    unfold roomF at hfit
    split at hfit
    · rw [frameF, ByteArray.size_append] at hfit; omega
    · omega
  have e : appendF w x r = w.done ⟨w.h.number + 1, w.h.half, w.h.snap, w.h.log + (frameF r).size⟩ (w.recs + 1)
    (headF ⟨w.h.number + 1, w.h.half, w.h.snap, w.h.log + (frameF r).size⟩ (pagesF w.h.half (w.h.snap + w.h.log) (frameF r) x)) := by
    unfold appendF
    rw [if_neg (by rw [hd, hc.de]; simp), if_neg (by omega), if_neg (by rw [hc.len]; omega), if_neg (by omega)]
  rw [e]
  obtain ⟨p1, p2⟩ := pages_calm hw.f _ (w.h.snap + w.h.log) (frameF r) x (Nat.le_refl _) hc (by omega)
  obtain ⟨q1, q2⟩ := head_calm (h := ⟨w.h.number + 1, w.h.half, w.h.snap, w.h.log + (frameF r).size⟩) p1 p2 hl2
  unfold Wl.done
  rw [if_pos q1]
  exact ⟨rfl, by rw [hd], q2⟩
end Go.Proofs.YtnmjdoaogdaehaaGreat
