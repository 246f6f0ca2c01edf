import Derived.Test.YtfghnepmbgbnoaaA21
namespace Go.Proofs.Ytfghnepmbgbnoaa
open Go Go.Sep Go.Proofs
set_option maxRecDepth 10000
set_option maxHeartbeats 8000000
set_option synthInstance.maxSize 2000
set_option linter.unusedSimpArgs false
set_option linter.unusedVariables false

def evX (k : Int) : Ev := if k.tmod 3 = 1 then ⟨4, 0, 2, 7, 0, 0, 0, 0, 0, 0, 0, ⟨#[]⟩, [], none, 0⟩ else if k.tmod 3 = 2 then ⟨3, 0, 2, 7, 0, 0, 0, 0, 0, 0, 0, ⟨#[]⟩, [], none, 0⟩ else ⟨1, 30, 0, 0, 0, 0, 0, 0, 0, 0, 0, ⟨#[]⟩, [], none, 0⟩
theorem evX_ok (k : Int) : ((evX k).kind ∉ kinds ∨ ((evX k).kind = 4 ∧ (evX k).node ≠ 0)) ∧ mayE (evX k) = true ∧ (evX k).texts = [] := by
  unfold evX
  split
  · exact ⟨.inr ⟨rfl, by decide⟩, by rfl, rfl⟩
  · split
    · exact ⟨.inl (by decide), by rfl, rfl⟩
    · exact ⟨.inl (by decide), by rfl, rfl⟩
def shiftF (m : Nat) (f : Int × Int) : Int × Int := if (m : Int) ≤ f.2 then (f.1, f.2 + 1) else f

theorem audit_passes (w : World) (sa : Option Addr) (cap : Nat) (l : List Ev) (n kd : Int) (hL : LsOk (baseOf w) sa l) (hcap : l.length ≤ cap) :
    Calls Try.prog 4 #[.slice sa l.length cap, .int .i64 n, .int .i64 kd] w fun e w' => e = .returned (.bool true) ∧ RowKit.Below w.heap.size w w' := by
  have hall := all_spec (baseOf w) sa cap l hL
  have hfew2 := hL.few
  obtain ⟨m, hm, hml⟩ : ∃ m : Nat, min (max 0 n) (l.length : Int) = m ∧ m ≤ l.length := ⟨(min (max 0 n) (l.length : Int)).toNat, by omega, by omega⟩
  have htl : (l.take m).length = m := by rw [List.length_take]; omega
  refine calls_base (vs := [_, _, _]) Try.func4 rfl Try.ntmps4 rfl ?_
  repeat' (first | refine Cd.seq ?_ | refine Cd.reg ?_ | refine Ops.mv rfl rfl rfl rfl ?_ | refine Ops.asg rfl rfl rfl rfl ?_)
  refine Ops.callB hall (Ext.refl _) rfl (noPd rfl) rfl rfl rfl (fun v A' hR => ?_)
  obtain ⟨sv, rfl, hrs, va, rfl⟩ := hR
  by_cases he : (allF l).2 = 0
  case neg =>
    obtain ⟨h1, h2⟩ := allF_err he
    rw [h1] at hrs ⊢
    repeat' (first | refine Cd.seq ?_ | refine Cd.reg ?_ | refine Ops.nil ?_ | refine Ops.mv rfl rfl rfl rfl ?_ | refine Ops.asg rfl rfl rfl rfl ?_ | refine Ops.lenS rfl rfl rfl rfl ?_ | refine Ops.bin rfl rfl rfl rfl rfl ?_ | refine Ops.ext rfl rfl rfl rfl rfl ?_ | refine Cd.condT rfl (by first | rfl | assumption | (simp only [decide_eq_true_eq, decide_eq_false_iff_not, Bool.not_eq_true', Bool.not_eq_false', Bool.not_eq_eq_eq_not, Bool.not_true, Bool.not_false, beq_iff_eq, beq_eq_false_iff_ne, ne_eq, decide_eq_decide, eq_self, true_iff, iff_true, not_true_eq_false, not_false_eq_true]; first | done | omega)) ?_)
    refine Ops.call fixed_spec rfl (noPd rfl) rfl rfl rfl (fun v A2 hR => ?_)
    obtain ⟨rfl, rfl⟩ := hR
    repeat' (first | refine Ops.nil ?_ | refine Ops.asg rfl rfl rfl rfl ?_ | refine Ops.pickT rfl rfl rfl rfl rfl ?_)
    exact Cd.ret (ret1 (A' := []) rfl (Res.tmp rfl) (fun _ h => h.split) rfl)
  obtain ⟨r, hr⟩ : ∃ r, allF l = (r, 0) := ⟨(allF l).1, Prod.ext rfl he⟩
  obtain ⟨hfew, hmay, hrun⟩ := allF_ok hr
  obtain ⟨hall8, hsort⟩ := runF_ok l Au.new 0
  rw [← hrun] at hall8
  have hrl := runF_len l Au.new 0
  rw [← hrun] at hrl
  rw [hr] at hrs ⊢
  dsimp only at hrs ⊢
  have hmc : (m : Int) ≤ cap := by omega
  generalize hc5 : Code.seq (Code.seq (Code.region 5 _ _) _) _ = c5
  repeat' (first | refine Cd.seq ?_ | refine Cd.reg ?_ | refine Ops.nil ?_ | refine Ops.mv rfl rfl rfl rfl ?_ | refine Ops.asg rfl rfl rfl rfl ?_ | refine Ops.lenS rfl rfl rfl rfl ?_ | refine Ops.maxI rfl rfl rfl rfl rfl ?_ | refine Ops.minI rfl rfl rfl rfl rfl ?_ | refine Ops.bin rfl rfl rfl rfl rfl ?_ | refine Ops.ext rfl rfl rfl rfl rfl ?_ | refine Cd.condF rfl rfl ?_ | refine Cd.skip (Cd.next ?_))
  rw [hm]
  skip
  subst hc5
  refine Cd.cut (σ := Unit) (fun _ => l.length ≠ 65536 ∧ ∀ e, (l.take m).getLast? = some e → e.kind ≠ 4 ∧ e.kind ≠ 14) (fun _ => [(0, .slice sa l.length cap), (2, .int .i64 kd), (7, .slice va r.length r.length), (9, .int .i64 m)]) (fun _ => A') ?_ (fun _ hI => ?_)
  · by_cases hne : l.length = 65536
    · have hne' : (l.length : Int) = 65536 := by omega
      repeat' (first | refine Cd.seq ?_ | refine Cd.reg ?_ | refine Ops.nil ?_ | refine Ops.mv rfl rfl rfl rfl ?_ | refine Ops.lenS rfl rfl rfl rfl ?_ | refine Ops.bin rfl rfl rfl rfl rfl ?_ | refine Ops.pickT rfl rfl rfl rfl rfl ?_ | refine Ops.gSkip rfl rfl rfl ?_ | refine Ops.gSkipU rfl rfl rfl rfl ?_ | refine Cd.condT rfl rfl ?_ | ((fail_if_success refine Ops.probe rfl ?_); refine Ops.gT rfl rfl (by first | rfl | assumption | (simp only [decide_eq_true_eq, decide_eq_false_iff_not, Bool.not_eq_true', Bool.not_eq_false', Bool.not_eq_eq_eq_not, Bool.not_true, Bool.not_false, beq_iff_eq, beq_eq_false_iff_ne, ne_eq, decide_eq_decide, eq_self, true_iff, iff_true, not_true_eq_false, not_false_eq_true]; first | done | omega)) ?_))
      refine Ops.call fixed_spec rfl (noPd rfl) rfl rfl rfl (fun v A2 hR => ?_)
      obtain ⟨rfl, rfl⟩ := hR
      repeat' (first | refine Ops.nil ?_ | refine Ops.asg rfl rfl rfl rfl ?_)
      exact Cd.ret (ret1 (A' := []) rfl (Res.tmp rfl) (fun _ h => h.split) rfl)
    have hne' : ¬ (l.length : Int) = 65536 := by omega
    have hlast : ∀ e, (l.take m).getLast? = some e → 0 < m ∧ l[m - 1]? = some e := fun e he => by
      rw [List.getLast?_eq_getElem?, htl, List.getElem?_take] at he
      split at he
      · exact ⟨by omega, he⟩
      · cases he
    by_cases hlt : m < l.length
    · have hlt' : (m : Int) < l.length := by omega
      obtain ⟨e0, he0⟩ : ∃ e, l[m]? = some e := ⟨_, List.getElem?_eq_getElem hlt⟩
      obtain ⟨b0, off0, hsa0, hrd0⟩ := hL.vin m e0 he0
      subst hsa0
      have hr0 : ∀ A, Rd (baseOf w) A b0 (off0 + (m : Int).toNat * 13 + 0) (.int .i64 e0.kind) := fun A => by rw [Int.toNat_natCast]; exact hrd0 A 0 _ rfl
      by_cases k14 : e0.kind = 14
      · skip
        repeat' (first | refine Cd.seq ?_ | refine Cd.reg ?_ | refine Ops.mv rfl rfl rfl rfl ?_ | refine Ops.fa rfl rfl rfl rfl ?_ | refine Ops.lenS rfl rfl rfl rfl ?_ | refine Ops.bin rfl rfl rfl rfl rfl ?_ | refine Ops.ixa rfl rfl rfl rfl (by omega) (by omega) rfl ?_ | ((fail_if_success refine Ops.probe rfl ?_); refine Ops.gT rfl rfl (by first | rfl | assumption | (simp only [decide_eq_true_eq, decide_eq_false_iff_not, Bool.not_eq_true', Bool.not_eq_false', Bool.not_eq_eq_eq_not, Bool.not_true, Bool.not_false, beq_iff_eq, beq_eq_false_iff_ne, ne_eq, decide_eq_decide, eq_self, true_iff, iff_true, not_true_eq_false, not_false_eq_true]; first | done | omega)) ?_) | ((fail_if_success refine Ops.probe rfl ?_); refine Ops.gF rfl rfl (by first | rfl | assumption | (simp only [decide_eq_true_eq, decide_eq_false_iff_not, Bool.not_eq_true', Bool.not_eq_false', Bool.not_eq_eq_eq_not, Bool.not_true, Bool.not_false, beq_iff_eq, beq_eq_false_iff_ne, ne_eq, decide_eq_decide, eq_self, true_iff, iff_true, not_true_eq_false, not_false_eq_true]; first | done | omega)) ?_))
        refine Ops.ldR rfl rfl rfl (hr0 _) rfl ?_
        repeat' (first | refine Cd.seq ?_ | refine Cd.reg ?_ | refine Ops.nil ?_ | refine Ops.mv rfl rfl rfl rfl ?_ | refine Ops.bin rfl rfl rfl rfl rfl ?_ | refine Ops.pickT rfl rfl rfl rfl rfl ?_ | refine Ops.pickF rfl rfl rfl rfl rfl ?_ | refine Ops.gSkip rfl rfl rfl ?_ | refine Ops.gSkipU rfl rfl rfl rfl ?_ | refine Cd.condT rfl rfl ?_ | ((fail_if_success refine Ops.probe rfl ?_); refine Ops.gT rfl rfl (by first | rfl | assumption | (simp only [decide_eq_true_eq, decide_eq_false_iff_not, Bool.not_eq_true', Bool.not_eq_false', Bool.not_eq_eq_eq_not, Bool.not_true, Bool.not_false, beq_iff_eq, beq_eq_false_iff_ne, ne_eq, decide_eq_decide, eq_self, true_iff, iff_true, not_true_eq_false, not_false_eq_true]; first | done | omega)) ?_))
        refine Ops.call fixed_spec rfl (noPd rfl) rfl rfl rfl (fun v A2 hR => ?_)
        obtain ⟨rfl, rfl⟩ := hR
        repeat' (first | refine Ops.nil ?_ | refine Ops.asg rfl rfl rfl rfl ?_)
        exact Cd.ret (ret1 (A' := []) rfl (Res.tmp rfl) (fun _ h => h.split) rfl)
      by_cases h0 : m = 0
      · have h0' : ¬ (0 : Int) < m := by omega
        repeat' (first | refine Cd.seq ?_ | refine Cd.reg ?_ | refine Ops.mv rfl rfl rfl rfl ?_ | refine Ops.fa rfl rfl rfl rfl ?_ | refine Ops.lenS rfl rfl rfl rfl ?_ | refine Ops.bin rfl rfl rfl rfl rfl ?_ | refine Ops.ixa rfl rfl rfl rfl (by omega) (by omega) rfl ?_ | ((fail_if_success refine Ops.probe rfl ?_); refine Ops.gT rfl rfl (by first | rfl | assumption | (simp only [decide_eq_true_eq, decide_eq_false_iff_not, Bool.not_eq_true', Bool.not_eq_false', Bool.not_eq_eq_eq_not, Bool.not_true, Bool.not_false, beq_iff_eq, beq_eq_false_iff_ne, ne_eq, decide_eq_decide, eq_self, true_iff, iff_true, not_true_eq_false, not_false_eq_true]; first | done | omega)) ?_) | ((fail_if_success refine Ops.probe rfl ?_); refine Ops.gF rfl rfl (by first | rfl | assumption | (simp only [decide_eq_true_eq, decide_eq_false_iff_not, Bool.not_eq_true', Bool.not_eq_false', Bool.not_eq_eq_eq_not, Bool.not_true, Bool.not_false, beq_iff_eq, beq_eq_false_iff_ne, ne_eq, decide_eq_decide, eq_self, true_iff, iff_true, not_true_eq_false, not_false_eq_true]; first | done | omega)) ?_))
        refine Ops.ldR rfl rfl rfl (hr0 _) rfl ?_
        repeat' (first | refine Ops.nil ?_ | refine Ops.mv rfl rfl rfl rfl ?_ | refine Ops.bin rfl rfl rfl rfl rfl ?_ | refine Ops.pickT rfl rfl rfl rfl rfl ?_ | refine Ops.pickF rfl rfl rfl rfl rfl ?_ | refine Ops.gSkip rfl rfl rfl ?_ | refine Ops.gSkipU rfl rfl rfl rfl ?_ | refine Cd.condF rfl rfl ?_ | ((fail_if_success refine Ops.probe rfl ?_); refine Ops.gF rfl rfl (by first | rfl | assumption | (simp only [decide_eq_true_eq, decide_eq_false_iff_not, Bool.not_eq_true', Bool.not_eq_false', Bool.not_eq_eq_eq_not, Bool.not_true, Bool.not_false, beq_iff_eq, beq_eq_false_iff_ne, ne_eq, decide_eq_decide, eq_self, true_iff, iff_true, not_true_eq_false, not_false_eq_true]; first | done | omega)) ?_))
        exact Cd.skip (meet_end (Q := fun _ _ _ => True) () ⟨hne, fun e he => by have := (hlast e he).1; omega⟩ ⟨rfl, rfl, rfl, rfl, trivial⟩ (fun w h => h.split))
      · have h0' : (0 : Int) < m := by omega
        obtain ⟨e1, he1⟩ : ∃ e, l[m - 1]? = some e := ⟨_, List.getElem?_eq_getElem (by omega)⟩
        obtain ⟨b1, off1, hsa1, hrd1⟩ := hL.vin (m - 1) e1 he1
        obtain ⟨rfl, rfl⟩ : b1 = b0 ∧ off1 = off0 := by injection hsa1 with h; injection h with h1 h2; exact ⟨h1.symm, h2.symm⟩
        have hr1 : ∀ A, Rd (baseOf w) A b1 (off1 + ((m : Int) - 1).toNat * 13 + 0) (.int .i64 e1.kind) := fun A => by rw [show ((m : Int) - 1).toNat = m - 1 from by omega]; exact hrd1 A 0 _ rfl
        have hm1 : (m : Int) - 1 < l.length := by omega
        by_cases q14 : e1.kind = 14
        · skip
          repeat' (first | refine Cd.seq ?_ | refine Cd.reg ?_ | refine Ops.mv rfl rfl rfl rfl ?_ | refine Ops.fa rfl rfl rfl rfl ?_ | refine Ops.lenS rfl rfl rfl rfl ?_ | refine Ops.bin rfl rfl rfl rfl rfl ?_ | refine Ops.ixa rfl rfl rfl rfl (by omega) (by omega) rfl ?_ | ((fail_if_success refine Ops.probe rfl ?_); refine Ops.gT rfl rfl (by first | rfl | assumption | (simp only [decide_eq_true_eq, decide_eq_false_iff_not, Bool.not_eq_true', Bool.not_eq_false', Bool.not_eq_eq_eq_not, Bool.not_true, Bool.not_false, beq_iff_eq, beq_eq_false_iff_ne, ne_eq, decide_eq_decide, eq_self, true_iff, iff_true, not_true_eq_false, not_false_eq_true]; first | done | omega)) ?_) | ((fail_if_success refine Ops.probe rfl ?_); refine Ops.gF rfl rfl (by first | rfl | assumption | (simp only [decide_eq_true_eq, decide_eq_false_iff_not, Bool.not_eq_true', Bool.not_eq_false', Bool.not_eq_eq_eq_not, Bool.not_true, Bool.not_false, beq_iff_eq, beq_eq_false_iff_ne, ne_eq, decide_eq_decide, eq_self, true_iff, iff_true, not_true_eq_false, not_false_eq_true]; first | done | omega)) ?_))
          refine Ops.ldR rfl rfl rfl (hr0 _) rfl ?_
          repeat' (first | refine Ops.mv rfl rfl rfl rfl ?_ | refine Ops.fa rfl rfl rfl rfl ?_ | refine Ops.subI rfl rfl rfl rfl (by omega) (by omega) rfl ?_ | refine Ops.bin rfl rfl rfl rfl rfl ?_ | refine Ops.pickT rfl rfl rfl rfl rfl ?_ | refine Ops.pickF rfl rfl rfl rfl rfl ?_ | refine Ops.ixa rfl rfl rfl rfl (by omega) (by omega) rfl ?_ | ((fail_if_success refine Ops.probe rfl ?_); refine Ops.gT rfl rfl (by first | rfl | assumption | (simp only [decide_eq_true_eq, decide_eq_false_iff_not, Bool.not_eq_true', Bool.not_eq_false', Bool.not_eq_eq_eq_not, Bool.not_true, Bool.not_false, beq_iff_eq, beq_eq_false_iff_ne, ne_eq, decide_eq_decide, eq_self, true_iff, iff_true, not_true_eq_false, not_false_eq_true]; first | done | omega)) ?_) | ((fail_if_success refine Ops.probe rfl ?_); refine Ops.gF rfl rfl (by first | rfl | assumption | (simp only [decide_eq_true_eq, decide_eq_false_iff_not, Bool.not_eq_true', Bool.not_eq_false', Bool.not_eq_eq_eq_not, Bool.not_true, Bool.not_false, beq_iff_eq, beq_eq_false_iff_ne, ne_eq, decide_eq_decide, eq_self, true_iff, iff_true, not_true_eq_false, not_false_eq_true]; first | done | omega)) ?_))
          refine Ops.ldR rfl rfl rfl (hr1 _) rfl ?_
          repeat' (first | refine Cd.seq ?_ | refine Cd.reg ?_ | refine Ops.nil ?_ | refine Ops.mv rfl rfl rfl rfl ?_ | refine Ops.bin rfl rfl rfl rfl rfl ?_ | refine Ops.pickT rfl rfl rfl rfl rfl ?_ | refine Ops.pickF rfl rfl rfl rfl rfl ?_ | refine Ops.gSkip rfl rfl rfl ?_ | refine Cd.condT rfl rfl ?_ | ((fail_if_success refine Ops.probe rfl ?_); refine Ops.gT rfl rfl (by first | rfl | assumption | (simp only [decide_eq_true_eq, decide_eq_false_iff_not, Bool.not_eq_true', Bool.not_eq_false', Bool.not_eq_eq_eq_not, Bool.not_true, Bool.not_false, beq_iff_eq, beq_eq_false_iff_ne, ne_eq, decide_eq_decide, eq_self, true_iff, iff_true, not_true_eq_false, not_false_eq_true]; first | done | omega)) ?_))
          refine Ops.call fixed_spec rfl (noPd rfl) rfl rfl rfl (fun v A2 hR => ?_)
          obtain ⟨rfl, rfl⟩ := hR
          repeat' (first | refine Ops.nil ?_ | refine Ops.asg rfl rfl rfl rfl ?_)
          exact Cd.ret (ret1 (A' := []) rfl (Res.tmp rfl) (fun _ h => h.split) rfl)
        by_cases q4 : e1.kind = 4
        · skip
          repeat' (first | refine Cd.seq ?_ | refine Cd.reg ?_ | refine Ops.mv rfl rfl rfl rfl ?_ | refine Ops.fa rfl rfl rfl rfl ?_ | refine Ops.lenS rfl rfl rfl rfl ?_ | refine Ops.bin rfl rfl rfl rfl rfl ?_ | refine Ops.ixa rfl rfl rfl rfl (by omega) (by omega) rfl ?_ | ((fail_if_success refine Ops.probe rfl ?_); refine Ops.gT rfl rfl (by first | rfl | assumption | (simp only [decide_eq_true_eq, decide_eq_false_iff_not, Bool.not_eq_true', Bool.not_eq_false', Bool.not_eq_eq_eq_not, Bool.not_true, Bool.not_false, beq_iff_eq, beq_eq_false_iff_ne, ne_eq, decide_eq_decide, eq_self, true_iff, iff_true, not_true_eq_false, not_false_eq_true]; first | done | omega)) ?_) | ((fail_if_success refine Ops.probe rfl ?_); refine Ops.gF rfl rfl (by first | rfl | assumption | (simp only [decide_eq_true_eq, decide_eq_false_iff_not, Bool.not_eq_true', Bool.not_eq_false', Bool.not_eq_eq_eq_not, Bool.not_true, Bool.not_false, beq_iff_eq, beq_eq_false_iff_ne, ne_eq, decide_eq_decide, eq_self, true_iff, iff_true, not_true_eq_false, not_false_eq_true]; first | done | omega)) ?_))
          refine Ops.ldR rfl rfl rfl (hr0 _) rfl ?_
          repeat' (first | refine Ops.mv rfl rfl rfl rfl ?_ | refine Ops.fa rfl rfl rfl rfl ?_ | refine Ops.subI rfl rfl rfl rfl (by omega) (by omega) rfl ?_ | refine Ops.bin rfl rfl rfl rfl rfl ?_ | refine Ops.pickT rfl rfl rfl rfl rfl ?_ | refine Ops.pickF rfl rfl rfl rfl rfl ?_ | refine Ops.ixa rfl rfl rfl rfl (by omega) (by omega) rfl ?_ | ((fail_if_success refine Ops.probe rfl ?_); refine Ops.gT rfl rfl (by first | rfl | assumption | (simp only [decide_eq_true_eq, decide_eq_false_iff_not, Bool.not_eq_true', Bool.not_eq_false', Bool.not_eq_eq_eq_not, Bool.not_true, Bool.not_false, beq_iff_eq, beq_eq_false_iff_ne, ne_eq, decide_eq_decide, eq_self, true_iff, iff_true, not_true_eq_false, not_false_eq_true]; first | done | omega)) ?_) | ((fail_if_success refine Ops.probe rfl ?_); refine Ops.gF rfl rfl (by first | rfl | assumption | (simp only [decide_eq_true_eq, decide_eq_false_iff_not, Bool.not_eq_true', Bool.not_eq_false', Bool.not_eq_eq_eq_not, Bool.not_true, Bool.not_false, beq_iff_eq, beq_eq_false_iff_ne, ne_eq, decide_eq_decide, eq_self, true_iff, iff_true, not_true_eq_false, not_false_eq_true]; first | done | omega)) ?_))
          refine Ops.ldR rfl rfl rfl (hr1 _) rfl ?_
          repeat' (first | refine Ops.mv rfl rfl rfl rfl ?_ | refine Ops.fa rfl rfl rfl rfl ?_ | refine Ops.subI rfl rfl rfl rfl (by omega) (by omega) rfl ?_ | refine Ops.bin rfl rfl rfl rfl rfl ?_ | refine Ops.ixa rfl rfl rfl rfl (by omega) (by omega) rfl ?_ | ((fail_if_success refine Ops.probe rfl ?_); refine Ops.gF rfl rfl (by first | rfl | assumption | (simp only [decide_eq_true_eq, decide_eq_false_iff_not, Bool.not_eq_true', Bool.not_eq_false', Bool.not_eq_eq_eq_not, Bool.not_true, Bool.not_false, beq_iff_eq, beq_eq_false_iff_ne, ne_eq, decide_eq_decide, eq_self, true_iff, iff_true, not_true_eq_false, not_false_eq_true]; first | done | omega)) ?_))
          refine Ops.ldR rfl rfl rfl (hr1 _) rfl ?_
          repeat' (first | refine Cd.seq ?_ | refine Cd.reg ?_ | refine Ops.nil ?_ | refine Ops.bin rfl rfl rfl rfl rfl ?_ | refine Ops.pickT rfl rfl rfl rfl rfl ?_ | refine Ops.pickF rfl rfl rfl rfl rfl ?_ | refine Cd.condT rfl (by first | rfl | assumption | (simp only [decide_eq_true_eq, decide_eq_false_iff_not, Bool.not_eq_true', Bool.not_eq_false', Bool.not_eq_eq_eq_not, Bool.not_true, Bool.not_false, beq_iff_eq, beq_eq_false_iff_ne, ne_eq, decide_eq_decide, eq_self, true_iff, iff_true, not_true_eq_false, not_false_eq_true]; first | done | omega)) ?_)
          refine Ops.call fixed_spec rfl (noPd rfl) rfl rfl rfl (fun v A2 hR => ?_)
          obtain ⟨rfl, rfl⟩ := hR
          repeat' (first | refine Ops.nil ?_ | refine Ops.asg rfl rfl rfl rfl ?_)
          exact Cd.ret (ret1 (A' := []) rfl (Res.tmp rfl) (fun _ h => h.split) rfl)
        repeat' (first | refine Cd.seq ?_ | refine Cd.reg ?_ | refine Ops.mv rfl rfl rfl rfl ?_ | refine Ops.fa rfl rfl rfl rfl ?_ | refine Ops.lenS rfl rfl rfl rfl ?_ | refine Ops.bin rfl rfl rfl rfl rfl ?_ | refine Ops.ixa rfl rfl rfl rfl (by omega) (by omega) rfl ?_ | ((fail_if_success refine Ops.probe rfl ?_); refine Ops.gT rfl rfl (by first | rfl | assumption | (simp only [decide_eq_true_eq, decide_eq_false_iff_not, Bool.not_eq_true', Bool.not_eq_false', Bool.not_eq_eq_eq_not, Bool.not_true, Bool.not_false, beq_iff_eq, beq_eq_false_iff_ne, ne_eq, decide_eq_decide, eq_self, true_iff, iff_true, not_true_eq_false, not_false_eq_true]; first | done | omega)) ?_) | ((fail_if_success refine Ops.probe rfl ?_); refine Ops.gF rfl rfl (by first | rfl | assumption | (simp only [decide_eq_true_eq, decide_eq_false_iff_not, Bool.not_eq_true', Bool.not_eq_false', Bool.not_eq_eq_eq_not, Bool.not_true, Bool.not_false, beq_iff_eq, beq_eq_false_iff_ne, ne_eq, decide_eq_decide, eq_self, true_iff, iff_true, not_true_eq_false, not_false_eq_true]; first | done | omega)) ?_))
        refine Ops.ldR rfl rfl rfl (hr0 _) rfl ?_
        repeat' (first | refine Ops.mv rfl rfl rfl rfl ?_ | refine Ops.fa rfl rfl rfl rfl ?_ | refine Ops.subI rfl rfl rfl rfl (by omega) (by omega) rfl ?_ | refine Ops.bin rfl rfl rfl rfl rfl ?_ | refine Ops.pickT rfl rfl rfl rfl rfl ?_ | refine Ops.pickF rfl rfl rfl rfl rfl ?_ | refine Ops.ixa rfl rfl rfl rfl (by omega) (by omega) rfl ?_ | ((fail_if_success refine Ops.probe rfl ?_); refine Ops.gT rfl rfl (by first | rfl | assumption | (simp only [decide_eq_true_eq, decide_eq_false_iff_not, Bool.not_eq_true', Bool.not_eq_false', Bool.not_eq_eq_eq_not, Bool.not_true, Bool.not_false, beq_iff_eq, beq_eq_false_iff_ne, ne_eq, decide_eq_decide, eq_self, true_iff, iff_true, not_true_eq_false, not_false_eq_true]; first | done | omega)) ?_) | ((fail_if_success refine Ops.probe rfl ?_); refine Ops.gF rfl rfl (by first | rfl | assumption | (simp only [decide_eq_true_eq, decide_eq_false_iff_not, Bool.not_eq_true', Bool.not_eq_false', Bool.not_eq_eq_eq_not, Bool.not_true, Bool.not_false, beq_iff_eq, beq_eq_false_iff_ne, ne_eq, decide_eq_decide, eq_self, true_iff, iff_true, not_true_eq_false, not_false_eq_true]; first | done | omega)) ?_))
        refine Ops.ldR rfl rfl rfl (hr1 _) rfl ?_
        repeat' (first | refine Ops.mv rfl rfl rfl rfl ?_ | refine Ops.fa rfl rfl rfl rfl ?_ | refine Ops.subI rfl rfl rfl rfl (by omega) (by omega) rfl ?_ | refine Ops.bin rfl rfl rfl rfl rfl ?_ | refine Ops.ixa rfl rfl rfl rfl (by omega) (by omega) rfl ?_ | ((fail_if_success refine Ops.probe rfl ?_); refine Ops.gF rfl rfl (by first | rfl | assumption | (simp only [decide_eq_true_eq, decide_eq_false_iff_not, Bool.not_eq_true', Bool.not_eq_false', Bool.not_eq_eq_eq_not, Bool.not_true, Bool.not_false, beq_iff_eq, beq_eq_false_iff_ne, ne_eq, decide_eq_decide, eq_self, true_iff, iff_true, not_true_eq_false, not_false_eq_true]; first | done | omega)) ?_))
        refine Ops.ldR rfl rfl rfl (hr1 _) rfl ?_
        repeat' (first | refine Ops.nil ?_ | refine Ops.bin rfl rfl rfl rfl rfl ?_ | refine Ops.pickT rfl rfl rfl rfl rfl ?_ | refine Ops.pickF rfl rfl rfl rfl rfl ?_ | refine Cd.condF rfl (by first | rfl | assumption | (simp only [decide_eq_true_eq, decide_eq_false_iff_not, Bool.not_eq_true', Bool.not_eq_false', Bool.not_eq_eq_eq_not, Bool.not_true, Bool.not_false, beq_iff_eq, beq_eq_false_iff_ne, ne_eq, decide_eq_decide, eq_self, true_iff, iff_true, not_true_eq_false, not_false_eq_true]; first | done | omega)) ?_)
        exact Cd.skip (meet_end (Q := fun _ _ _ => True) () ⟨hne, fun e he => by
          have h2 := (hlast e he).2
          rw [he1] at h2
          injection h2 with h2
          subst h2
          exact ⟨q4, q14⟩⟩ ⟨rfl, rfl, rfl, rfl, trivial⟩ (fun w h => h.split))
    · have hlt' : ¬ (m : Int) < l.length := by omega
      by_cases h0 : m = 0
      · have h0' : ¬ (0 : Int) < m := by omega
        repeat' (first | refine Cd.seq ?_ | refine Cd.reg ?_ | refine Ops.nil ?_ | refine Ops.mv rfl rfl rfl rfl ?_ | refine Ops.lenS rfl rfl rfl rfl ?_ | refine Ops.bin rfl rfl rfl rfl rfl ?_ | refine Ops.pickF rfl rfl rfl rfl rfl ?_ | refine Ops.gSkip rfl rfl rfl ?_ | refine Ops.gSkipU rfl rfl rfl rfl ?_ | refine Cd.condF rfl rfl ?_ | ((fail_if_success refine Ops.probe rfl ?_); refine Ops.gF rfl rfl (by first | rfl | assumption | (simp only [decide_eq_true_eq, decide_eq_false_iff_not, Bool.not_eq_true', Bool.not_eq_false', Bool.not_eq_eq_eq_not, Bool.not_true, Bool.not_false, beq_iff_eq, beq_eq_false_iff_ne, ne_eq, decide_eq_decide, eq_self, true_iff, iff_true, not_true_eq_false, not_false_eq_true]; first | done | omega)) ?_))
        exact Cd.skip (meet_end (Q := fun _ _ _ => True) () ⟨hne, fun e he => by have := (hlast e he).1; omega⟩ ⟨rfl, rfl, rfl, rfl, trivial⟩ (fun w h => h.split))
      · have h0' : (0 : Int) < m := by omega
        obtain ⟨e1, he1⟩ : ∃ e, l[m - 1]? = some e := ⟨_, List.getElem?_eq_getElem (by omega)⟩
        obtain ⟨b1, off1, hsa1, hrd1⟩ := hL.vin (m - 1) e1 he1
        subst hsa1
        have hr1 : ∀ A, Rd (baseOf w) A b1 (off1 + ((m : Int) - 1).toNat * 13 + 0) (.int .i64 e1.kind) := fun A => by rw [show ((m : Int) - 1).toNat = m - 1 from by omega]; exact hrd1 A 0 _ rfl
        have hm1 : (m : Int) - 1 < l.length := by omega
        by_cases q14 : e1.kind = 14
        · skip
          repeat' (first | refine Cd.seq ?_ | refine Cd.reg ?_ | refine Ops.mv rfl rfl rfl rfl ?_ | refine Ops.fa rfl rfl rfl rfl ?_ | refine Ops.lenS rfl rfl rfl rfl ?_ | refine Ops.subI rfl rfl rfl rfl (by omega) (by omega) rfl ?_ | refine Ops.bin rfl rfl rfl rfl rfl ?_ | refine Ops.pickF rfl rfl rfl rfl rfl ?_ | refine Ops.gSkip rfl rfl rfl ?_ | refine Ops.ixa rfl rfl rfl rfl (by omega) (by omega) rfl ?_ | ((fail_if_success refine Ops.probe rfl ?_); refine Ops.gT rfl rfl (by first | rfl | assumption | (simp only [decide_eq_true_eq, decide_eq_false_iff_not, Bool.not_eq_true', Bool.not_eq_false', Bool.not_eq_eq_eq_not, Bool.not_true, Bool.not_false, beq_iff_eq, beq_eq_false_iff_ne, ne_eq, decide_eq_decide, eq_self, true_iff, iff_true, not_true_eq_false, not_false_eq_true]; first | done | omega)) ?_) | ((fail_if_success refine Ops.probe rfl ?_); refine Ops.gF rfl rfl (by first | rfl | assumption | (simp only [decide_eq_true_eq, decide_eq_false_iff_not, Bool.not_eq_true', Bool.not_eq_false', Bool.not_eq_eq_eq_not, Bool.not_true, Bool.not_false, beq_iff_eq, beq_eq_false_iff_ne, ne_eq, decide_eq_decide, eq_self, true_iff, iff_true, not_true_eq_false, not_false_eq_true]; first | done | omega)) ?_))
          refine Ops.ldR rfl rfl rfl (hr1 _) rfl ?_
          repeat' (first | refine Cd.seq ?_ | refine Cd.reg ?_ | refine Ops.nil ?_ | refine Ops.mv rfl rfl rfl rfl ?_ | refine Ops.bin rfl rfl rfl rfl rfl ?_ | refine Ops.pickT rfl rfl rfl rfl rfl ?_ | refine Ops.pickF rfl rfl rfl rfl rfl ?_ | refine Ops.gSkip rfl rfl rfl ?_ | refine Cd.condT rfl rfl ?_ | ((fail_if_success refine Ops.probe rfl ?_); refine Ops.gT rfl rfl (by first | rfl | assumption | (simp only [decide_eq_true_eq, decide_eq_false_iff_not, Bool.not_eq_true', Bool.not_eq_false', Bool.not_eq_eq_eq_not, Bool.not_true, Bool.not_false, beq_iff_eq, beq_eq_false_iff_ne, ne_eq, decide_eq_decide, eq_self, true_iff, iff_true, not_true_eq_false, not_false_eq_true]; first | done | omega)) ?_))
          refine Ops.call fixed_spec rfl (noPd rfl) rfl rfl rfl (fun v A2 hR => ?_)
          obtain ⟨rfl, rfl⟩ := hR
          repeat' (first | refine Ops.nil ?_ | refine Ops.asg rfl rfl rfl rfl ?_)
          exact Cd.ret (ret1 (A' := []) rfl (Res.tmp rfl) (fun _ h => h.split) rfl)
        by_cases q4 : e1.kind = 4
        · skip
          repeat' (first | refine Cd.seq ?_ | refine Cd.reg ?_ | refine Ops.mv rfl rfl rfl rfl ?_ | refine Ops.fa rfl rfl rfl rfl ?_ | refine Ops.lenS rfl rfl rfl rfl ?_ | refine Ops.subI rfl rfl rfl rfl (by omega) (by omega) rfl ?_ | refine Ops.bin rfl rfl rfl rfl rfl ?_ | refine Ops.pickF rfl rfl rfl rfl rfl ?_ | refine Ops.gSkip rfl rfl rfl ?_ | refine Ops.ixa rfl rfl rfl rfl (by omega) (by omega) rfl ?_ | ((fail_if_success refine Ops.probe rfl ?_); refine Ops.gT rfl rfl (by first | rfl | assumption | (simp only [decide_eq_true_eq, decide_eq_false_iff_not, Bool.not_eq_true', Bool.not_eq_false', Bool.not_eq_eq_eq_not, Bool.not_true, Bool.not_false, beq_iff_eq, beq_eq_false_iff_ne, ne_eq, decide_eq_decide, eq_self, true_iff, iff_true, not_true_eq_false, not_false_eq_true]; first | done | omega)) ?_) | ((fail_if_success refine Ops.probe rfl ?_); refine Ops.gF rfl rfl (by first | rfl | assumption | (simp only [decide_eq_true_eq, decide_eq_false_iff_not, Bool.not_eq_true', Bool.not_eq_false', Bool.not_eq_eq_eq_not, Bool.not_true, Bool.not_false, beq_iff_eq, beq_eq_false_iff_ne, ne_eq, decide_eq_decide, eq_self, true_iff, iff_true, not_true_eq_false, not_false_eq_true]; first | done | omega)) ?_))
          refine Ops.ldR rfl rfl rfl (hr1 _) rfl ?_
          repeat' (first | refine Ops.mv rfl rfl rfl rfl ?_ | refine Ops.fa rfl rfl rfl rfl ?_ | refine Ops.subI rfl rfl rfl rfl (by omega) (by omega) rfl ?_ | refine Ops.bin rfl rfl rfl rfl rfl ?_ | refine Ops.ixa rfl rfl rfl rfl (by omega) (by omega) rfl ?_ | ((fail_if_success refine Ops.probe rfl ?_); refine Ops.gF rfl rfl (by first | rfl | assumption | (simp only [decide_eq_true_eq, decide_eq_false_iff_not, Bool.not_eq_true', Bool.not_eq_false', Bool.not_eq_eq_eq_not, Bool.not_true, Bool.not_false, beq_iff_eq, beq_eq_false_iff_ne, ne_eq, decide_eq_decide, eq_self, true_iff, iff_true, not_true_eq_false, not_false_eq_true]; first | done | omega)) ?_))
          refine Ops.ldR rfl rfl rfl (hr1 _) rfl ?_
          repeat' (first | refine Cd.seq ?_ | refine Cd.reg ?_ | refine Ops.nil ?_ | refine Ops.bin rfl rfl rfl rfl rfl ?_ | refine Ops.pickT rfl rfl rfl rfl rfl ?_ | refine Ops.pickF rfl rfl rfl rfl rfl ?_ | refine Cd.condT rfl (by first | rfl | assumption | (simp only [decide_eq_true_eq, decide_eq_false_iff_not, Bool.not_eq_true', Bool.not_eq_false', Bool.not_eq_eq_eq_not, Bool.not_true, Bool.not_false, beq_iff_eq, beq_eq_false_iff_ne, ne_eq, decide_eq_decide, eq_self, true_iff, iff_true, not_true_eq_false, not_false_eq_true]; first | done | omega)) ?_)
          refine Ops.call fixed_spec rfl (noPd rfl) rfl rfl rfl (fun v A2 hR => ?_)
          obtain ⟨rfl, rfl⟩ := hR
          repeat' (first | refine Ops.nil ?_ | refine Ops.asg rfl rfl rfl rfl ?_)
          exact Cd.ret (ret1 (A' := []) rfl (Res.tmp rfl) (fun _ h => h.split) rfl)
        repeat' (first | refine Cd.seq ?_ | refine Cd.reg ?_ | refine Ops.mv rfl rfl rfl rfl ?_ | refine Ops.fa rfl rfl rfl rfl ?_ | refine Ops.lenS rfl rfl rfl rfl ?_ | refine Ops.subI rfl rfl rfl rfl (by omega) (by omega) rfl ?_ | refine Ops.bin rfl rfl rfl rfl rfl ?_ | refine Ops.pickF rfl rfl rfl rfl rfl ?_ | refine Ops.gSkip rfl rfl rfl ?_ | refine Ops.ixa rfl rfl rfl rfl (by omega) (by omega) rfl ?_ | ((fail_if_success refine Ops.probe rfl ?_); refine Ops.gT rfl rfl (by first | rfl | assumption | (simp only [decide_eq_true_eq, decide_eq_false_iff_not, Bool.not_eq_true', Bool.not_eq_false', Bool.not_eq_eq_eq_not, Bool.not_true, Bool.not_false, beq_iff_eq, beq_eq_false_iff_ne, ne_eq, decide_eq_decide, eq_self, true_iff, iff_true, not_true_eq_false, not_false_eq_true]; first | done | omega)) ?_) | ((fail_if_success refine Ops.probe rfl ?_); refine Ops.gF rfl rfl (by first | rfl | assumption | (simp only [decide_eq_true_eq, decide_eq_false_iff_not, Bool.not_eq_true', Bool.not_eq_false', Bool.not_eq_eq_eq_not, Bool.not_true, Bool.not_false, beq_iff_eq, beq_eq_false_iff_ne, ne_eq, decide_eq_decide, eq_self, true_iff, iff_true, not_true_eq_false, not_false_eq_true]; first | done | omega)) ?_))
        refine Ops.ldR rfl rfl rfl (hr1 _) rfl ?_
        repeat' (first | refine Ops.mv rfl rfl rfl rfl ?_ | refine Ops.fa rfl rfl rfl rfl ?_ | refine Ops.subI rfl rfl rfl rfl (by omega) (by omega) rfl ?_ | refine Ops.bin rfl rfl rfl rfl rfl ?_ | refine Ops.ixa rfl rfl rfl rfl (by omega) (by omega) rfl ?_ | ((fail_if_success refine Ops.probe rfl ?_); refine Ops.gF rfl rfl (by first | rfl | assumption | (simp only [decide_eq_true_eq, decide_eq_false_iff_not, Bool.not_eq_true', Bool.not_eq_false', Bool.not_eq_eq_eq_not, Bool.not_true, Bool.not_false, beq_iff_eq, beq_eq_false_iff_ne, ne_eq, decide_eq_decide, eq_self, true_iff, iff_true, not_true_eq_false, not_false_eq_true]; first | done | omega)) ?_))
        refine Ops.ldR rfl rfl rfl (hr1 _) rfl ?_
        repeat' (first | refine Ops.nil ?_ | refine Ops.bin rfl rfl rfl rfl rfl ?_ | refine Ops.pickT rfl rfl rfl rfl rfl ?_ | refine Ops.pickF rfl rfl rfl rfl rfl ?_ | refine Cd.condF rfl (by first | rfl | assumption | (simp only [decide_eq_true_eq, decide_eq_false_iff_not, Bool.not_eq_true', Bool.not_eq_false', Bool.not_eq_eq_eq_not, Bool.not_true, Bool.not_false, beq_iff_eq, beq_eq_false_iff_ne, ne_eq, decide_eq_decide, eq_self, true_iff, iff_true, not_true_eq_false, not_false_eq_true]; first | done | omega)) ?_)
        exact Cd.skip (meet_end (Q := fun _ _ _ => True) () ⟨hne, fun e he => by
          have h2 := (hlast e he).2
          rw [he1] at h2
          injection h2 with h2
          subst h2
          exact ⟨q4, q14⟩⟩ ⟨rfl, rfl, rfl, rfl, trivial⟩ (fun w h => h.split))
  obtain ⟨hne, hlast⟩ := hI
  obtain ⟨hxk, hxm, hxt⟩ := evX_ok kd
  have hpass := allF_passes hr hml hxk hxm hne hlast
  have h3 : (3 : Int) ≠ 0 := by decide
  generalize hc8 : Code.seq (Code.seq (Code.region 8 _ _) _) _ = c8
  repeat' (first | refine Cd.seq ?_ | refine Cd.reg ?_ | refine Ops.nil ?_ | refine Ops.bld rfl rfl rfl rfl ?_ | refine Ops.alloc rfl rfl rfl (noPd rfl) (fun b => ?_) | refine Ops.stN rfl rfl rfl rfl rfl rfl (noPd rfl) ?_)
  rename Nat => bx
  subst hc8
  refine Cd.cut (σ := Ev) (fun x => (kd.tmod 3 = 1 ∧ x = evX kd) ∨ (kd.tmod 3 ≠ 1 ∧ x = ⟨1, 30, 0, 0, 0, 0, 0, 0, 0, 0, 0, ⟨#[]⟩, [], none, 0⟩)) (fun _ => [(0, .slice sa l.length cap), (2, .int .i64 kd), (7, .slice va r.length r.length), (9, .int .i64 m), (10, ptr bx)]) (fun x => (bx, cl x.row 39) :: A') ?_ (fun x hx => ?_)
  · by_cases h1 : kd.tmod 3 = 1
    · repeat' (first | refine Cd.seq ?_ | refine Cd.reg ?_ | refine Ops.mv rfl rfl rfl rfl ?_)
      refine Ops.remI rfl rfl rfl rfl h3 rfl ?_
      repeat' (first | refine Cd.reg ?_ | refine Ops.nil ?_ | refine Ops.bin rfl rfl rfl rfl rfl ?_ | refine Ops.bld rfl rfl rfl rfl ?_ | refine Ops.stN rfl rfl rfl rfl rfl rfl (noPd rfl) ?_ | refine Cd.condT rfl (by first | rfl | assumption | (simp only [decide_eq_true_eq, decide_eq_false_iff_not, Bool.not_eq_true', Bool.not_eq_false', Bool.not_eq_eq_eq_not, Bool.not_true, Bool.not_false, beq_iff_eq, beq_eq_false_iff_ne, ne_eq, decide_eq_decide, eq_self, true_iff, iff_true, not_true_eq_false, not_false_eq_true]; first | done | omega)) ?_)
      exact Ops.nilN (meet_end (Q := fun _ _ _ => True) (⟨4, 0, 2, 7, 0, 0, 0, 0, 0, 0, 0, ⟨#[]⟩, [], none, 0⟩ : Ev) (.inl ⟨h1, by unfold evX; rw [if_pos h1]⟩) ⟨rfl, rfl, rfl, rfl, rfl, trivial⟩ (fun w h => h.split))
    · repeat' (first | refine Cd.seq ?_ | refine Cd.reg ?_ | refine Ops.mv rfl rfl rfl rfl ?_)
      refine Ops.remI rfl rfl rfl rfl h3 rfl ?_
      repeat' (first | refine Ops.nil ?_ | refine Ops.bin rfl rfl rfl rfl rfl ?_ | refine Cd.condF rfl (by first | rfl | assumption | (simp only [decide_eq_true_eq, decide_eq_false_iff_not, Bool.not_eq_true', Bool.not_eq_false', Bool.not_eq_eq_eq_not, Bool.not_true, Bool.not_false, beq_iff_eq, beq_eq_false_iff_ne, ne_eq, decide_eq_decide, eq_self, true_iff, iff_true, not_true_eq_false, not_false_eq_true]; first | done | omega)) ?_)
      exact Cd.skip (meet_end (Q := fun _ _ _ => True) (⟨1, 30, 0, 0, 0, 0, 0, 0, 0, 0, 0, ⟨#[]⟩, [], none, 0⟩ : Ev) (.inr ⟨h1, rfl⟩) ⟨rfl, rfl, rfl, rfl, rfl, trivial⟩ (fun w h => h.split))
  refine Cd.cut (σ := Unit) (fun _ => True) (fun _ => [(0, .slice sa l.length cap), (2, .int .i64 kd), (7, .slice va r.length r.length), (9, .int .i64 m), (10, ptr bx)]) (fun _ => (bx, cl (evX kd).row 39) :: A') ?_ (fun _ _ => ?_)
  · rcases hx with ⟨h1, rfl⟩ | ⟨h1, rfl⟩
    · have h2 : ¬ kd.tmod 3 = 2 := by omega
      repeat' (first | refine Cd.seq ?_ | refine Cd.reg ?_ | refine Ops.mv rfl rfl rfl rfl ?_)
      refine Ops.remI rfl rfl rfl rfl h3 rfl ?_
      repeat' (first | refine Ops.nil ?_ | refine Ops.bin rfl rfl rfl rfl rfl ?_ | refine Cd.condF rfl (by first | rfl | assumption | (simp only [decide_eq_true_eq, decide_eq_false_iff_not, Bool.not_eq_true', Bool.not_eq_false', Bool.not_eq_eq_eq_not, Bool.not_true, Bool.not_false, beq_iff_eq, beq_eq_false_iff_ne, ne_eq, decide_eq_decide, eq_self, true_iff, iff_true, not_true_eq_false, not_false_eq_true]; first | done | omega)) ?_)
      exact Cd.skip (meet_end (Q := fun _ _ _ => True) () trivial ⟨rfl, rfl, rfl, rfl, rfl, trivial⟩ (fun w h => h))
    · by_cases h2 : kd.tmod 3 = 2
      · repeat' (first | refine Cd.seq ?_ | refine Cd.reg ?_ | refine Ops.mv rfl rfl rfl rfl ?_)
        refine Ops.remI rfl rfl rfl rfl h3 rfl ?_
        repeat' (first | refine Cd.reg ?_ | refine Ops.nil ?_ | refine Ops.bin rfl rfl rfl rfl rfl ?_ | refine Ops.bld rfl rfl rfl rfl ?_ | refine Ops.stN rfl rfl rfl rfl rfl rfl (noPd rfl) ?_ | refine Cd.condT rfl (by first | rfl | assumption | (simp only [decide_eq_true_eq, decide_eq_false_iff_not, Bool.not_eq_true', Bool.not_eq_false', Bool.not_eq_eq_eq_not, Bool.not_true, Bool.not_false, beq_iff_eq, beq_eq_false_iff_ne, ne_eq, decide_eq_decide, eq_self, true_iff, iff_true, not_true_eq_false, not_false_eq_true]; first | done | omega)) ?_)
        exact Ops.nilN (meet_end (Q := fun _ _ _ => True) () trivial ⟨rfl, rfl, rfl, rfl, rfl, trivial⟩ (fun w h => by
          rw [show evX kd = (⟨3, 0, 2, 7, 0, 0, 0, 0, 0, 0, 0, ⟨#[]⟩, [], none, 0⟩ : Ev) from by unfold evX; rw [if_neg h1, if_pos h2]]
          exact h.split))
      · repeat' (first | refine Cd.seq ?_ | refine Cd.reg ?_ | refine Ops.mv rfl rfl rfl rfl ?_)
        refine Ops.remI rfl rfl rfl rfl h3 rfl ?_
        repeat' (first | refine Ops.nil ?_ | refine Ops.bin rfl rfl rfl rfl rfl ?_ | refine Cd.condF rfl (by first | rfl | assumption | (simp only [decide_eq_true_eq, decide_eq_false_iff_not, Bool.not_eq_true', Bool.not_eq_false', Bool.not_eq_eq_eq_not, Bool.not_true, Bool.not_false, beq_iff_eq, beq_eq_false_iff_ne, ne_eq, decide_eq_decide, eq_self, true_iff, iff_true, not_true_eq_false, not_false_eq_true]; first | done | omega)) ?_)
        exact Cd.skip (meet_end (Q := fun _ _ _ => True) () trivial ⟨rfl, rfl, rfl, rfl, rfl, trivial⟩ (fun w h => by
          rw [show evX kd = (⟨1, 30, 0, 0, 0, 0, 0, 0, 0, 0, 0, ⟨#[]⟩, [], none, 0⟩ : Ev) from by unfold evX; rw [if_neg h1, if_neg h2]]
          exact h))
  clear hx
  generalize evX kd = x at hxk hxm hxt hpass ⊢
  have hrt : ∀ A, Reads Try.prog (baseOf w) A 13 (.slice sa m cap) ((l.take m).map Ev.row) := fun A => by
    have := (hL.vin.take m).reads cap A
    rwa [htl] at this
  have hrd : ∀ A, Reads Try.prog (baseOf w) A 13 (.slice (slAny sa cap m 13) (l.length - m) (cap - m)) ((l.drop m).map Ev.row) := fun A => by
    have := (hL.vin.drop cap m hcap).reads (cap - m) A
    rwa [List.length_drop] at this
  have hlm1 : ((l.take m).map Ev.row).length = m := by rw [List.length_map, htl]
  have hlm2 : ((l.drop m).map Ev.row).length = l.length - m := by rw [List.length_map, List.length_drop]
  have hml' : (m : Int) ≤ l.length := by omega
  have hlm3 : ((l.take m).map Ev.row ++ [x.row]).length = m + 1 := by rw [List.length_append, hlm1]; rfl
  refine Cd.cut (σ := Option Addr × Nat × List Blk) (fun q => OwnV (.slice q.1 (l.take m ++ ([x] ++ l.drop m)).length q.2.1) (l.take m ++ ([x] ++ l.drop m)) q.2.2) (fun q => [(0, .slice sa l.length cap), (2, .int .i64 kd), (7, .slice va r.length r.length), (9, .int .i64 m), (11, .slice q.1 (l.take m ++ ([x] ++ l.drop m)).length q.2.1)]) (fun q => q.2.2 ++ A') ?_ (fun q hO => ?_)
  · refine Cd.draw [(1, 0, []), (2, 0, []), (3, 0, []), (5, 1, []), (8, 0, []), (9, 0, []), (10, 0, []), (0, 4, [5]), (4, 4, [5]), (6, 2, []), (7, 2, []), (11, 2, []), (12, 0, [])] (by kernel_rfl) (by kernel_rfl) (by simp only [picked, nth]; exact rfl) ?_
    repeat' (first | refine Ops.mv rfl rfl rfl rfl ?_ | refine Ops.ldN rfl rfl rfl rfl ?_ | refine Ops.slHi rfl rfl rfl rfl (by omega) (by omega) rfl ?_)
    refine Ops.slLoA rfl rfl rfl rfl (by omega) (by omega) rfl ?_
    refine Ops.fork' [(1, 0, []), (2, 0, []), (3, 0, []), (5, 1, []), (8, 0, []), (9, 0, []), (10, 0, []), (6, 4, []), (0, 2, []), (4, 2, []), (7, 2, []), (11, 2, []), (12, 0, [])] (by kernel_rfl) rfl (by simp only [picked, nth]; exact rfl) ?_ ?_
    · repeat' (first | refine Ops.bs0 rfl rfl rfl (by first | exact noPd rfl | (intro v A' hR i hi; obtain ⟨b, rfl, rfl⟩ := hR; (repeat (rcases List.mem_cons.1 hi with rfl | hi; · (first | exact Still.ld1 rfl rfl rfl rfl rfl | exact Still.ldN rfl rfl rfl rfl | exact Still.len rfl rfl rfl rfl rfl | exact Still.skip rfl rfl rfl | exact Still.ldRow1 rfl rfl rfl (by assumption) (by assumption) rfl rfl | exact Still.ldR rfl rfl rfl (by apply_assumption) rfl))); cases hi)) (fun b => ?_))
      refine Ops.fork' [(1, 0, []), (2, 0, []), (3, 0, []), (5, 1, []), (8, 0, []), (9, 0, []), (10, 0, []), (0, 4, [5]), (6, 4, []), (4, 2, []), (7, 2, []), (11, 2, []), (12, 0, [])] (by kernel_rfl) rfl (by simp only [picked, nth]; exact rfl) ?_ ?_
      · skip
        skip
        refine Ops.appS (rows := []) (news := (l.take m).map Ev.row) Own.empty (hrt _) (by rw [hlm1, List.length_nil]; omega) (by rw [hlm1, List.length_nil]; omega) rfl rfl rfl rfl rfl (by first | exact noPd rfl | (intro v A' hR i hi; obtain ⟨G2, hR, rfl⟩ := hR; (repeat (rcases List.mem_cons.1 hi with rfl | hi; · (first | exact Still.ld1 rfl rfl rfl rfl rfl | exact Still.ldN rfl rfl rfl rfl | exact Still.len rfl rfl rfl rfl rfl | exact Still.skip rfl rfl rfl | exact Still.ldRow1 rfl rfl rfl (by assumption) (by assumption) rfl rfl | exact Still.ldR rfl rfl rfl (by apply_assumption) rfl))); cases hi)) rfl (fun v G1 hG1 => ?_)
        obtain ⟨a1, c1, rfl⟩ := hG1.form
        rw [List.nil_append] at hG1 ⊢
        repeat' (first | refine Ops.bs1 rfl rfl rfl rfl rfl rfl rfl (by first | exact noPd rfl | (intro v A' hR i hi; obtain ⟨b, rfl, rfl⟩ := hR; (repeat (rcases List.mem_cons.1 hi with rfl | hi; · (first | exact Still.ld1 rfl rfl rfl rfl rfl | exact Still.ldN rfl rfl rfl rfl | exact Still.len rfl rfl rfl rfl rfl | exact Still.skip rfl rfl rfl | exact Still.ldRow1 rfl rfl rfl (by assumption) (by assumption) rfl rfl | exact Still.ldR rfl rfl rfl (by apply_assumption) rfl))); cases hi)) (fun b => ?_))
        refine Ops.app1 (rows := (l.take m).map Ev.row) hG1 (by rw [hlm1]; omega) (by rw [hlm1]; omega) rfl rfl rfl rfl (by rfl) (by rfl) rfl (noPd rfl) rfl (fun v G2 hG2 => ?_)
        obtain ⟨a2, c2, rfl⟩ := hG2.form
        skip
        refine Ops.appS (rows := (l.take m).map Ev.row ++ [x.row]) (news := (l.drop m).map Ev.row) hG2 (hrd _) (by rw [hlm3, hlm2]; omega) (by rw [hlm3, hlm2]; omega) rfl rfl rfl rfl rfl (noPd rfl) rfl (fun v G3 hG3 => ?_)
        have hO : OwnV v (l.take m ++ ([x] ++ l.drop m)) G3 := by
          unfold OwnV
          rw [List.map_append, List.map_append, ← List.append_assoc]
          exact hG3
        clear hG3
        obtain ⟨a3, c3, rfl⟩ := hO.form
        repeat' (first | refine Ops.asg rfl rfl rfl rfl ?_)
        exact Ops.nilN (meet_end (Q := fun _ _ _ => True) ((a3, c3, G3) : Option Addr × Nat × List Blk) hO ⟨rfl, rfl, rfl, rfl, rfl, trivial⟩ (fun w h => h.split))
      · skip
        repeat' (first | refine Ops.bs1 rfl rfl rfl rfl rfl rfl rfl (by first | exact noPd rfl | (intro v A' hR i hi; obtain ⟨b, rfl, rfl⟩ := hR; (repeat (rcases List.mem_cons.1 hi with rfl | hi; · (first | exact Still.ld1 rfl rfl rfl rfl rfl | exact Still.ldN rfl rfl rfl rfl | exact Still.len rfl rfl rfl rfl rfl | exact Still.skip rfl rfl rfl | exact Still.ldRow1 rfl rfl rfl (by assumption) (by assumption) rfl rfl | exact Still.ldR rfl rfl rfl (by apply_assumption) rfl))); cases hi)) (fun b => ?_))
        refine Ops.appS (rows := []) (news := (l.take m).map Ev.row) Own.empty (hrt _) (by rw [hlm1, List.length_nil]; omega) (by rw [hlm1, List.length_nil]; omega) rfl rfl rfl rfl rfl (by first | exact noPd rfl | (intro v A' hR i hi; obtain ⟨G2, hR, rfl⟩ := hR; (repeat (rcases List.mem_cons.1 hi with rfl | hi; · (first | exact Still.ld1 rfl rfl rfl rfl rfl | exact Still.ldN rfl rfl rfl rfl | exact Still.len rfl rfl rfl rfl rfl | exact Still.skip rfl rfl rfl | exact Still.ldRow1 rfl rfl rfl (by assumption) (by assumption) rfl rfl | exact Still.ldR rfl rfl rfl (by apply_assumption) rfl))); cases hi)) rfl (fun v G1 hG1 => ?_)
        obtain ⟨a1, c1, rfl⟩ := hG1.form
        rw [List.nil_append] at hG1 ⊢
        skip
        refine Ops.app1 (rows := (l.take m).map Ev.row) hG1 (by rw [hlm1]; omega) (by rw [hlm1]; omega) rfl rfl rfl rfl (by rfl) (by rfl) rfl (noPd rfl) rfl (fun v G2 hG2 => ?_)
        obtain ⟨a2, c2, rfl⟩ := hG2.form
        skip
        refine Ops.appS (rows := (l.take m).map Ev.row ++ [x.row]) (news := (l.drop m).map Ev.row) hG2 (hrd _) (by rw [hlm3, hlm2]; omega) (by rw [hlm3, hlm2]; omega) rfl rfl rfl rfl rfl (noPd rfl) rfl (fun v G3 hG3 => ?_)
        have hO : OwnV v (l.take m ++ ([x] ++ l.drop m)) G3 := by
          unfold OwnV
          rw [List.map_append, List.map_append, ← List.append_assoc]
          exact hG3
        clear hG3
        obtain ⟨a3, c3, rfl⟩ := hO.form
        repeat' (first | refine Ops.asg rfl rfl rfl rfl ?_)
        exact Ops.nilN (meet_end (Q := fun _ _ _ => True) ((a3, c3, G3) : Option Addr × Nat × List Blk) hO ⟨rfl, rfl, rfl, rfl, rfl, trivial⟩ (fun w h => h.split))
    · skip
      repeat' (first | refine Ops.bs0 rfl rfl rfl (by first | exact noPd rfl | (intro v A' hR i hi; obtain ⟨b, rfl, rfl⟩ := hR; (repeat (rcases List.mem_cons.1 hi with rfl | hi; · (first | exact Still.ld1 rfl rfl rfl rfl rfl | exact Still.ldN rfl rfl rfl rfl | exact Still.len rfl rfl rfl rfl rfl | exact Still.skip rfl rfl rfl | exact Still.ldRow1 rfl rfl rfl (by assumption) (by assumption) rfl rfl | exact Still.ldR rfl rfl rfl (by apply_assumption) rfl))); cases hi)) (fun b => ?_) | refine Ops.bs1 rfl rfl rfl rfl rfl rfl rfl (by first | exact noPd rfl | (intro v A' hR i hi; obtain ⟨b, rfl, rfl⟩ := hR; (repeat (rcases List.mem_cons.1 hi with rfl | hi; · (first | exact Still.ld1 rfl rfl rfl rfl rfl | exact Still.ldN rfl rfl rfl rfl | exact Still.len rfl rfl rfl rfl rfl | exact Still.skip rfl rfl rfl | exact Still.ldRow1 rfl rfl rfl (by assumption) (by assumption) rfl rfl | exact Still.ldR rfl rfl rfl (by apply_assumption) rfl))); cases hi)) (fun b => ?_))
      refine Ops.appS (rows := []) (news := (l.take m).map Ev.row) Own.empty (hrt _) (by rw [hlm1, List.length_nil]; omega) (by rw [hlm1, List.length_nil]; omega) rfl rfl rfl rfl rfl (by first | exact noPd rfl | (intro v A' hR i hi; obtain ⟨G2, hR, rfl⟩ := hR; (repeat (rcases List.mem_cons.1 hi with rfl | hi; · (first | exact Still.ld1 rfl rfl rfl rfl rfl | exact Still.ldN rfl rfl rfl rfl | exact Still.len rfl rfl rfl rfl rfl | exact Still.skip rfl rfl rfl | exact Still.ldRow1 rfl rfl rfl (by assumption) (by assumption) rfl rfl | exact Still.ldR rfl rfl rfl (by apply_assumption) rfl))); cases hi)) rfl (fun v G1 hG1 => ?_)
      obtain ⟨a1, c1, rfl⟩ := hG1.form
      rw [List.nil_append] at hG1 ⊢
      skip
      refine Ops.app1 (rows := (l.take m).map Ev.row) hG1 (by rw [hlm1]; omega) (by rw [hlm1]; omega) rfl rfl rfl rfl (by rfl) (by rfl) rfl (noPd rfl) rfl (fun v G2 hG2 => ?_)
      obtain ⟨a2, c2, rfl⟩ := hG2.form
      skip
      refine Ops.appS (rows := (l.take m).map Ev.row ++ [x.row]) (news := (l.drop m).map Ev.row) hG2 (hrd _) (by rw [hlm3, hlm2]; omega) (by rw [hlm3, hlm2]; omega) rfl rfl rfl rfl rfl (noPd rfl) rfl (fun v G3 hG3 => ?_)
      have hO : OwnV v (l.take m ++ ([x] ++ l.drop m)) G3 := by
        unfold OwnV
        rw [List.map_append, List.map_append, ← List.append_assoc]
        exact hG3
      clear hG3
      obtain ⟨a3, c3, rfl⟩ := hO.form
      repeat' (first | refine Ops.asg rfl rfl rfl rfl ?_)
      exact Ops.nilN (meet_end (Q := fun _ _ _ => True) ((a3, c3, G3) : Option Addr × Nat × List Blk) hO ⟨rfl, rfl, rfl, rfl, rfl, trivial⟩ (fun w h => h.split))
  obtain ⟨a3, c3, G3⟩ := q
  dsimp only at hO ⊢
  have hmem : ∀ e ∈ l.take m ++ ([x] ++ l.drop m), e ∈ l ∨ e = x := fun e he => by
    rcases List.mem_append.1 he with he | he
    · exact .inl (List.mem_of_mem_take he)
    · rcases List.mem_append.1 he with he | he
      · exact .inr (List.mem_singleton.1 he)
      · exact .inl (List.mem_of_mem_drop he)
  have htot : totT (l.take m ++ ([x] ++ l.drop m)) ≤ 2000000 := by
    have e1 := List.take_append_drop m l
    have h2 : totT l = totT (l.take m) + totT (l.drop m) := by
      conv => lhs; rw [← e1]
      simp only [totT, List.map_append, List.sum_append]
    have h4 : totT (l.take m ++ ([x] ++ l.drop m)) = totT (l.take m) + totT (l.drop m) := by
      simp [totT, hxt]
    have := hL.tot; omega
  have hcon := ConB.lend (P := Try.prog) (B1 := baseOf w) (G := G3) fun B0 hx0 hG => all_spec B0 a3 c3 (l.take m ++ ([x] ++ l.drop m)) ⟨hO.vin hG, fun e he => by
    rcases hmem e he with h | rfl
    · exact (hL.sin e h).ext hx0
    · rw [hxt]; exact fun i s hs => by simp at hs, fun e he => by
    rcases hmem e he with h | rfl
    · exact hL.cap e h
    · rw [hxt]; exact Nat.zero_le _, htot, by simp; omega⟩
  rw [hpass] at hcon
  dsimp only at hcon
  have hcon : ConB Try.prog (baseOf w) 7 _ G3 _ := hcon
  repeat' (first | refine Cd.seq ?_ | refine Cd.reg ?_ | refine Ops.mv rfl rfl rfl rfl ?_)
  refine Ops.callB hcon (Ext.refl _) rfl (noPd rfl) rfl rfl rfl (fun v A2 hR => ?_)
  obtain ⟨A3, ⟨sv2, rfl, hrs2, va2, rfl⟩, rfl⟩ := hR
  have hll : ((r.map fun f => if (m : Int) ≤ f.2 then (f.1, f.2 + 1) else f).length : Int) = r.length := by rw [List.length_map]
  have hlr : (r.map fun f => if (m : Int) ≤ f.2 then (f.1, f.2 + 1) else f).length = r.length := List.length_map _
  generalize hr' : (r.map fun f => if (m : Int) ≤ f.2 then (f.1, f.2 + 1) else f) = r' at *
  have hll' : (r.length : Int) = r'.length := by omega
  repeat' (first | refine Cd.seq ?_ | refine Cd.reg ?_ | refine Ops.nil ?_ | refine Ops.mv rfl rfl rfl rfl ?_ | refine Ops.asg rfl rfl rfl rfl ?_ | refine Ops.lenS rfl rfl rfl rfl ?_ | refine Ops.bin rfl rfl rfl rfl rfl ?_ | refine Ops.pickF rfl rfl rfl rfl rfl ?_ | refine Ops.ext rfl rfl rfl rfl rfl ?_ | refine Cd.block ?_ | refine Cd.skip (Cd.next ?_) | refine Cd.condF rfl (by first | rfl | assumption | (simp only [decide_eq_true_eq, decide_eq_false_iff_not, Bool.not_eq_true', Bool.not_eq_false', Bool.not_eq_eq_eq_not, Bool.not_true, Bool.not_false, beq_iff_eq, beq_eq_false_iff_ne, ne_eq, decide_eq_decide, eq_self, true_iff, iff_true, not_true_eq_false, not_false_eq_true]; first | done | omega)) ?_)
  refine Cd.loopK (fun i : Nat => i ≤ r.length) (fun i => [(7, .slice va r.length r.length), (9, .int .i64 m), (12, .slice va2 r'.length r'.length), (13, .int .i64 i)]) (fun _ => A' ++ A3) (fun i => r.length - i) 0 (Nat.zero_le _) ⟨rfl, rfl, rfl, rfl, trivial⟩ (fun w h => h.split) (fun i hi => ?_)
  by_cases hil : i < r.length
  · have hil' : (i : Int) < r.length := by omega
    have hil2 : (i : Int) < r'.length := by omega
    obtain ⟨f, hf⟩ : ∃ f, r[i]? = some f := ⟨_, List.getElem?_eq_getElem hil⟩
    have h8 := hall8 f (List.mem_of_getElem? hf)
    obtain ⟨g, cg, spg, e1, rfl⟩ := Rs.some_ hrs (by rw [List.length_map]; omega)
    injection e1 with p1 p2 p3
    subst p1
    obtain ⟨g2, cg2, spg2, e2, rfl⟩ := Rs.some_ hrs2 (by rw [List.length_map]; omega)
    injection e2 with s1 s2 s3
    subst s1
    have hok := fr_ok r
    have hok2 := fr_ok r'
    have hrow : (r.map frow)[(i : Int).toNat]? = some [.int .i64 f.1, .int .i64 f.2] := by rw [Int.toNat_natCast, List.getElem?_map, hf]; rfl
    have hf' : r'[i]? = some (if (m : Int) ≤ f.2 then (f.1, f.2 + 1) else f) := by rw [← hr', List.getElem?_map, hf]; rfl
    by_cases hge : (m : Int) ≤ f.2
    · have hrow2 : (r'.map frow)[(i : Int).toNat]? = some [.int .i64 f.1, .int .i64 (f.2 + 1)] := by rw [Int.toNat_natCast, List.getElem?_map, hf', if_pos hge]; rfl
      repeat' (first | refine Cd.seq ?_ | refine Cd.reg ?_ | refine Ops.nil ?_ | refine Ops.mv rfl rfl rfl rfl ?_ | refine Ops.fa0 rfl rfl rfl rfl ?_ | refine Ops.ld1 rfl rfl rfl rfl rfl ?_ | refine Ops.lenS rfl rfl rfl rfl ?_ | refine Ops.addI rfl rfl rfl rfl (by omega) (by omega) rfl ?_ | refine Ops.bin rfl rfl rfl rfl rfl ?_ | refine Ops.alloc rfl rfl rfl (noPd rfl) (fun b => ?_) | refine Ops.st1 rfl rfl rfl rfl rfl (noPd rfl) ?_ | refine Ops.stN rfl rfl rfl rfl rfl rfl (noPd rfl) ?_ | refine Cd.block ?_ | refine Cd.skip (Cd.next ?_) | refine Ops.ixa0 rfl rfl rfl rfl (by omega) (by omega) rfl ?_ | refine Ops.ldRow rfl rfl rfl (by assumption) (by assumption) rfl ?_ | refine Cd.condT rfl (by first | rfl | assumption | (simp only [decide_eq_true_eq, decide_eq_false_iff_not, Bool.not_eq_true', Bool.not_eq_false', Bool.not_eq_eq_eq_not, Bool.not_true, Bool.not_false, beq_iff_eq, beq_eq_false_iff_ne, ne_eq, decide_eq_decide, eq_self, true_iff, iff_true, not_true_eq_false, not_false_eq_true]; first | done | omega)) ?_)
      refine Cd.draw [(0, 0, []), (1, 0, []), (2, 0, []), (3, 1, []), (4, 1, []), (5, 0, [])] (by kernel_rfl) (by kernel_rfl) (by simp only [picked, nth]; exact rfl) ?_
      repeat' (first | refine Cd.reg ?_ | refine Ops.nil ?_ | refine Ops.mv rfl rfl rfl rfl ?_ | refine Ops.asg rfl rfl rfl rfl ?_ | refine Ops.ldN rfl rfl rfl rfl ?_ | refine Ops.addI rfl rfl rfl rfl (by omega) (by omega) rfl ?_ | refine Ops.bin rfl rfl rfl rfl rfl ?_ | refine Cd.condF rfl rfl ?_ | refine Cd.skip (Cd.next (Q' := fun _ _ _ => True) ?_) | refine Ops.ixa0 rfl rfl rfl rfl (by omega) (by omega) rfl ?_ | refine Ops.ldRow rfl rfl rfl (by assumption) (by assumption) rfl ?_)
      exact Ops.nilN (round_end (i + 1) (by show i + 1 ≤ r.length; omega) (by show r.length - (i + 1) < r.length - i; omega) ⟨rfl, rfl, rfl, rfl, trivial⟩ (fun w h => h.split))
    · have hrow2 : (r'.map frow)[(i : Int).toNat]? = some [.int .i64 f.1, .int .i64 f.2] := by rw [Int.toNat_natCast, List.getElem?_map, hf', if_neg hge]; rfl
      repeat' (first | refine Cd.seq ?_ | refine Cd.reg ?_ | refine Ops.nil ?_ | refine Ops.mv rfl rfl rfl rfl ?_ | refine Ops.fa0 rfl rfl rfl rfl ?_ | refine Ops.ld1 rfl rfl rfl rfl rfl ?_ | refine Ops.lenS rfl rfl rfl rfl ?_ | refine Ops.bin rfl rfl rfl rfl rfl ?_ | refine Ops.alloc rfl rfl rfl (noPd rfl) (fun b => ?_) | refine Ops.stN rfl rfl rfl rfl rfl rfl (noPd rfl) ?_ | refine Cd.block ?_ | refine Cd.skip (Cd.next ?_) | refine Ops.ixa0 rfl rfl rfl rfl (by omega) (by omega) rfl ?_ | refine Ops.ldRow rfl rfl rfl (by assumption) (by assumption) rfl ?_ | refine Cd.condT rfl (by first | rfl | assumption | (simp only [decide_eq_true_eq, decide_eq_false_iff_not, Bool.not_eq_true', Bool.not_eq_false', Bool.not_eq_eq_eq_not, Bool.not_true, Bool.not_false, beq_iff_eq, beq_eq_false_iff_ne, ne_eq, decide_eq_decide, eq_self, true_iff, iff_true, not_true_eq_false, not_false_eq_true]; first | done | omega)) ?_ | refine Cd.condF rfl (by first | rfl | assumption | (simp only [decide_eq_true_eq, decide_eq_false_iff_not, Bool.not_eq_true', Bool.not_eq_false', Bool.not_eq_eq_eq_not, Bool.not_true, Bool.not_false, beq_iff_eq, beq_eq_false_iff_ne, ne_eq, decide_eq_decide, eq_self, true_iff, iff_true, not_true_eq_false, not_false_eq_true]; first | done | omega)) ?_)
      refine Cd.draw [(0, 0, []), (1, 0, []), (2, 0, []), (3, 1, []), (4, 1, []), (5, 0, [])] (by kernel_rfl) (by kernel_rfl) (by simp only [picked, nth]; exact rfl) ?_
      repeat' (first | refine Cd.reg ?_ | refine Ops.nil ?_ | refine Ops.mv rfl rfl rfl rfl ?_ | refine Ops.asg rfl rfl rfl rfl ?_ | refine Ops.ldN rfl rfl rfl rfl ?_ | refine Ops.addI rfl rfl rfl rfl (by omega) (by omega) rfl ?_ | refine Ops.bin rfl rfl rfl rfl rfl ?_ | refine Cd.condF rfl rfl ?_ | refine Cd.skip (Cd.next (Q' := fun _ _ _ => True) ?_) | refine Ops.ixa0 rfl rfl rfl rfl (by omega) (by omega) rfl ?_ | refine Ops.ldRow rfl rfl rfl (by assumption) (by assumption) rfl ?_)
      exact Ops.nilN (round_end (i + 1) (by show i + 1 ≤ r.length; omega) (by show r.length - (i + 1) < r.length - i; omega) ⟨rfl, rfl, rfl, rfl, trivial⟩ (fun w h => h.split))
  · obtain rfl : i = r.length := by omega
    have hil' : ¬ ((r.length : Nat) : Int) < r.length := by omega
    repeat' (first | refine Cd.seq ?_ | refine Cd.reg ?_ | refine Ops.nil ?_ | refine Ops.mv rfl rfl rfl rfl ?_ | refine Ops.lenS rfl rfl rfl rfl ?_ | refine Ops.bin rfl rfl rfl rfl rfl ?_ | refine Cd.exit (Cd.next (Q' := fun _ _ _ => True) ?_) | refine Cd.condF rfl (by first | rfl | assumption | (simp only [decide_eq_true_eq, decide_eq_false_iff_not, Bool.not_eq_true', Bool.not_eq_false', Bool.not_eq_eq_eq_not, Bool.not_true, Bool.not_false, beq_iff_eq, beq_eq_false_iff_ne, ne_eq, decide_eq_decide, eq_self, true_iff, iff_true, not_true_eq_false, not_false_eq_true]; first | done | omega)) ?_)
    refine Ops.call fixed_spec rfl (noPd rfl) rfl rfl rfl (fun v A4 hR => ?_)
    obtain ⟨rfl, rfl⟩ := hR
    repeat' (first | refine Ops.nil ?_ | refine Ops.asg rfl rfl rfl rfl ?_)
    exact Cd.ret (ret1 (A' := []) rfl (Res.tmp rfl) (fun _ h => h.split) rfl)
end Go.Proofs.Ytfghnepmbgbnoaa
