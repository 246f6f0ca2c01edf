import Derived.Test.YtnmjdoaogdaehaaGreatA21
import Derived.Lib.Bytealg
import Derived.Test.YtnmjdoaogdaehaaGreatA17
import Derived.Test.YtnmjdoaogdaehaaGreatA10
namespace Go.Proofs.YtnmjdoaogdaehaaGreat
open Go Go.Sep Go.Proofs
set_option maxRecDepth 10000
set_option maxHeartbeats 40000000
set_option synthInstance.maxSize 2000
set_option linter.unusedSimpArgs false
set_option linter.unusedVariables false
/-! a change of the state: what it has, may it be -/
theorem rin_spec (a l h : Int) : Con Tryz.prog 120 #[.int .i64 a, .int .i64 l, .int .i64 h] [] fun v A => v = .bool (decide (l ≤ a ∧ a ≤ h)) ∧ A = [] := by
  refine Con.intro (vs := [_, _, _]) Tryz.func120 rfl Tryz.ntmps120 rfl (fun B => ?_)
  by_cases h1 : l ≤ a
  · by_cases h2 : a ≤ h
    · rw [decide_eq_true (⟨h1, h2⟩ : l ≤ a ∧ a ≤ h)]
      repeat' (first | refine Cd.seq ?_ | refine Cd.reg ?_ | refine Ops.nil ?_ | refine Ops.mv rfl rfl rfl rfl ?_ | refine Ops.asg rfl rfl rfl rfl ?_ | refine Ops.bin rfl rfl rfl rfl rfl ?_ | refine Ops.pickT rfl rfl rfl rfl rfl ?_ | ((fail_if_success refine Ops.probe rfl ?_); refine Ops.gT rfl rfl (by first | rfl | assumption | (simp only [decide_eq_true_eq, decide_eq_false_iff_not, Bool.not_eq_true', Bool.not_eq_false', Bool.not_eq_eq_eq_not, Bool.not_true, Bool.not_false, beq_iff_eq, beq_eq_false_iff_ne, ne_eq, decide_eq_decide, eq_self, true_iff, iff_true, not_true_eq_false, not_false_eq_true]; first | done | omega)) ?_))
      exact Cd.ret (ret1 (A' := []) rfl (Res.tmp rfl) (fun _ h => h.split) ⟨by rw [decide_eq_true h2], rfl⟩)
    · rw [decide_eq_false (fun q : l ≤ a ∧ a ≤ h => h2 q.2)]
      repeat' (first | refine Cd.seq ?_ | refine Cd.reg ?_ | refine Ops.nil ?_ | refine Ops.mv rfl rfl rfl rfl ?_ | refine Ops.asg rfl rfl rfl rfl ?_ | refine Ops.bin rfl rfl rfl rfl rfl ?_ | refine Ops.pickT rfl rfl rfl rfl rfl ?_ | ((fail_if_success refine Ops.probe rfl ?_); refine Ops.gT rfl rfl (by first | rfl | assumption | (simp only [decide_eq_true_eq, decide_eq_false_iff_not, Bool.not_eq_true', Bool.not_eq_false', Bool.not_eq_eq_eq_not, Bool.not_true, Bool.not_false, beq_iff_eq, beq_eq_false_iff_ne, ne_eq, decide_eq_decide, eq_self, true_iff, iff_true, not_true_eq_false, not_false_eq_true]; first | done | omega)) ?_))
      exact Cd.ret (ret1 (A' := []) rfl (Res.tmp rfl) (fun _ h => h.split) ⟨by rw [decide_eq_false h2], rfl⟩)
  · rw [decide_eq_false (fun q : l ≤ a ∧ a ≤ h => h1 q.1)]
    repeat' (first | refine Cd.seq ?_ | refine Cd.reg ?_ | refine Ops.nil ?_ | refine Ops.mv rfl rfl rfl rfl ?_ | refine Ops.asg rfl rfl rfl rfl ?_ | refine Ops.bin rfl rfl rfl rfl rfl ?_ | refine Ops.pickF rfl rfl rfl rfl rfl ?_ | refine Ops.gSkip rfl rfl rfl ?_ | ((fail_if_success refine Ops.probe rfl ?_); refine Ops.gF rfl rfl (by first | rfl | assumption | (simp only [decide_eq_true_eq, decide_eq_false_iff_not, Bool.not_eq_true', Bool.not_eq_false', Bool.not_eq_eq_eq_not, Bool.not_true, Bool.not_false, beq_iff_eq, beq_eq_false_iff_ne, ne_eq, decide_eq_decide, eq_self, true_iff, iff_true, not_true_eq_false, not_false_eq_true]; first | done | omega)) ?_))
    exact Cd.ret (ret1 (A' := []) rfl (Res.tmp rfl) (fun _ h => h.split) ⟨rfl, rfl⟩)
theorem right_spec (h z m : Bool) : Con Tryz.prog 182 #[.bool h, .bool z, .bool m] [] fun v A => v = .bool (if h then m else z) ∧ A = [] := by
  refine Con.intro (vs := [_, _, _]) Tryz.func182 rfl Tryz.ntmps182 rfl (fun B => ?_)
  cases h with
  | true =>
    repeat' (first | refine Cd.seq ?_ | refine Cd.reg ?_ | refine Ops.nil ?_ | refine Ops.mv rfl rfl rfl rfl ?_ | refine Ops.asg rfl rfl rfl rfl ?_ | refine Cd.condT rfl rfl ?_)
    exact Cd.ret (ret1 (A' := []) rfl (Res.tmp rfl) (fun _ h => h.split) ⟨rfl, rfl⟩)
  | false =>
    repeat' (first | refine Cd.seq ?_ | refine Cd.reg ?_ | refine Ops.nil ?_ | refine Ops.mv rfl rfl rfl rfl ?_ | refine Ops.asg rfl rfl rfl rfl ?_ | refine Cd.condF rfl rfl ?_ | refine Cd.skip (Cd.next ?_))
    exact Cd.ret (ret1 (A' := []) rfl (Res.tmp rfl) (fun _ h => h.split) ⟨rfl, rfl⟩)
def hasS (kind : Int) : ByteArray := if kind = 1 then ⟨#[110]⟩ else if kind = 2 then ⟨#[106, 112]⟩ else if kind = 3 then ⟨#[106, 98, 115]⟩ else if kind = 4 then ⟨#[98, 116]⟩ else if kind = 5 then ⟨#[98]⟩ else if kind = 6 then ⟨#[98, 114]⟩ else ⟨#[]⟩
theorem has_spec (kind : Int) : Con Tryz.prog 181 #[.int .i64 kind] [] fun v A => v = .string (hasS kind) ∧ A = [] := by
  refine Con.intro (vs := [_]) Tryz.func181 rfl Tryz.ntmps181 rfl (fun B => ?_)
  unfold hasS
  by_cases h1 : kind = 1
  · rw [if_pos h1]
    repeat' (first | refine Cd.seq ?_ | refine Cd.reg ?_ | refine Ops.nil ?_ | refine Ops.mv rfl rfl rfl rfl ?_ | refine Ops.asg rfl rfl rfl rfl ?_ | refine Ops.bin rfl rfl rfl rfl rfl ?_ | refine Cd.block ?_ | refine Cd.condT rfl (by first | rfl | assumption | (simp only [decide_eq_true_eq, decide_eq_false_iff_not, Bool.not_eq_true', Bool.not_eq_false', Bool.not_eq_eq_eq_not, Bool.not_true, Bool.not_false, beq_iff_eq, beq_eq_false_iff_ne, ne_eq, decide_eq_decide, eq_self, true_iff, iff_true, not_true_eq_false, not_false_eq_true]; first | done | omega)) ?_)
    exact Cd.ret (ret1 (A' := []) rfl (Res.tmp rfl) (fun _ h => h.split) ⟨rfl, rfl⟩)
  rw [if_neg h1]
  by_cases h2 : kind = 2
  · rw [if_pos h2]
    repeat' (first | refine Cd.seq ?_ | refine Cd.reg ?_ | refine Ops.nil ?_ | refine Ops.mv rfl rfl rfl rfl ?_ | refine Ops.asg rfl rfl rfl rfl ?_ | refine Ops.bin rfl rfl rfl rfl rfl ?_ | refine Cd.block ?_ | refine Cd.condT rfl (by first | rfl | assumption | (simp only [decide_eq_true_eq, decide_eq_false_iff_not, Bool.not_eq_true', Bool.not_eq_false', Bool.not_eq_eq_eq_not, Bool.not_true, Bool.not_false, beq_iff_eq, beq_eq_false_iff_ne, ne_eq, decide_eq_decide, eq_self, true_iff, iff_true, not_true_eq_false, not_false_eq_true]; first | done | omega)) ?_ | refine Cd.condF rfl (by first | rfl | assumption | (simp only [decide_eq_true_eq, decide_eq_false_iff_not, Bool.not_eq_true', Bool.not_eq_false', Bool.not_eq_eq_eq_not, Bool.not_true, Bool.not_false, beq_iff_eq, beq_eq_false_iff_ne, ne_eq, decide_eq_decide, eq_self, true_iff, iff_true, not_true_eq_false, not_false_eq_true]; first | done | omega)) ?_)
    exact Cd.ret (ret1 (A' := []) rfl (Res.tmp rfl) (fun _ h => h.split) ⟨rfl, rfl⟩)
  rw [if_neg h2]
  by_cases h3 : kind = 3
  · rw [if_pos h3]
    repeat' (first | refine Cd.seq ?_ | refine Cd.reg ?_ | refine Ops.nil ?_ | refine Ops.mv rfl rfl rfl rfl ?_ | refine Ops.asg rfl rfl rfl rfl ?_ | refine Ops.bin rfl rfl rfl rfl rfl ?_ | refine Cd.block ?_ | refine Cd.condT rfl (by first | rfl | assumption | (simp only [decide_eq_true_eq, decide_eq_false_iff_not, Bool.not_eq_true', Bool.not_eq_false', Bool.not_eq_eq_eq_not, Bool.not_true, Bool.not_false, beq_iff_eq, beq_eq_false_iff_ne, ne_eq, decide_eq_decide, eq_self, true_iff, iff_true, not_true_eq_false, not_false_eq_true]; first | done | omega)) ?_ | refine Cd.condF rfl (by first | rfl | assumption | (simp only [decide_eq_true_eq, decide_eq_false_iff_not, Bool.not_eq_true', Bool.not_eq_false', Bool.not_eq_eq_eq_not, Bool.not_true, Bool.not_false, beq_iff_eq, beq_eq_false_iff_ne, ne_eq, decide_eq_decide, eq_self, true_iff, iff_true, not_true_eq_false, not_false_eq_true]; first | done | omega)) ?_)
    exact Cd.ret (ret1 (A' := []) rfl (Res.tmp rfl) (fun _ h => h.split) ⟨rfl, rfl⟩)
  rw [if_neg h3]
  by_cases h4 : kind = 4
  · rw [if_pos h4]
    repeat' (first | refine Cd.seq ?_ | refine Cd.reg ?_ | refine Ops.nil ?_ | refine Ops.mv rfl rfl rfl rfl ?_ | refine Ops.asg rfl rfl rfl rfl ?_ | refine Ops.bin rfl rfl rfl rfl rfl ?_ | refine Cd.block ?_ | refine Cd.condT rfl (by first | rfl | assumption | (simp only [decide_eq_true_eq, decide_eq_false_iff_not, Bool.not_eq_true', Bool.not_eq_false', Bool.not_eq_eq_eq_not, Bool.not_true, Bool.not_false, beq_iff_eq, beq_eq_false_iff_ne, ne_eq, decide_eq_decide, eq_self, true_iff, iff_true, not_true_eq_false, not_false_eq_true]; first | done | omega)) ?_ | refine Cd.condF rfl (by first | rfl | assumption | (simp only [decide_eq_true_eq, decide_eq_false_iff_not, Bool.not_eq_true', Bool.not_eq_false', Bool.not_eq_eq_eq_not, Bool.not_true, Bool.not_false, beq_iff_eq, beq_eq_false_iff_ne, ne_eq, decide_eq_decide, eq_self, true_iff, iff_true, not_true_eq_false, not_false_eq_true]; first | done | omega)) ?_)
    exact Cd.ret (ret1 (A' := []) rfl (Res.tmp rfl) (fun _ h => h.split) ⟨rfl, rfl⟩)
  rw [if_neg h4]
  by_cases h5 : kind = 5
  · rw [if_pos h5]
    repeat' (first | refine Cd.seq ?_ | refine Cd.reg ?_ | refine Ops.nil ?_ | refine Ops.mv rfl rfl rfl rfl ?_ | refine Ops.asg rfl rfl rfl rfl ?_ | refine Ops.bin rfl rfl rfl rfl rfl ?_ | refine Cd.block ?_ | refine Cd.condT rfl (by first | rfl | assumption | (simp only [decide_eq_true_eq, decide_eq_false_iff_not, Bool.not_eq_true', Bool.not_eq_false', Bool.not_eq_eq_eq_not, Bool.not_true, Bool.not_false, beq_iff_eq, beq_eq_false_iff_ne, ne_eq, decide_eq_decide, eq_self, true_iff, iff_true, not_true_eq_false, not_false_eq_true]; first | done | omega)) ?_ | refine Cd.condF rfl (by first | rfl | assumption | (simp only [decide_eq_true_eq, decide_eq_false_iff_not, Bool.not_eq_true', Bool.not_eq_false', Bool.not_eq_eq_eq_not, Bool.not_true, Bool.not_false, beq_iff_eq, beq_eq_false_iff_ne, ne_eq, decide_eq_decide, eq_self, true_iff, iff_true, not_true_eq_false, not_false_eq_true]; first | done | omega)) ?_)
    exact Cd.ret (ret1 (A' := []) rfl (Res.tmp rfl) (fun _ h => h.split) ⟨rfl, rfl⟩)
  rw [if_neg h5]
  by_cases h6 : kind = 6
  · rw [if_pos h6]
    repeat' (first | refine Cd.seq ?_ | refine Cd.reg ?_ | refine Ops.nil ?_ | refine Ops.mv rfl rfl rfl rfl ?_ | refine Ops.asg rfl rfl rfl rfl ?_ | refine Ops.bin rfl rfl rfl rfl rfl ?_ | refine Cd.block ?_ | refine Cd.condT rfl (by first | rfl | assumption | (simp only [decide_eq_true_eq, decide_eq_false_iff_not, Bool.not_eq_true', Bool.not_eq_false', Bool.not_eq_eq_eq_not, Bool.not_true, Bool.not_false, beq_iff_eq, beq_eq_false_iff_ne, ne_eq, decide_eq_decide, eq_self, true_iff, iff_true, not_true_eq_false, not_false_eq_true]; first | done | omega)) ?_ | refine Cd.condF rfl (by first | rfl | assumption | (simp only [decide_eq_true_eq, decide_eq_false_iff_not, Bool.not_eq_true', Bool.not_eq_false', Bool.not_eq_eq_eq_not, Bool.not_true, Bool.not_false, beq_iff_eq, beq_eq_false_iff_ne, ne_eq, decide_eq_decide, eq_self, true_iff, iff_true, not_true_eq_false, not_false_eq_true]; first | done | omega)) ?_)
    exact Cd.ret (ret1 (A' := []) rfl (Res.tmp rfl) (fun _ h => h.split) ⟨rfl, rfl⟩)
  rw [if_neg h6]
  repeat' (first | refine Cd.seq ?_ | refine Cd.reg ?_ | refine Ops.nil ?_ | refine Ops.mv rfl rfl rfl rfl ?_ | refine Ops.asg rfl rfl rfl rfl ?_ | refine Ops.bin rfl rfl rfl rfl rfl ?_ | refine Cd.block ?_ | refine Cd.skip (Cd.next (Q' := fun _ _ _ => True) ?_) | refine Cd.condF rfl (by first | rfl | assumption | (simp only [decide_eq_true_eq, decide_eq_false_iff_not, Bool.not_eq_true', Bool.not_eq_false', Bool.not_eq_eq_eq_not, Bool.not_true, Bool.not_false, beq_iff_eq, beq_eq_false_iff_ne, ne_eq, decide_eq_decide, eq_self, true_iff, iff_true, not_true_eq_false, not_false_eq_true]; first | done | omega)) ?_)
  exact Cd.ret (ret1 (A' := []) rfl (Res.tmp rfl) (fun _ h => h.split) ⟨rfl, rfl⟩)
/-- Where a byte stands first; -1: nowhere. -/
def idx1 (s : ByteArray) (c : UInt8) : Int := Lib.indexByte s.data.toList c
instance : ExtOk Tryz.prog 269 Extern.BytealgIndexByte.indexByte := ⟨⟨_, Tryz.func269, by kernel_rfl, by kernel_rfl, by kernel_rfl, by kernel_rfl⟩⟩
theorem slbyte_spec (s : ByteArray) (c : UInt8) : Con Tryz.prog 263 #[.string s, .int .u8 c.toNat] [] fun v A => v = .int .i64 (idx1 s c) ∧ A = [] := by
  refine Con.intro (vs := [_, _]) Tryz.func263 rfl Tryz.ntmps263 rfl (fun B => ?_)
  have hr : ∀ w : World, (Extern.BytealgIndexByte.indexByte #[.string s, .int .u8 c.toNat]).run Tryz.prog w = .ok (.int .i64 (idx1 s c)) w := fun w => by
    rw [Lib.run_indexByteString, Int.toNat_natCast, show c.toNat.toUInt8 = c from by simp, idx1]
  repeat' (first | refine Cd.seq ?_ | refine Cd.reg ?_ | refine Ops.mv rfl rfl rfl rfl ?_ | refine Ops.asg rfl rfl rfl rfl ?_)
  refine Ops.extR (vs := [.string s, .int .u8 c.toNat]) rfl rfl rfl hr rfl (noPd rfl) ?_
  repeat' (first | refine Ops.nil ?_ | refine Ops.asg rfl rfl rfl rfl ?_)
  exact Cd.ret (ret1 (A' := []) rfl (Res.tmp rfl) (fun _ h => h.split) ⟨rfl, rfl⟩)
theorem slindex_spec (s u : ByteArray) (c : UInt8) (hu : u = ⟨#[c]⟩) : Con Tryz.prog 252 #[.string s, .string u] [] fun v A => v = .int .i64 (idx1 s c) ∧ A = [] := by
  have hsz : u.size = 1 := by rw [hu]; rfl
  have hsz' : (u.size : Int) = 1 := by omega
  have hg : u[(0 : Int).toNat]? = some c := by subst hu; rfl
  refine Con.intro (vs := [_, _]) Tryz.func252 rfl Tryz.ntmps252 rfl (fun B => ?_)
  by_cases he : u = s
  · have h0 : idx1 s c = 0 := by rw [← he, hu]; simp [idx1, Lib.indexByte]
    rw [h0]
    clear hu
    repeat' (first | refine Cd.seq ?_ | refine Cd.reg ?_ | refine Ops.nil ?_ | refine Ops.mv rfl rfl rfl rfl ?_ | refine Ops.asg rfl rfl rfl rfl ?_ | refine Ops.lenStr rfl rfl rfl rfl ?_ | refine Ops.bin rfl rfl rfl rfl rfl ?_ | refine Ops.pickF rfl rfl rfl rfl rfl ?_ | refine Cd.block ?_ | refine Cd.condT rfl (by first | rfl | assumption | (simp only [decide_eq_true_eq, decide_eq_false_iff_not, Bool.not_eq_true', Bool.not_eq_false', Bool.not_eq_eq_eq_not, Bool.not_true, Bool.not_false, beq_iff_eq, beq_eq_false_iff_ne, ne_eq, decide_eq_decide, eq_self, true_iff, iff_true, not_true_eq_false, not_false_eq_true]; first | done | omega)) ?_ | ((fail_if_success refine Ops.probe rfl ?_); refine Ops.gF rfl rfl (by first | rfl | assumption | (simp only [decide_eq_true_eq, decide_eq_false_iff_not, Bool.not_eq_true', Bool.not_eq_false', Bool.not_eq_eq_eq_not, Bool.not_true, Bool.not_false, beq_iff_eq, beq_eq_false_iff_ne, ne_eq, decide_eq_decide, eq_self, true_iff, iff_true, not_true_eq_false, not_false_eq_true]; first | done | omega)) ?_))
    rw [hsz]
    skip
    exact Cd.ret (ret1 (A' := []) rfl (Res.tmp rfl) (fun _ h => h.split) ⟨rfl, rfl⟩)
  · clear hu
    repeat' (first | refine Cd.seq ?_ | refine Cd.reg ?_ | refine Ops.nil ?_ | refine Ops.mv rfl rfl rfl rfl ?_ | refine Ops.asg rfl rfl rfl rfl ?_ | refine Ops.lenStr rfl rfl rfl rfl ?_ | refine Ops.bin rfl rfl rfl rfl rfl ?_ | refine Ops.pickF rfl rfl rfl rfl rfl ?_ | refine Cd.block ?_ | refine Cd.condT rfl (by first | rfl | assumption | (simp only [decide_eq_true_eq, decide_eq_false_iff_not, Bool.not_eq_true', Bool.not_eq_false', Bool.not_eq_eq_eq_not, Bool.not_true, Bool.not_false, beq_iff_eq, beq_eq_false_iff_ne, ne_eq, decide_eq_decide, eq_self, true_iff, iff_true, not_true_eq_false, not_false_eq_true]; first | done | omega)) ?_ | refine Cd.condF rfl (by first | rfl | assumption | (simp only [decide_eq_true_eq, decide_eq_false_iff_not, Bool.not_eq_true', Bool.not_eq_false', Bool.not_eq_eq_eq_not, Bool.not_true, Bool.not_false, beq_iff_eq, beq_eq_false_iff_ne, ne_eq, decide_eq_decide, eq_self, true_iff, iff_true, not_true_eq_false, not_false_eq_true]; first | done | omega)) ?_ | ((fail_if_success refine Ops.probe rfl ?_); refine Ops.gF rfl rfl (by first | rfl | assumption | (simp only [decide_eq_true_eq, decide_eq_false_iff_not, Bool.not_eq_true', Bool.not_eq_false', Bool.not_eq_eq_eq_not, Bool.not_true, Bool.not_false, beq_iff_eq, beq_eq_false_iff_ne, ne_eq, decide_eq_decide, eq_self, true_iff, iff_true, not_true_eq_false, not_false_eq_true]; first | done | omega)) ?_))
    rw [hsz]
    skip
    refine Ops.ixS rfl rfl rfl rfl (by decide) hg rfl ?_
    skip
    refine Ops.call (slbyte_spec s c) rfl (noPd rfl) rfl rfl rfl (fun v A' hR => ?_)
    obtain ⟨rfl, rfl⟩ := hR
    repeat' (first | refine Ops.nil ?_ | refine Ops.asg rfl rfl rfl rfl ?_)
    exact Cd.ret (ret1 (A' := []) rfl (Res.tmp rfl) (fun _ h => h.split) ⟨rfl, rfl⟩)
theorem sindex_spec (s u : ByteArray) (c : UInt8) (hu : u = ⟨#[c]⟩) : Con Tryz.prog 217 #[.string s, .string u] [] fun v A => v = .int .i64 (idx1 s c) ∧ A = [] := by
  refine Con.intro (vs := [_, _]) Tryz.func217 rfl Tryz.ntmps217 rfl (fun B => ?_)
  repeat' (first | refine Cd.seq ?_ | refine Cd.reg ?_ | refine Ops.mv rfl rfl rfl rfl ?_ | refine Ops.asg rfl rfl rfl rfl ?_)
  refine Ops.call (slindex_spec s u c hu) rfl (noPd rfl) rfl rfl rfl (fun v A' hR => ?_)
  obtain ⟨rfl, rfl⟩ := hR
  repeat' (first | refine Ops.nil ?_ | refine Ops.asg rfl rfl rfl rfl ?_)
  exact Cd.ret (ret1 (A' := []) rfl (Res.tmp rfl) (fun _ h => h.split) ⟨rfl, rfl⟩)
/-- Does a text have a byte? -/
def hasC (s : ByteArray) (c : UInt8) : Bool := decide (0 ≤ idx1 s c)
theorem scontains_spec (s u : ByteArray) (c : UInt8) (hu : u = ⟨#[c]⟩) : Con Tryz.prog 180 #[.string s, .string u] [] fun v A => v = .bool (hasC s c) ∧ A = [] := by
  refine Con.intro (vs := [_, _]) Tryz.func180 rfl Tryz.ntmps180 rfl (fun B => ?_)
  repeat' (first | refine Cd.seq ?_ | refine Cd.reg ?_ | refine Ops.mv rfl rfl rfl rfl ?_ | refine Ops.asg rfl rfl rfl rfl ?_)
  refine Ops.call (sindex_spec s u c hu) rfl (noPd rfl) rfl rfl rfl (fun v A' hR => ?_)
  obtain ⟨rfl, rfl⟩ := hR
  repeat' (first | refine Ops.nil ?_ | refine Ops.asg rfl rfl rfl rfl ?_ | refine Ops.bin rfl rfl rfl rfl rfl ?_ | fail)
  exact Cd.ret (ret1 (A' := []) rfl (Res.tmp rfl) (fun _ h => h.split) ⟨rfl, rfl⟩)
/-! texts that are read where they lie -/
def SIn (B : Base) (a : Option Addr) (l : List ByteArray) : Prop := ∀ (i : Nat) (s : ByteArray), l[i]? = some s → ∃ b off, a = some ⟨b, off, none⟩ ∧ ∀ A, Rd B A b (off + i * 1) (.string s)
theorem SIn.ext {B B2 : Base} {a : Option Addr} {l : List ByteArray} (e : Ext B B2) (h : SIn B a l) : SIn B2 a l := fun i s hs => by
  obtain ⟨b, off, ha, hr⟩ := h i s hs
  exact ⟨b, off, ha, fun A => (hr A).ext e⟩
theorem SIn.nil {B : Base} {a : Option Addr} : SIn B a [] := fun i s hs => by cases hs
def longT (t : ByteArray) : Bool := decide (32 < t.size)
theorem texts1_spec (t : ByteArray) : Con Tryz.prog 219 #[.string t] [] fun v A => v = .bool (longT t) ∧ A = [] := by
  refine Con.intro (vs := [_]) Tryz.func219 rfl Tryz.ntmps219 rfl (fun B => ?_)
  repeat' (first | refine Cd.seq ?_ | refine Cd.reg ?_ | refine Ops.nil ?_ | refine Ops.mv rfl rfl rfl rfl ?_ | refine Ops.asg rfl rfl rfl rfl ?_ | refine Ops.lenStr rfl rfl rfl rfl ?_ | refine Ops.bin rfl rfl rfl rfl rfl ?_ | fail)
  exact Cd.ret (ret1 (A' := []) rfl (Res.tmp rfl) (fun _ h => h.split) ⟨by unfold longT; congr 1; simp; omega, rfl⟩)
theorem findT_spec (B0 : Base) (a : Option Addr) (c : Nat) (l : List ByteArray) (hS : SIn B0 a l) (hl : l.length ≤ 2000000) :
    ConB Tryz.prog B0 253 #[.slice a l.length c, .func (.func 219) #[] #[]] [] fun v A => (∃ k : Int, v = .int .i64 k ∧ (l.any longT = true → 0 ≤ k) ∧ (l.any longT = false → k < 0)) ∧ A = [] := by
  refine ConB.intro (vs := [_, _]) Tryz.func253 rfl Tryz.ntmps253 rfl (fun B hx => ?_)
  have hS := hS.ext hx
  generalize B.plain = B1 at hS ⊢
  clear hx
  repeat' (first | refine Cd.seq ?_ | refine Cd.reg ?_ | refine Ops.nil ?_ | refine Ops.mv rfl rfl rfl rfl ?_ | refine Ops.asg rfl rfl rfl rfl ?_ | refine Ops.lenS rfl rfl rfl rfl ?_ | refine Cd.block ?_)
  refine Cd.loopK (fun i : Nat => i ≤ l.length ∧ l.any longT = (l.drop i).any longT) (fun i => [(0, .slice a l.length c), (1, .func (.func 219) #[] #[]), (7, .int .i64 l.length), (8, .int .i64 i)])
    (fun _ => []) (fun i => l.length - i) 0 ⟨Nat.zero_le _, by simp⟩ ⟨rfl, rfl, rfl, rfl, trivial⟩ (fun w h => h) (fun i hI => ?_)
  obtain ⟨hi, hem⟩ := hI
  by_cases hil : i < l.length
  · have hil' : (i : Int) < l.length := by omega
    obtain ⟨x, hx⟩ : ∃ x, l[i]? = some x := ⟨_, List.getElem?_eq_getElem hil⟩
    obtain ⟨b, off, rfl, hrd⟩ := hS i x hx
    have hrw : ∀ A, Rd B1 A b (off + (i : Int).toNat * 1) (.string x) := fun A => by rw [Int.toNat_natCast]; exact hrd A
    have hdr : l.drop i = x :: l.drop (i + 1) := by
      obtain ⟨h1, rfl⟩ := List.getElem?_eq_some_iff.1 hx
      exact List.drop_eq_getElem_cons h1
    rw [hdr, List.any_cons] at hem
    repeat' (first | refine Cd.seq ?_ | refine Cd.reg ?_ | refine Ops.mv rfl rfl rfl rfl ?_ | refine Ops.asg rfl rfl rfl rfl ?_ | refine Ops.bin rfl rfl rfl rfl rfl ?_ | refine Cd.block ?_ | refine Cd.skip (Cd.next ?_) | refine Ops.ixa rfl rfl rfl rfl (by omega) (by omega) rfl ?_ | refine Cd.condT rfl (by first | rfl | assumption | (simp only [decide_eq_true_eq, decide_eq_false_iff_not, Bool.not_eq_true', Bool.not_eq_false', Bool.not_eq_eq_eq_not, Bool.not_true, Bool.not_false, beq_iff_eq, beq_eq_false_iff_ne, ne_eq, decide_eq_decide, eq_self, true_iff, iff_true, not_true_eq_false, not_false_eq_true]; first | done | omega)) ?_)
    refine Ops.ldR rfl rfl rfl (hrw _) rfl ?_
    skip
    refine Ops.callV (fi := []) (ca := []) (vs := [_]) (texts1_spec x) rfl (noPd rfl) rfl rfl rfl rfl (fun v A' hR => ?_)
    obtain ⟨rfl, rfl⟩ := hR
    cases hq : longT x with
    | true =>
      rw [hq] at hem
      repeat' (first | refine Cd.seq ?_ | refine Cd.reg ?_ | refine Ops.nil ?_ | refine Ops.mv rfl rfl rfl rfl ?_ | refine Ops.asg rfl rfl rfl rfl ?_ | refine Cd.condT rfl rfl ?_)
      exact Cd.ret (ret1 (A' := []) rfl (Res.tmp rfl) (fun _ h => h.split) ⟨⟨i, rfl, (fun _ => Int.natCast_nonneg _), (fun h => by rw [hem] at h; cases h)⟩, rfl⟩)
    | false =>
      rw [hq] at hem
      repeat' (first | refine Cd.reg ?_ | refine Ops.nil ?_ | refine Ops.mv rfl rfl rfl rfl ?_ | refine Ops.addI rfl rfl rfl rfl (by omega) (by omega) rfl ?_ | refine Cd.condF rfl rfl ?_ | refine Cd.skip (Cd.next (Q' := fun _ _ _ => True) ?_))
      exact Ops.nilN (round_end (i + 1) ⟨by show i + 1 ≤ l.length; omega, by rw [hem, Bool.false_or]⟩ (by show l.length - (i + 1) < l.length - i; omega) ⟨rfl, rfl, rfl, rfl, trivial⟩ (fun w h => h.split))
  · obtain rfl : i = l.length := by omega
    rw [List.drop_length] at hem
    have hil' : ¬ ((l.length : Nat) : Int) < l.length := by omega
    repeat' (first | refine Cd.seq ?_ | refine Cd.reg ?_ | refine Ops.nil ?_ | refine Ops.asg rfl rfl rfl rfl ?_ | refine Ops.bin rfl rfl rfl rfl rfl ?_ | refine Cd.exit (Cd.next (Q' := fun _ _ _ => True) ?_) | refine Cd.condF rfl (by first | rfl | assumption | (simp only [decide_eq_true_eq, decide_eq_false_iff_not, Bool.not_eq_true', Bool.not_eq_false', Bool.not_eq_eq_eq_not, Bool.not_true, Bool.not_false, beq_iff_eq, beq_eq_false_iff_ne, ne_eq, decide_eq_decide, eq_self, true_iff, iff_true, not_true_eq_false, not_false_eq_true]; first | done | omega)) ?_)
    exact Cd.ret (ret1 (A' := []) rfl (Res.tmp rfl) (fun _ h => h.split) ⟨⟨-1, rfl, (fun h => by rw [hem] at h; cases h), (fun _ => by decide)⟩, rfl⟩)
theorem hasT_spec (B0 : Base) (a : Option Addr) (c : Nat) (l : List ByteArray) (hS : SIn B0 a l) (hl : l.length ≤ 2000000) :
    ConB Tryz.prog B0 218 #[.slice a l.length c, .func (.func 219) #[] #[]] [] fun v A => v = .bool (l.any longT) ∧ A = [] := by
  refine ConB.intro (vs := [_, _]) Tryz.func218 rfl Tryz.ntmps218 rfl (fun B hx => ?_)
  repeat' (first | refine Cd.seq ?_ | refine Cd.reg ?_ | refine Ops.mv rfl rfl rfl rfl ?_ | refine Ops.asg rfl rfl rfl rfl ?_)
  refine Ops.callB (findT_spec B0 a c l hS hl) hx rfl (noPd rfl) rfl rfl rfl (fun v A' hR => ?_)
  obtain ⟨⟨k, rfl, h1, h2⟩, rfl⟩ := hR
  cases hp : l.any longT with
  | true =>
    have := h1 hp
    repeat' (first | refine Ops.nil ?_ | refine Ops.asg rfl rfl rfl rfl ?_ | refine Ops.bin rfl rfl rfl rfl rfl ?_ | fail)
    exact Cd.ret (ret1 (A' := []) rfl (Res.tmp rfl) (fun _ h => h.split) ⟨by simp [this], rfl⟩)
  | false =>
    have := h2 hp
    repeat' (first | refine Ops.nil ?_ | refine Ops.asg rfl rfl rfl rfl ?_ | refine Ops.bin rfl rfl rfl rfl rfl ?_ | fail)
    exact Cd.ret (ret1 (A' := []) rfl (Res.tmp rfl) (fun _ h => h.split) ⟨by congr 1; simp; omega, rfl⟩)
def textsF (l : List ByteArray) : Bool := decide (1 ≤ l.length ∧ l.length ≤ 8) && !l.any longT
theorem texts_spec (B0 : Base) (a : Option Addr) (c : Nat) (l : List ByteArray) (hS : SIn B0 a l) (hl : l.length ≤ 2000000) :
    ConB Tryz.prog B0 183 #[.slice a l.length c] [] fun v A => v = .bool (textsF l) ∧ A = [] := by
  refine ConB.intro (vs := [_]) Tryz.func183 rfl Tryz.ntmps183 rfl (fun B hx => ?_)
  unfold textsF
  repeat' (first | refine Cd.seq ?_ | refine Cd.reg ?_ | refine Ops.mv rfl rfl rfl rfl ?_ | refine Ops.asg rfl rfl rfl rfl ?_ | refine Ops.lenS rfl rfl rfl rfl ?_)
  refine Ops.call (rin_spec l.length 1 8) rfl (noPd rfl) rfl rfl rfl (fun v A' hR => ?_)
  obtain ⟨rfl, rfl⟩ := hR
  by_cases h : 1 ≤ l.length ∧ l.length ≤ 8
  · rw [decide_eq_true h, decide_eq_true (⟨by omega, by omega⟩ : (1 : Int) ≤ (l.length : Nat) ∧ ((l.length : Nat) : Int) ≤ 8)]
    repeat' (first | refine Ops.mv rfl rfl rfl rfl ?_)
    refine Ops.callB (hasT_spec B0 a c l hS hl) hx rfl (noPd rfl) rfl rfl rfl (fun v A' hR => ?_)
    obtain ⟨rfl, rfl⟩ := hR
    repeat' (first | refine Ops.nil ?_ | refine Ops.asg rfl rfl rfl rfl ?_ | refine Ops.un rfl rfl rfl rfl ?_ | refine Ops.pickT rfl rfl rfl rfl rfl ?_)
    exact Cd.ret (ret1 (A' := []) rfl (Res.tmp rfl) (fun _ h => h.split) ⟨rfl, rfl⟩)
  · rw [decide_eq_false h, decide_eq_false (by omega : ¬ ((1 : Int) ≤ (l.length : Nat) ∧ ((l.length : Nat) : Int) ≤ 8))]
    repeat' (first | refine Ops.nil ?_ | refine Ops.mv rfl rfl rfl rfl ?_ | refine Ops.asg rfl rfl rfl rfl ?_ | refine Ops.pickF rfl rfl rfl rfl rfl ?_ | refine Ops.gSkip rfl rfl rfl ?_)
    exact Cd.ret (ret1 (A' := []) rfl (Res.tmp rfl) (fun _ h => h.split) ⟨rfl, rfl⟩)
/-- A change. -/
structure Ch where
  kind : Int
  n : Int
  job : Int
  badge : Int
  slot : Int
  life : Int
  rcode : Int
  rbits : Int
  prog : ByteArray
  txs : List ByteArray
@[reducible] def Ch.row (c : Ch) (a : Option Addr) (k : Nat) : List Value := [.int .i64 c.kind, .int .i64 c.n, .int .i64 c.job, .int .i64 c.badge, .int .i64 c.slot, .int .i64 c.life, .int .i64 c.rcode, .int .u64 c.rbits, .string c.prog, .slice a c.txs.length k]
theorem check1_spec (cb : Nat) (c : Ch) (a : Option Addr) (k : Nat) (u : ByteArray) (l : UInt8) (hu : u = ⟨#[l]⟩) : Con Tryz.prog 179 #[.string u, ptr cb] [(cb, cl (c.row a k) 51)] fun v A => v = .bool (hasC (hasS c.kind) l) ∧ A = [(cb, cl (c.row a k) 51)] := by
  refine Con.intro (vs := [_, _]) Tryz.func179 rfl Tryz.ntmps179 rfl (fun B => ?_)
  repeat' (first | refine Cd.seq ?_ | refine Cd.reg ?_ | refine Ops.asg rfl rfl rfl rfl ?_ | refine Ops.fa0 rfl rfl rfl rfl ?_ | refine Ops.ld1 rfl rfl rfl rfl rfl ?_)
  refine Ops.call (has_spec c.kind) rfl (noPd rfl) rfl rfl rfl (fun v A' hR => ?_)
  obtain ⟨rfl, rfl⟩ := hR
  repeat' (first | refine Ops.mv rfl rfl rfl rfl ?_)
  refine Ops.call (scontains_spec (hasS c.kind) u l hu) rfl (noPd rfl) rfl rfl rfl (fun v A' hR => ?_)
  obtain ⟨rfl, rfl⟩ := hR
  repeat' (first | refine Ops.nil ?_ | refine Ops.asg rfl rfl rfl rfl ?_)
  exact Cd.ret (ret1 (A' := [(cb, cl (c.row a k) 51)]) rfl (Res.tmp rfl) (fun _ h => h.split) ⟨rfl, rfl⟩)
end Go.Proofs.YtnmjdoaogdaehaaGreat
/- Rows that are read where they lie, beside what a call owns. -/
namespace Go.Sep
open Go
def RIn (sz : Nat) (B : Base) (a : Option Addr) (rows : List (List Value)) : Prop :=
  ∀ (i : Nat) (r : List Value), rows[i]? = some r → ∃ b off, a = some ⟨b, off, none⟩ ∧ ∀ A j u, r[j]? = some u → Rd B A b (off + i * sz + j) u
theorem Holds.sub {B : Base} {G G' : List Blk} (h : Holds B G) (hs : ∀ p ∈ G', p ∈ G) : Holds B G' := fun p hp => h p (hs p hp)
theorem RIn.ext {sz : Nat} {B B2 : Base} {a : Option Addr} {rows : List (List Value)} (e : Ext B B2) (h : RIn sz B a rows) : RIn sz B2 a rows := fun i r hr => by
  obtain ⟨b, off, ha, h⟩ := h i r hr
  exact ⟨b, off, ha, fun A j u hu => (h A j u hu).ext e⟩
theorem RIn.nil {sz : Nat} {B : Base} {a : Option Addr} : RIn sz B a [] := fun i r hr => by cases hr
theorem Own.rin {E sz n c : Nat} {a : Option Addr} {rows : List (List Value)} {G : List Blk} (h : Own E sz (.slice a n c) rows G) {B : Base} (hG : Holds B G) : RIn sz B a rows := fun i r hr => by
  have hlt := (List.getElem?_eq_some_iff.1 hr).1
  obtain ⟨g, c', spare, h1, h2, h3, h4⟩ := Own.some_ h (by omega)
  injection h1 with e1 e2 e3
  refine ⟨g, 0, e1, fun A j u hu => ?_⟩
  have hj : j < sz := by rw [← (h.1 r (List.mem_of_getElem? hr)).1]; exact (List.getElem?_eq_some_iff.1 hu).1
  have h5 := h.1.at_ hr hj
  rw [Nat.zero_add]
  exact hG.cell (l := rows.flatten ++ spare) (by rw [h2]; exact List.mem_singleton.2 rfl) (by rw [List.getElem?_append_left (List.getElem?_eq_some_iff.1 (h5.trans hu)).1, h5, hu]) A
theorem Rs.rin {E sz n c : Nat} {a : Option Addr} {rows : List (List Value)} {G : List Blk} (h : Rs E sz (.slice a n c) rows G) {B : Base} (hG : Holds B G) : RIn sz B a rows := fun i r hr => by
  have hlt := (List.getElem?_eq_some_iff.1 hr).1
  obtain ⟨g, c', spare, h1, h2⟩ := Rs.some_ h (by omega)
  injection h1 with e1 e2 e3
  refine ⟨g, 0, e1, fun A j u hu => ?_⟩
  have hj : j < sz := by rw [← (h.1 r (List.mem_of_getElem? hr)).1]; exact (List.getElem?_eq_some_iff.1 hu).1
  have h5 := h.1.at_ hr hj
  rw [Nat.zero_add]
  exact hG.cell (l := rows.flatten ++ spare) (by rw [h2]; exact List.mem_singleton.2 rfl) (by rw [List.getElem?_append_left (List.getElem?_eq_some_iff.1 (h5.trans hu)).1, h5, hu]) A
theorem RIn.reads {P : Program} {sz : Nat} {B : Base} {a : Option Addr} {rows : List (List Value)} (h : RIn sz B a rows) (hok : RowsOk sz rows) (hsz : 0 < sz) (c : Nat) (A : List Blk) : Reads P B A sz (.slice a rows.length c) rows := by
  refine ⟨hok, ⟨a, c, rfl⟩, fun w hS => ?_⟩
  cases rows with
  | nil => exact (Reads.none (P := P) (B := B) (A := A) (sz := sz) (a := a) (c := c)).2.2 w hS
  | cons r0 rows =>
    obtain ⟨b, off, rfl, _⟩ := h 0 r0 rfl
    have hlen := hok.len
    have hcell : ∀ j u, (r0 :: rows).flatten[j]? = some u → w.cell? ⟨b, off + j, none⟩ = some u := fun j u hu => by
      have hj : j < (r0 :: rows).length * sz := by rw [← hlen]; exact (List.getElem?_eq_some_iff.1 hu).1
      have hi : j / sz < (r0 :: rows).length := by rw [Nat.div_lt_iff_lt_mul hsz]; exact hj
      obtain ⟨r, hr⟩ : ∃ r, (r0 :: rows)[j / sz]? = some r := ⟨_, List.getElem?_eq_getElem hi⟩
      have h5 := hok.at_ hr (Nat.mod_lt j hsz)
      have e1 : j / sz * sz + j % sz = j := by rw [Nat.mul_comm]; exact Nat.div_add_mod j sz
      rw [e1, hu] at h5
      obtain ⟨b', off', e2, hrd⟩ := h _ r hr
      injection e2 with e2
      injection e2 with e2 e3
      subst e2; subst e3
      have := hrd A _ u h5.symm w hS
      rwa [Nat.add_assoc, e1] at this
    exact run_loadCells hlen hcell
end Go.Sep
