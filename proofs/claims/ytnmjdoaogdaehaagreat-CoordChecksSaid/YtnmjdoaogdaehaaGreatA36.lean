import Derived.Test.YtnmjdoaogdaehaaGreatA34
import Derived.Test.YtnmjdoaogdaehaaGreatA35
namespace Go.Proofs.YtnmjdoaogdaehaaGreat
open Go Go.Sep Go.Proofs
set_option maxRecDepth 10000
set_option maxHeartbeats 40000000
set_option synthInstance.maxSize 2000
set_option linter.unusedSimpArgs false
set_option linter.unusedVariables false
/-! a message with just the fields that its kind names -/
def setL (m n : Ms) (c : Nat) : Ms := if c = 115 then { n with session := m.session } else if c = 110 then { n with number := m.number } else if c = 106 then { n with job := m.job } else if c = 98 then { n with badge := m.badge } else if c = 105 then { n with index := m.index } else if c = 99 then { n with count := m.count } else if c = 114 then { n with rcode := m.rcode, rbits := m.rbits } else if c = 116 then { n with text := m.text } else if c = 112 then { n with prog := m.prog } else n
theorem named_115 (nb mb : Nat) (n m : Ms) : Con Tryz.prog 159 #[ptr nb, ptr mb] [MgB nb n.row, MgB mb m.row] fun v A => A = [MgB nb (setL m n 115).row, MgB mb m.row] := by
  obtain ⟨kd, se, nu, jo, ba, ix, co, rc, rb, tx, pr⟩ := n
  obtain ⟨kd2, se2, nu2, jo2, ba2, ix2, co2, rc2, rb2, tx2, pr2⟩ := m
  refine Con.intro (vs := [_, _]) Tryz.func159 rfl Tryz.ntmps159 rfl (fun B => ?_)
  repeat' (first | refine Cd.reg ?_ | refine Ops.mv rfl rfl rfl rfl ?_ | refine Ops.nilP rfl rfl rfl rfl ?_ | refine Ops.fa0 rfl rfl rfl rfl ?_ | refine Ops.ld1 rfl rfl rfl rfl rfl ?_ | refine Ops.st1 rfl rfl rfl rfl rfl (noPd rfl) ?_)
  exact Ops.nilN (end0 (A' := [MgB nb [.int .i64 kd, .int .i64 se2, .int .i64 nu, .int .i64 jo, .int .i64 ba, .int .i64 ix, .int .i64 co, .int .i64 rc, .int .u64 rb, .string tx, .string pr], MgB mb [.int .i64 kd2, .int .i64 se2, .int .i64 nu2, .int .i64 jo2, .int .i64 ba2, .int .i64 ix2, .int .i64 co2, .int .i64 rc2, .int .u64 rb2, .string tx2, .string pr2]]) rfl (fun _ h => h.split) rfl)
theorem named_110 (nb mb : Nat) (n m : Ms) : Con Tryz.prog 160 #[ptr nb, ptr mb] [MgB nb n.row, MgB mb m.row] fun v A => A = [MgB nb (setL m n 110).row, MgB mb m.row] := by
  obtain ⟨kd, se, nu, jo, ba, ix, co, rc, rb, tx, pr⟩ := n
  obtain ⟨kd2, se2, nu2, jo2, ba2, ix2, co2, rc2, rb2, tx2, pr2⟩ := m
  refine Con.intro (vs := [_, _]) Tryz.func160 rfl Tryz.ntmps160 rfl (fun B => ?_)
  repeat' (first | refine Cd.reg ?_ | refine Ops.mv rfl rfl rfl rfl ?_ | refine Ops.nilP rfl rfl rfl rfl ?_ | refine Ops.fa0 rfl rfl rfl rfl ?_ | refine Ops.ld1 rfl rfl rfl rfl rfl ?_ | refine Ops.st1 rfl rfl rfl rfl rfl (noPd rfl) ?_)
  exact Ops.nilN (end0 (A' := [MgB nb [.int .i64 kd, .int .i64 se, .int .i64 nu2, .int .i64 jo, .int .i64 ba, .int .i64 ix, .int .i64 co, .int .i64 rc, .int .u64 rb, .string tx, .string pr], MgB mb [.int .i64 kd2, .int .i64 se2, .int .i64 nu2, .int .i64 jo2, .int .i64 ba2, .int .i64 ix2, .int .i64 co2, .int .i64 rc2, .int .u64 rb2, .string tx2, .string pr2]]) rfl (fun _ h => h.split) rfl)
theorem named_106 (nb mb : Nat) (n m : Ms) : Con Tryz.prog 161 #[ptr nb, ptr mb] [MgB nb n.row, MgB mb m.row] fun v A => A = [MgB nb (setL m n 106).row, MgB mb m.row] := by
  obtain ⟨kd, se, nu, jo, ba, ix, co, rc, rb, tx, pr⟩ := n
  obtain ⟨kd2, se2, nu2, jo2, ba2, ix2, co2, rc2, rb2, tx2, pr2⟩ := m
  refine Con.intro (vs := [_, _]) Tryz.func161 rfl Tryz.ntmps161 rfl (fun B => ?_)
  repeat' (first | refine Cd.reg ?_ | refine Ops.mv rfl rfl rfl rfl ?_ | refine Ops.nilP rfl rfl rfl rfl ?_ | refine Ops.fa0 rfl rfl rfl rfl ?_ | refine Ops.ld1 rfl rfl rfl rfl rfl ?_ | refine Ops.st1 rfl rfl rfl rfl rfl (noPd rfl) ?_)
  exact Ops.nilN (end0 (A' := [MgB nb [.int .i64 kd, .int .i64 se, .int .i64 nu, .int .i64 jo2, .int .i64 ba, .int .i64 ix, .int .i64 co, .int .i64 rc, .int .u64 rb, .string tx, .string pr], MgB mb [.int .i64 kd2, .int .i64 se2, .int .i64 nu2, .int .i64 jo2, .int .i64 ba2, .int .i64 ix2, .int .i64 co2, .int .i64 rc2, .int .u64 rb2, .string tx2, .string pr2]]) rfl (fun _ h => h.split) rfl)
theorem named_98 (nb mb : Nat) (n m : Ms) : Con Tryz.prog 162 #[ptr nb, ptr mb] [MgB nb n.row, MgB mb m.row] fun v A => A = [MgB nb (setL m n 98).row, MgB mb m.row] := by
  obtain ⟨kd, se, nu, jo, ba, ix, co, rc, rb, tx, pr⟩ := n
  obtain ⟨kd2, se2, nu2, jo2, ba2, ix2, co2, rc2, rb2, tx2, pr2⟩ := m
  refine Con.intro (vs := [_, _]) Tryz.func162 rfl Tryz.ntmps162 rfl (fun B => ?_)
  repeat' (first | refine Cd.reg ?_ | refine Ops.mv rfl rfl rfl rfl ?_ | refine Ops.nilP rfl rfl rfl rfl ?_ | refine Ops.fa0 rfl rfl rfl rfl ?_ | refine Ops.ld1 rfl rfl rfl rfl rfl ?_ | refine Ops.st1 rfl rfl rfl rfl rfl (noPd rfl) ?_)
  exact Ops.nilN (end0 (A' := [MgB nb [.int .i64 kd, .int .i64 se, .int .i64 nu, .int .i64 jo, .int .i64 ba2, .int .i64 ix, .int .i64 co, .int .i64 rc, .int .u64 rb, .string tx, .string pr], MgB mb [.int .i64 kd2, .int .i64 se2, .int .i64 nu2, .int .i64 jo2, .int .i64 ba2, .int .i64 ix2, .int .i64 co2, .int .i64 rc2, .int .u64 rb2, .string tx2, .string pr2]]) rfl (fun _ h => h.split) rfl)
theorem named_105 (nb mb : Nat) (n m : Ms) : Con Tryz.prog 163 #[ptr nb, ptr mb] [MgB nb n.row, MgB mb m.row] fun v A => A = [MgB nb (setL m n 105).row, MgB mb m.row] := by
  obtain ⟨kd, se, nu, jo, ba, ix, co, rc, rb, tx, pr⟩ := n
  obtain ⟨kd2, se2, nu2, jo2, ba2, ix2, co2, rc2, rb2, tx2, pr2⟩ := m
  refine Con.intro (vs := [_, _]) Tryz.func163 rfl Tryz.ntmps163 rfl (fun B => ?_)
  repeat' (first | refine Cd.reg ?_ | refine Ops.mv rfl rfl rfl rfl ?_ | refine Ops.nilP rfl rfl rfl rfl ?_ | refine Ops.fa0 rfl rfl rfl rfl ?_ | refine Ops.ld1 rfl rfl rfl rfl rfl ?_ | refine Ops.st1 rfl rfl rfl rfl rfl (noPd rfl) ?_)
  exact Ops.nilN (end0 (A' := [MgB nb [.int .i64 kd, .int .i64 se, .int .i64 nu, .int .i64 jo, .int .i64 ba, .int .i64 ix2, .int .i64 co, .int .i64 rc, .int .u64 rb, .string tx, .string pr], MgB mb [.int .i64 kd2, .int .i64 se2, .int .i64 nu2, .int .i64 jo2, .int .i64 ba2, .int .i64 ix2, .int .i64 co2, .int .i64 rc2, .int .u64 rb2, .string tx2, .string pr2]]) rfl (fun _ h => h.split) rfl)
theorem named_99 (nb mb : Nat) (n m : Ms) : Con Tryz.prog 164 #[ptr nb, ptr mb] [MgB nb n.row, MgB mb m.row] fun v A => A = [MgB nb (setL m n 99).row, MgB mb m.row] := by
  obtain ⟨kd, se, nu, jo, ba, ix, co, rc, rb, tx, pr⟩ := n
  obtain ⟨kd2, se2, nu2, jo2, ba2, ix2, co2, rc2, rb2, tx2, pr2⟩ := m
  refine Con.intro (vs := [_, _]) Tryz.func164 rfl Tryz.ntmps164 rfl (fun B => ?_)
  repeat' (first | refine Cd.reg ?_ | refine Ops.mv rfl rfl rfl rfl ?_ | refine Ops.nilP rfl rfl rfl rfl ?_ | refine Ops.fa0 rfl rfl rfl rfl ?_ | refine Ops.ld1 rfl rfl rfl rfl rfl ?_ | refine Ops.st1 rfl rfl rfl rfl rfl (noPd rfl) ?_)
  exact Ops.nilN (end0 (A' := [MgB nb [.int .i64 kd, .int .i64 se, .int .i64 nu, .int .i64 jo, .int .i64 ba, .int .i64 ix, .int .i64 co2, .int .i64 rc, .int .u64 rb, .string tx, .string pr], MgB mb [.int .i64 kd2, .int .i64 se2, .int .i64 nu2, .int .i64 jo2, .int .i64 ba2, .int .i64 ix2, .int .i64 co2, .int .i64 rc2, .int .u64 rb2, .string tx2, .string pr2]]) rfl (fun _ h => h.split) rfl)
theorem named_114 (nb mb : Nat) (n m : Ms) : Con Tryz.prog 165 #[ptr nb, ptr mb] [MgB nb n.row, MgB mb m.row] fun v A => A = [MgB nb (setL m n 114).row, MgB mb m.row] := by
  obtain ⟨kd, se, nu, jo, ba, ix, co, rc, rb, tx, pr⟩ := n
  obtain ⟨kd2, se2, nu2, jo2, ba2, ix2, co2, rc2, rb2, tx2, pr2⟩ := m
  refine Con.intro (vs := [_, _]) Tryz.func165 rfl Tryz.ntmps165 rfl (fun B => ?_)
  repeat' (first | refine Cd.reg ?_ | refine Ops.mv rfl rfl rfl rfl ?_ | refine Ops.nilP rfl rfl rfl rfl ?_ | refine Ops.fa0 rfl rfl rfl rfl ?_ | refine Ops.ldN rfl rfl rfl rfl ?_ | refine Ops.stN rfl rfl rfl rfl rfl rfl (noPd rfl) ?_)
  exact Ops.nilN (end0 (A' := [MgB nb [.int .i64 kd, .int .i64 se, .int .i64 nu, .int .i64 jo, .int .i64 ba, .int .i64 ix, .int .i64 co, .int .i64 rc2, .int .u64 rb2, .string tx, .string pr], MgB mb [.int .i64 kd2, .int .i64 se2, .int .i64 nu2, .int .i64 jo2, .int .i64 ba2, .int .i64 ix2, .int .i64 co2, .int .i64 rc2, .int .u64 rb2, .string tx2, .string pr2]]) rfl (fun _ h => h.split) rfl)
theorem named_116 (nb mb : Nat) (n m : Ms) : Con Tryz.prog 166 #[ptr nb, ptr mb] [MgB nb n.row, MgB mb m.row] fun v A => A = [MgB nb (setL m n 116).row, MgB mb m.row] := by
  obtain ⟨kd, se, nu, jo, ba, ix, co, rc, rb, tx, pr⟩ := n
  obtain ⟨kd2, se2, nu2, jo2, ba2, ix2, co2, rc2, rb2, tx2, pr2⟩ := m
  refine Con.intro (vs := [_, _]) Tryz.func166 rfl Tryz.ntmps166 rfl (fun B => ?_)
  repeat' (first | refine Cd.reg ?_ | refine Ops.mv rfl rfl rfl rfl ?_ | refine Ops.nilP rfl rfl rfl rfl ?_ | refine Ops.fa0 rfl rfl rfl rfl ?_ | refine Ops.ld1 rfl rfl rfl rfl rfl ?_ | refine Ops.st1 rfl rfl rfl rfl rfl (noPd rfl) ?_)
  exact Ops.nilN (end0 (A' := [MgB nb [.int .i64 kd, .int .i64 se, .int .i64 nu, .int .i64 jo, .int .i64 ba, .int .i64 ix, .int .i64 co, .int .i64 rc, .int .u64 rb, .string tx2, .string pr], MgB mb [.int .i64 kd2, .int .i64 se2, .int .i64 nu2, .int .i64 jo2, .int .i64 ba2, .int .i64 ix2, .int .i64 co2, .int .i64 rc2, .int .u64 rb2, .string tx2, .string pr2]]) rfl (fun _ h => h.split) rfl)
theorem named_112 (nb mb : Nat) (n m : Ms) : Con Tryz.prog 167 #[ptr nb, ptr mb] [MgB nb n.row, MgB mb m.row] fun v A => A = [MgB nb (setL m n 112).row, MgB mb m.row] := by
  obtain ⟨kd, se, nu, jo, ba, ix, co, rc, rb, tx, pr⟩ := n
  obtain ⟨kd2, se2, nu2, jo2, ba2, ix2, co2, rc2, rb2, tx2, pr2⟩ := m
  refine Con.intro (vs := [_, _]) Tryz.func167 rfl Tryz.ntmps167 rfl (fun B => ?_)
  repeat' (first | refine Cd.reg ?_ | refine Ops.mv rfl rfl rfl rfl ?_ | refine Ops.nilP rfl rfl rfl rfl ?_ | refine Ops.fa0 rfl rfl rfl rfl ?_ | refine Ops.ld1 rfl rfl rfl rfl rfl ?_ | refine Ops.st1 rfl rfl rfl rfl rfl (noPd rfl) ?_)
  exact Ops.nilN (end0 (A' := [MgB nb [.int .i64 kd, .int .i64 se, .int .i64 nu, .int .i64 jo, .int .i64 ba, .int .i64 ix, .int .i64 co, .int .i64 rc, .int .u64 rb, .string tx, .string pr2], MgB mb [.int .i64 kd2, .int .i64 se2, .int .i64 nu2, .int .i64 jo2, .int .i64 ba2, .int .i64 ix2, .int .i64 co2, .int .i64 rc2, .int .u64 rb2, .string tx2, .string pr2]]) rfl (fun _ h => h.split) rfl)
end Go.Proofs.YtnmjdoaogdaehaaGreat
namespace Go.Proofs.YtnmjdoaogdaehaaGreat
open Go Go.Sep Go.Proofs
set_option maxRecDepth 10000
set_option maxHeartbeats 40000000
set_option synthInstance.maxSize 2000
set_option linter.unusedSimpArgs false
set_option linter.unusedVariables false
/-! the table of a message's named fields -/
def allL (mb : Nat) : List Value := [.nilFunc, .nilFunc, .nilFunc, .nilFunc, .nilFunc, .nilFunc, .nilFunc, .nilFunc, .nilFunc, .nilFunc, .nilFunc, .nilFunc, .nilFunc, .nilFunc, .nilFunc, .nilFunc, .nilFunc, .nilFunc, .nilFunc, .nilFunc, .nilFunc, .nilFunc, .nilFunc, .nilFunc, .nilFunc, .nilFunc, .nilFunc, .nilFunc, .nilFunc, .nilFunc, .nilFunc, .nilFunc, .nilFunc, .nilFunc, .nilFunc, .nilFunc, .nilFunc, .nilFunc, .nilFunc, .nilFunc, .nilFunc, .nilFunc, .nilFunc, .nilFunc, .nilFunc, .nilFunc, .nilFunc, .nilFunc, .nilFunc, .nilFunc, .nilFunc, .nilFunc, .nilFunc, .nilFunc, .nilFunc, .nilFunc, .nilFunc, .nilFunc, .nilFunc, .nilFunc, .nilFunc, .nilFunc, .nilFunc, .nilFunc, .nilFunc, .nilFunc, .nilFunc, .nilFunc, .nilFunc, .nilFunc, .nilFunc, .nilFunc, .nilFunc, .nilFunc, .nilFunc, .nilFunc, .nilFunc, .nilFunc, .nilFunc, .nilFunc, .nilFunc, .nilFunc, .nilFunc, .nilFunc, .nilFunc, .nilFunc, .nilFunc, .nilFunc, .nilFunc, .nilFunc, .nilFunc, .nilFunc, .nilFunc, .nilFunc, .nilFunc, .nilFunc, .nilFunc, .nilFunc, .func (.func 162) #[] #[ptr mb], .func (.func 164) #[] #[ptr mb], .nilFunc, .nilFunc, .nilFunc, .nilFunc, .nilFunc, .func (.func 163) #[] #[ptr mb], .func (.func 161) #[] #[ptr mb], .nilFunc, .nilFunc, .nilFunc, .func (.func 160) #[] #[ptr mb], .nilFunc, .func (.func 167) #[] #[ptr mb], .nilFunc, .func (.func 165) #[] #[ptr mb], .func (.func 159) #[] #[ptr mb], .func (.func 166) #[] #[ptr mb]]
def wordsL : List Value := [.string ⟨#[]⟩, .string ⟨#[]⟩, .string ⟨#[115, 110]⟩, .string ⟨#[115, 110, 98]⟩, .string ⟨#[115, 110, 98, 99, 114]⟩, .string ⟨#[98, 105, 116]⟩, .string ⟨#[106, 98, 105, 116]⟩, .string ⟨#[115]⟩, .string ⟨#[115, 110]⟩, .string ⟨#[115, 110, 106, 98, 112]⟩, .string ⟨#[115, 110]⟩, .string ⟨#[115, 110]⟩, .string ⟨#[115, 110]⟩, .string ⟨#[115, 110]⟩, .string ⟨#[98, 99]⟩, .string ⟨#[106, 98, 99]⟩, .string ⟨#[106, 98]⟩]
def wordF (k : Int) : ByteArray := match wordsL[k.toNat]? with
  | some (.string s) => s
  | _ => .empty
theorem words_at {k : Int} (h0 : 1 ≤ k) (h1 : k ≤ 16) : wordsL[k.toNat]? = some (.string (wordF k)) := by
  have h : k = 1 ∨ k = 2 ∨ k = 3 ∨ k = 4 ∨ k = 5 ∨ k = 6 ∨ k = 7 ∨ k = 8 ∨ k = 9 ∨ k = 10 ∨ k = 11 ∨ k = 12 ∨ k = 13 ∨ k = 14 ∨ k = 15 ∨ k = 16 := by omega
  rcases h with rfl | rfl | rfl | rfl | rfl | rfl | rfl | rfl | rfl | rfl | rfl | rfl | rfl | rfl | rfl | rfl <;> rfl
def letters : List Nat := [115, 110, 106, 98, 105, 99, 114, 116, 112]
theorem words_ok {k : Int} (h0 : 1 ≤ k) (h1 : k ≤ 16) : (wordF k).size ≤ 5 ∧ ∀ i, i < (wordF k).size → bat (wordF k) i ∈ letters := by
  have h : k = 1 ∨ k = 2 ∨ k = 3 ∨ k = 4 ∨ k = 5 ∨ k = 6 ∨ k = 7 ∨ k = 8 ∨ k = 9 ∨ k = 10 ∨ k = 11 ∨ k = 12 ∨ k = 13 ∨ k = 14 ∨ k = 15 ∨ k = 16 := by omega
  rcases h with rfl | rfl | rfl | rfl | rfl | rfl | rfl | rfl | rfl | rfl | rfl | rfl | rfl | rfl | rfl | rfl <;> decide
def lettersG (m : Ms) (u : ByteArray) : Nat → Ms
  | 0 => { Ms.zero with kind := m.kind }
  | i + 1 => setL m (lettersG m u i) (bat u i)
def namedF (m : Ms) : Ms := lettersG m (wordF m.kind) (wordF m.kind).size
end Go.Proofs.YtnmjdoaogdaehaaGreat
namespace Go.Proofs.YtnmjdoaogdaehaaGreat
open Go Go.Sep Go.Proofs
set_option maxRecDepth 10000
set_option maxHeartbeats 40000000
set_option synthInstance.maxSize 2000
set_option linter.unusedSimpArgs false
set_option linter.unusedVariables false
/-! named -/
theorem named_spec (m : Ms) (h0 : 1 ≤ m.kind) (h1 : m.kind ≤ 16) : Con Tryz.prog 102 #[.agg m.row.toArray] [] fun v A => v = .agg (namedF m).row.toArray ∧ A = [] := by
  have hw := words_at h0 h1
  have hok := words_ok h0 h1
  have hn : namedF m = lettersG m (wordF m.kind) (wordF m.kind).size := rfl
  refine Con.intro (vs := [_]) Tryz.func102 rfl Tryz.ntmps102 rfl (fun B => ?_)
  repeat' (first | refine Ops.mkF rfl rfl rfl rfl rfl ?_ | refine Cd.seq ?_ | refine Cd.reg ?_ | refine Ops.box rfl rfl rfl rfl (noPd rfl) (fun b => ?_) | refine Ops.alloc rfl rfl rfl (noPd rfl) (fun b => ?_))
  rename_i mb
  rename Nat => zb
  refine Ops.bldA (allL mb) rfl rfl rfl (by kernel_rfl) rfl ?_
  repeat' (first | refine Ops.alloc rfl rfl rfl (noPd rfl) (fun b => ?_))
  refine Ops.stN (L' := allL mb) (hs := SetS.all (by kernel_rfl)) rfl rfl rfl rfl (by kernel_rfl) (by kernel_rfl) (noPd rfl) ?_
  repeat' (first | refine Cd.seq ?_ | refine Cd.reg ?_)
  refine Ops.bldA wordsL rfl rfl rfl (by kernel_rfl) rfl ?_
  repeat' (first | refine Ops.alloc rfl rfl rfl (noPd rfl) (fun b => ?_))
  refine Ops.stN (L' := wordsL) (hs := SetS.all (by kernel_rfl)) rfl rfl rfl rfl (by kernel_rfl) (by kernel_rfl) (noPd rfl) ?_
  repeat' (first | refine Ops.ixA rfl rfl rfl rfl (by omega) (by omega) rfl ?_ | refine Cd.seq ?_ | refine Cd.reg ?_ | refine Ops.fa0 rfl rfl rfl rfl ?_ | refine Ops.ld1 rfl rfl rfl rfl rfl ?_ | refine Ops.bld rfl rfl rfl rfl ?_ | refine Ops.alloc rfl rfl rfl (noPd rfl) (fun b => ?_) | refine Ops.stN rfl rfl rfl rfl rfl rfl (noPd rfl) ?_)
  rename_i ab wb
  rename Nat => nb
  rw [hn]
  clear hn
  refine Ops.ld1 (v := .string (wordF m.kind)) rfl rfl rfl (by rw [show 0 + m.kind.toNat * 1 = m.kind.toNat from by omega]; exact hw) rfl ?_
  clear hw
  refine Ops.cvSB rfl rfl rfl rfl (noPd rfl) (fun g c L f hL => ?_)
  obtain ⟨hsz, hlet⟩ := hok
  generalize wordF m.kind = u at hL hsz hlet ⊢
  repeat' (first | refine Ops.nil ?_ | refine Ops.mv rfl rfl rfl rfl ?_ | refine Ops.lenS rfl rfl rfl rfl ?_ | refine Cd.block ?_)
  refine Cd.loopK (σ := Nat) (fun i => i ≤ u.size) (fun i => [(2, ptr zb), (3, ptr ab), (5, ptr nb), (26, .slice (some ⟨g, 0, none⟩) u.size c), (27, .int .i64 ((u.size : Nat) : Int)), (28, .int .i64 ((i : Nat) : Int))]) (fun i => [MgB nb (lettersG m u i).row, (g, clX L 5 f), (ab, cl (allL mb) 256), MgB zb [.int .i64 0, .int .i64 0, .int .i64 0, .int .i64 0, .int .i64 0, .int .i64 0, .int .i64 0, .int .i64 0, .int .u64 0, .string ⟨#[]⟩, .string ⟨#[]⟩], MgB mb m.row]) (fun i => u.size - i) 0 (Nat.zero_le _) ⟨rfl, rfl, rfl, rfl, rfl, rfl, trivial⟩ (fun w h => by
    have h2 : Sat _ [MgB nb [.int .i64 m.kind, .int .i64 0, .int .i64 0, .int .i64 0, .int .i64 0, .int .i64 0, .int .i64 0, .int .i64 0, .int .u64 0, .string ⟨#[]⟩, .string ⟨#[]⟩], (g, clX L 5 f), (ab, cl (allL mb) 256), MgB zb [.int .i64 0, .int .i64 0, .int .i64 0, .int .i64 0, .int .i64 0, .int .i64 0, .int .i64 0, .int .i64 0, .int .u64 0, .string ⟨#[]⟩, .string ⟨#[]⟩], MgB mb m.row] w := h.split
    exact h2) (fun i hi => ?_)
  by_cases hlt : i < u.size
  · have hlt' : ((i : Nat) : Int) < ((u.size : Nat) : Int) := by omega
    have hv : L[((i : Nat) : Int).toNat * 1]? = some (.int .u8 ((bat u i : Nat) : Int)) := by
      rw [show ((i : Nat) : Int).toNat * 1 = i from by omega]
      exact hL i _ (bv_bat (s := u) (i := i) hlt)
    have hin := hlet i hlt
    have hstep : lettersG m u (i + 1) = setL m (lettersG m u i) (bat u i) := rfl
    repeat' (first | refine Cd.seq ?_ | refine Cd.reg ?_ | refine Ops.bin rfl rfl rfl rfl rfl ?_ | refine Cd.block ?_ | refine Cd.skip (Cd.next ?_) | refine Ops.ixa0 rfl rfl rfl rfl (by omega) (by omega) rfl ?_ | refine Cd.condT rfl (by first | rfl | assumption | (simp only [decide_eq_true_eq, decide_eq_false_iff_not, Bool.not_eq_true', Bool.not_eq_false', Bool.not_eq_eq_eq_not, Bool.not_true, Bool.not_false, beq_iff_eq, beq_eq_false_iff_ne, ne_eq, decide_eq_decide, eq_self, true_iff, iff_true, not_true_eq_false, not_false_eq_true]; first | done | omega)) ?_)
    refine Ops.ldX rfl rfl rfl hv rfl ?_
    repeat' (first | refine Cd.reg ?_ | refine Ops.mv rfl rfl rfl rfl ?_ | refine Ops.asg rfl rfl rfl rfl ?_)
    generalize bat u i = x at hin hstep ⊢
    simp only [letters, List.mem_cons, List.not_mem_nil, or_false] at hin
    rcases hin with rfl | rfl | rfl | rfl | rfl | rfl | rfl | rfl | rfl
    · repeat' (first | refine Ops.ixA rfl rfl rfl rfl (by omega) (by omega) rfl ?_ | refine Ops.ld1 rfl rfl rfl rfl rfl ?_)
      refine Ops.callV (fi := []) (ca := [ptr mb]) (vs := [ptr nb]) (named_115 nb mb (lettersG m u i) m) rfl (noPd rfl) rfl rfl rfl rfl (fun v A' hR => ?_)
      obtain rfl := hR
      repeat' (first | refine Ops.nilN (inB (Cd.next ?_)) | refine Cd.reg ?_ | refine Ops.mv rfl rfl rfl rfl ?_ | refine Ops.addI rfl rfl rfl rfl (by omega) (by omega) rfl ?_)
      exact Ops.nilN (round_end (i + 1 : Nat) (by show i + 1 ≤ u.size; omega) (by show u.size - (i + 1) < u.size - i; omega) ⟨rfl, rfl, rfl, rfl, rfl, rfl, trivial⟩ (fun w h => by
        have h2 : Sat _ [MgB nb (setL m (lettersG m u i) 115).row, (g, clX L 5 f), (ab, cl (allL mb) 256), MgB zb [.int .i64 0, .int .i64 0, .int .i64 0, .int .i64 0, .int .i64 0, .int .i64 0, .int .i64 0, .int .i64 0, .int .u64 0, .string ⟨#[]⟩, .string ⟨#[]⟩], MgB mb m.row] w := h.split
        rw [← hstep] at h2
        exact h2))
    · repeat' (first | refine Ops.ixA rfl rfl rfl rfl (by omega) (by omega) rfl ?_ | refine Ops.ld1 rfl rfl rfl rfl rfl ?_)
      refine Ops.callV (fi := []) (ca := [ptr mb]) (vs := [ptr nb]) (named_110 nb mb (lettersG m u i) m) rfl (noPd rfl) rfl rfl rfl rfl (fun v A' hR => ?_)
      obtain rfl := hR
      repeat' (first | refine Ops.nilN (inB (Cd.next ?_)) | refine Cd.reg ?_ | refine Ops.mv rfl rfl rfl rfl ?_ | refine Ops.addI rfl rfl rfl rfl (by omega) (by omega) rfl ?_)
      exact Ops.nilN (round_end (i + 1 : Nat) (by show i + 1 ≤ u.size; omega) (by show u.size - (i + 1) < u.size - i; omega) ⟨rfl, rfl, rfl, rfl, rfl, rfl, trivial⟩ (fun w h => by
        have h2 : Sat _ [MgB nb (setL m (lettersG m u i) 110).row, (g, clX L 5 f), (ab, cl (allL mb) 256), MgB zb [.int .i64 0, .int .i64 0, .int .i64 0, .int .i64 0, .int .i64 0, .int .i64 0, .int .i64 0, .int .i64 0, .int .u64 0, .string ⟨#[]⟩, .string ⟨#[]⟩], MgB mb m.row] w := h.split
        rw [← hstep] at h2
        exact h2))
    · repeat' (first | refine Ops.ixA rfl rfl rfl rfl (by omega) (by omega) rfl ?_ | refine Ops.ld1 rfl rfl rfl rfl rfl ?_)
      refine Ops.callV (fi := []) (ca := [ptr mb]) (vs := [ptr nb]) (named_106 nb mb (lettersG m u i) m) rfl (noPd rfl) rfl rfl rfl rfl (fun v A' hR => ?_)
      obtain rfl := hR
      repeat' (first | refine Ops.nilN (inB (Cd.next ?_)) | refine Cd.reg ?_ | refine Ops.mv rfl rfl rfl rfl ?_ | refine Ops.addI rfl rfl rfl rfl (by omega) (by omega) rfl ?_)
      exact Ops.nilN (round_end (i + 1 : Nat) (by show i + 1 ≤ u.size; omega) (by show u.size - (i + 1) < u.size - i; omega) ⟨rfl, rfl, rfl, rfl, rfl, rfl, trivial⟩ (fun w h => by
        have h2 : Sat _ [MgB nb (setL m (lettersG m u i) 106).row, (g, clX L 5 f), (ab, cl (allL mb) 256), MgB zb [.int .i64 0, .int .i64 0, .int .i64 0, .int .i64 0, .int .i64 0, .int .i64 0, .int .i64 0, .int .i64 0, .int .u64 0, .string ⟨#[]⟩, .string ⟨#[]⟩], MgB mb m.row] w := h.split
        rw [← hstep] at h2
        exact h2))
    · repeat' (first | refine Ops.ixA rfl rfl rfl rfl (by omega) (by omega) rfl ?_ | refine Ops.ld1 rfl rfl rfl rfl rfl ?_)
      refine Ops.callV (fi := []) (ca := [ptr mb]) (vs := [ptr nb]) (named_98 nb mb (lettersG m u i) m) rfl (noPd rfl) rfl rfl rfl rfl (fun v A' hR => ?_)
      obtain rfl := hR
      repeat' (first | refine Ops.nilN (inB (Cd.next ?_)) | refine Cd.reg ?_ | refine Ops.mv rfl rfl rfl rfl ?_ | refine Ops.addI rfl rfl rfl rfl (by omega) (by omega) rfl ?_)
      exact Ops.nilN (round_end (i + 1 : Nat) (by show i + 1 ≤ u.size; omega) (by show u.size - (i + 1) < u.size - i; omega) ⟨rfl, rfl, rfl, rfl, rfl, rfl, trivial⟩ (fun w h => by
        have h2 : Sat _ [MgB nb (setL m (lettersG m u i) 98).row, (g, clX L 5 f), (ab, cl (allL mb) 256), MgB zb [.int .i64 0, .int .i64 0, .int .i64 0, .int .i64 0, .int .i64 0, .int .i64 0, .int .i64 0, .int .i64 0, .int .u64 0, .string ⟨#[]⟩, .string ⟨#[]⟩], MgB mb m.row] w := h.split
        rw [← hstep] at h2
        exact h2))
    · repeat' (first | refine Ops.ixA rfl rfl rfl rfl (by omega) (by omega) rfl ?_ | refine Ops.ld1 rfl rfl rfl rfl rfl ?_)
      refine Ops.callV (fi := []) (ca := [ptr mb]) (vs := [ptr nb]) (named_105 nb mb (lettersG m u i) m) rfl (noPd rfl) rfl rfl rfl rfl (fun v A' hR => ?_)
      obtain rfl := hR
      repeat' (first | refine Ops.nilN (inB (Cd.next ?_)) | refine Cd.reg ?_ | refine Ops.mv rfl rfl rfl rfl ?_ | refine Ops.addI rfl rfl rfl rfl (by omega) (by omega) rfl ?_)
      exact Ops.nilN (round_end (i + 1 : Nat) (by show i + 1 ≤ u.size; omega) (by show u.size - (i + 1) < u.size - i; omega) ⟨rfl, rfl, rfl, rfl, rfl, rfl, trivial⟩ (fun w h => by
        have h2 : Sat _ [MgB nb (setL m (lettersG m u i) 105).row, (g, clX L 5 f), (ab, cl (allL mb) 256), MgB zb [.int .i64 0, .int .i64 0, .int .i64 0, .int .i64 0, .int .i64 0, .int .i64 0, .int .i64 0, .int .i64 0, .int .u64 0, .string ⟨#[]⟩, .string ⟨#[]⟩], MgB mb m.row] w := h.split
        rw [← hstep] at h2
        exact h2))
    · repeat' (first | refine Ops.ixA rfl rfl rfl rfl (by omega) (by omega) rfl ?_ | refine Ops.ld1 rfl rfl rfl rfl rfl ?_)
      refine Ops.callV (fi := []) (ca := [ptr mb]) (vs := [ptr nb]) (named_99 nb mb (lettersG m u i) m) rfl (noPd rfl) rfl rfl rfl rfl (fun v A' hR => ?_)
      obtain rfl := hR
      repeat' (first | refine Ops.nilN (inB (Cd.next ?_)) | refine Cd.reg ?_ | refine Ops.mv rfl rfl rfl rfl ?_ | refine Ops.addI rfl rfl rfl rfl (by omega) (by omega) rfl ?_)
      exact Ops.nilN (round_end (i + 1 : Nat) (by show i + 1 ≤ u.size; omega) (by show u.size - (i + 1) < u.size - i; omega) ⟨rfl, rfl, rfl, rfl, rfl, rfl, trivial⟩ (fun w h => by
        have h2 : Sat _ [MgB nb (setL m (lettersG m u i) 99).row, (g, clX L 5 f), (ab, cl (allL mb) 256), MgB zb [.int .i64 0, .int .i64 0, .int .i64 0, .int .i64 0, .int .i64 0, .int .i64 0, .int .i64 0, .int .i64 0, .int .u64 0, .string ⟨#[]⟩, .string ⟨#[]⟩], MgB mb m.row] w := h.split
        rw [← hstep] at h2
        exact h2))
    · repeat' (first | refine Ops.ixA rfl rfl rfl rfl (by omega) (by omega) rfl ?_ | refine Ops.ld1 rfl rfl rfl rfl rfl ?_)
      refine Ops.callV (fi := []) (ca := [ptr mb]) (vs := [ptr nb]) (named_114 nb mb (lettersG m u i) m) rfl (noPd rfl) rfl rfl rfl rfl (fun v A' hR => ?_)
      obtain rfl := hR
      repeat' (first | refine Ops.nilN (inB (Cd.next ?_)) | refine Cd.reg ?_ | refine Ops.mv rfl rfl rfl rfl ?_ | refine Ops.addI rfl rfl rfl rfl (by omega) (by omega) rfl ?_)
      exact Ops.nilN (round_end (i + 1 : Nat) (by show i + 1 ≤ u.size; omega) (by show u.size - (i + 1) < u.size - i; omega) ⟨rfl, rfl, rfl, rfl, rfl, rfl, trivial⟩ (fun w h => by
        have h2 : Sat _ [MgB nb (setL m (lettersG m u i) 114).row, (g, clX L 5 f), (ab, cl (allL mb) 256), MgB zb [.int .i64 0, .int .i64 0, .int .i64 0, .int .i64 0, .int .i64 0, .int .i64 0, .int .i64 0, .int .i64 0, .int .u64 0, .string ⟨#[]⟩, .string ⟨#[]⟩], MgB mb m.row] w := h.split
        rw [← hstep] at h2
        exact h2))
    · repeat' (first | refine Ops.ixA rfl rfl rfl rfl (by omega) (by omega) rfl ?_ | refine Ops.ld1 rfl rfl rfl rfl rfl ?_)
      refine Ops.callV (fi := []) (ca := [ptr mb]) (vs := [ptr nb]) (named_116 nb mb (lettersG m u i) m) rfl (noPd rfl) rfl rfl rfl rfl (fun v A' hR => ?_)
      obtain rfl := hR
      repeat' (first | refine Ops.nilN (inB (Cd.next ?_)) | refine Cd.reg ?_ | refine Ops.mv rfl rfl rfl rfl ?_ | refine Ops.addI rfl rfl rfl rfl (by omega) (by omega) rfl ?_)
      exact Ops.nilN (round_end (i + 1 : Nat) (by show i + 1 ≤ u.size; omega) (by show u.size - (i + 1) < u.size - i; omega) ⟨rfl, rfl, rfl, rfl, rfl, rfl, trivial⟩ (fun w h => by
        have h2 : Sat _ [MgB nb (setL m (lettersG m u i) 116).row, (g, clX L 5 f), (ab, cl (allL mb) 256), MgB zb [.int .i64 0, .int .i64 0, .int .i64 0, .int .i64 0, .int .i64 0, .int .i64 0, .int .i64 0, .int .i64 0, .int .u64 0, .string ⟨#[]⟩, .string ⟨#[]⟩], MgB mb m.row] w := h.split
        rw [← hstep] at h2
        exact h2))
    · repeat' (first | refine Ops.ixA rfl rfl rfl rfl (by omega) (by omega) rfl ?_ | refine Ops.ld1 rfl rfl rfl rfl rfl ?_)
      refine Ops.callV (fi := []) (ca := [ptr mb]) (vs := [ptr nb]) (named_112 nb mb (lettersG m u i) m) rfl (noPd rfl) rfl rfl rfl rfl (fun v A' hR => ?_)
      obtain rfl := hR
      repeat' (first | refine Ops.nilN (inB (Cd.next ?_)) | refine Cd.reg ?_ | refine Ops.mv rfl rfl rfl rfl ?_ | refine Ops.addI rfl rfl rfl rfl (by omega) (by omega) rfl ?_)
      exact Ops.nilN (round_end (i + 1 : Nat) (by show i + 1 ≤ u.size; omega) (by show u.size - (i + 1) < u.size - i; omega) ⟨rfl, rfl, rfl, rfl, rfl, rfl, trivial⟩ (fun w h => by
        have h2 : Sat _ [MgB nb (setL m (lettersG m u i) 112).row, (g, clX L 5 f), (ab, cl (allL mb) 256), MgB zb [.int .i64 0, .int .i64 0, .int .i64 0, .int .i64 0, .int .i64 0, .int .i64 0, .int .i64 0, .int .i64 0, .int .u64 0, .string ⟨#[]⟩, .string ⟨#[]⟩], MgB mb m.row] w := h.split
        rw [← hstep] at h2
        exact h2))
  · have hlt' : ¬ ((i : Nat) : Int) < ((u.size : Nat) : Int) := by omega
    have he : i = u.size := by omega
    subst he
    repeat' (first | refine Cd.seq ?_ | refine Cd.reg ?_ | refine Ops.nil ?_ | refine Ops.ldN rfl rfl rfl rfl ?_ | refine Ops.bin rfl rfl rfl rfl rfl ?_ | refine Ops.stN rfl rfl rfl rfl rfl rfl (noPd rfl) ?_ | refine Cd.exit (Cd.next (Q' := fun _ _ _ => True) ?_) | refine Cd.condF rfl (by first | rfl | assumption | (simp only [decide_eq_true_eq, decide_eq_false_iff_not, Bool.not_eq_true', Bool.not_eq_false', Bool.not_eq_eq_eq_not, Bool.not_true, Bool.not_false, beq_iff_eq, beq_eq_false_iff_ne, ne_eq, decide_eq_decide, eq_self, true_iff, iff_true, not_true_eq_false, not_false_eq_true]; first | done | omega)) ?_)
    exact Cd.ret (ret1 (A' := []) rfl (Res.cellN rfl) (fun _ h => h.split) ⟨rfl, rfl⟩)
end Go.Proofs.YtnmjdoaogdaehaaGreat
namespace Go.Proofs.YtnmjdoaogdaehaaGreat
open Go Go.Sep Go.Proofs
set_option maxRecDepth 10000
set_option maxHeartbeats 40000000
set_option synthInstance.maxSize 2000
set_option linter.unusedSimpArgs false
set_option linter.unusedVariables false
/-! the field 'result' -/
/-! wire.Check -/
theorem Con.insert1 {P : Program} {f : FuncId} {args : Array Value} {x : Blk} {H : List Blk} {φ : Value → Prop} (G0 : List Blk) (h : Con P f args (x :: H) fun v A => φ v ∧ A = x :: H) : Con P f args (x :: (G0 ++ H)) fun v A => φ v ∧ A = x :: (G0 ++ H) :=
  ((h.beside (F := G0)).permIn (List.Perm.cons x List.perm_append_comm)).permOut fun v A' hR => by
    obtain ⟨A2, ⟨hφ, rfl⟩, rfl⟩ := hR
    exact ⟨_, ⟨hφ, rfl⟩, List.Perm.cons x List.perm_append_comm⟩
theorem Con.append1 {P : Program} {f : FuncId} {args : Array Value} {x : Blk} {H : List Blk} {φ : Value → Prop} (G0 : List Blk) (h : Con P f args (x :: H) fun v A => φ v ∧ A = x :: H) : Con P f args (x :: (H ++ G0)) fun v A => φ v ∧ A = x :: (H ++ G0) :=
  (h.beside (F := G0)).mono fun v A' hR => by
    obtain ⟨A2, ⟨hφ, rfl⟩, rfl⟩ := hR
    exact ⟨hφ, rfl⟩
theorem FdsA.len {fds : List Fd} {rows : List (List Value)} {G : List Blk} (h : FdsA fds rows G) : rows.length = fds.length := by
  induction h with
  | nil => rfl
  | cons _ _ ih => simp [ih]
theorem FdsA.ok {fds : List Fd} {rows : List (List Value)} {G : List Blk} (h : FdsA fds rows G) : RowsOk 3 rows := by
  induction h with
  | nil => exact RowsOk.nil
  | cons h1 _ ih =>
    obtain ⟨⟨f1, c1, rfl, _⟩, ⟨f2, c2, rfl, _⟩, ⟨f3, c3, rfl, _⟩⟩ := h1
    exact (RowsOk.one rfl rfl).app ih
theorem FdsA.may {fds : List Fd} {rows : List (List Value)} {G : List Blk} (h : FdsA fds rows G) : ∀ {i : Nat} {fd : Fd}, fds[i]? = some fd → ∃ f1 c1 f2 c2 f3 c3, rows[i]? = some [.func (.func f1) #[] (c1 : List Value).toArray, .func (.func f2) #[] (c2 : List Value).toArray, .func (.func f3) #[] (c3 : List Value).toArray] ∧ FnOk Tryz.prog f1 ∧ FnOk Tryz.prog f2 ∧
    (∀ mb m, MsOk m → Con Tryz.prog f1 ([ptr mb] ++ c1).toArray (MgB mb m.row :: G) fun v A => v = .bool (fd.may m) ∧ A = MgB mb m.row :: G) ∧
    (∀ mb m, MsOk m → fd.may m = true → Con Tryz.prog f2 ([ptr mb] ++ c2).toArray (MgB mb m.row :: G) fun v A => v = .string (fd.lay m) ∧ A = MgB mb m.row :: G) := by
  induction h with
  | nil => intro i fd hi; simp at hi
  | @cons fd0 fds v1 v2 v3 rows G0 H h1 h2 ih =>
    intro i fd hi
    cases i with
    | zero =>
      simp only [List.getElem?_cons_zero, Option.some.injEq] at hi
      subst hi
      obtain ⟨⟨f1, c1, rfl, k1, q1⟩, ⟨f2, c2, rfl, k2, q2⟩, ⟨f3, c3, rfl, _⟩⟩ := h1
      exact ⟨f1, c1, f2, c2, f3, c3, rfl, k1, k2, fun mb m hm => Con.append1 H (q1 mb m hm), fun mb m hm hy => Con.append1 H (q2 mb m hm hy)⟩
    | succ i =>
      simp only [List.getElem?_cons_succ] at hi
      obtain ⟨f1, c1, f2, c2, f3, c3, hr, k1, k2, q1, q2⟩ := ih hi
      exact ⟨f1, c1, f2, c2, f3, c3, by simpa using hr, k1, k2, fun mb m hm => Con.insert1 G0 (q1 mb m hm), fun mb m hm hy => Con.insert1 G0 (q2 mb m hm hy)⟩
def msEq (a b : Ms) : Bool := decide (a.kind = b.kind) && (decide (a.session = b.session) && (decide (a.number = b.number) && (decide (a.job = b.job) && (decide (a.badge = b.badge) && (decide (a.index = b.index) && (decide (a.count = b.count) && (decide (a.rcode = b.rcode) && (decide (a.rbits = b.rbits) && true) && (decide (a.text = b.text) && (decide (a.prog = b.prog) && true)))))))))
def okF (m : Ms) : Bool := msEq (namedF m) m && !(decide (m.kind = 6) && decide (m.index = 0) && !decide (m.text = ⟨#[]⟩))
def wcheckF (m : Ms) : Int := if m.kind < 1 ∨ 16 < m.kind then 70 else if okF m && (fieldsF m.kind).all (fun fd => fd.may m) then 0 else 71
end Go.Proofs.YtnmjdoaogdaehaaGreat
