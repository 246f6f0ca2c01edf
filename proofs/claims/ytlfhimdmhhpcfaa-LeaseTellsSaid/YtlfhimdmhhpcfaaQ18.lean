/- Proved: LeaseTells returns true whatever the input, and the input reads as it did (Rows.LeaseTellsSaid). Conditions: none. -/
import Derived.Test.YtlfhimdmhhpcfaaQ17
import Derived.Test.YtlfhimdmhhpcfaaRows
import Derived.WalkKit
import Derived.ProofKit
import Derived.OpenShut
import Derived.ShutString
import Derived.ChangeOld
import Derived.Below
import Derived.SizedLaws
namespace Go.Proofs.Ytlfhimdmhhpcfaa.leaseTellsDone
open Go Go.Sep Go.Proofs
open Go.ChangeShapes Go.WideShapes Go.ChangeAt Go.RowKit
set_option linter.unusedVariables false
set_option linter.unusedSimpArgs false
set_option synthInstance.maxSize 2000

theorem own : ownKnob Try.prog.godebug = none := by kernel_rfl
theorem laidOut : laidOutB Try.prog = true := by kernel_rfl
theorem nums_of {w : World} {a : Option Addr} {len : Nat} (h : InRows w 1 [.int .i64] a len) : ∃ ds, Nums (baseOf w) a len ds := by
  obtain ⟨l, hl, hp⟩ := exists_list (α := Int) (p := fun i s => ∃ b off, a = some ⟨b, off, none⟩ ∧ ∀ (A : List Blk), Rd (baseOf w) A b (off + i * 1) (.int .i64 s)) len (fun i hi => by
    obtain ⟨b, o, cs, rfl, hlen, hall, hc⟩ := h i hi
    match cs, hlen with
    | [v0], _ =>
      obtain ⟨⟨s, rfl, _⟩, _⟩ := hall
      exact ⟨s, b, o, rfl, fun A => rd_base (hc 0 _ rfl)⟩)
  exact ⟨l, hl, hp⟩

theorem intBytes : Try.prog.bytesOf 3 = 8 := by kernel_rfl
set_option maxRecDepth 100000 in
theorem lifted (os : Os) (started : os.Started) (H : Type) (enc : TypeId × Value → H) :
    ReturnsInHanded {} Try.checked os 3 .any (Rows.leaseTellsSpec.pre6 enc Try.prog Try.f3 Rows.leaseTellsRow.domain false) (Rows.leaseTellsSpec.post enc Try.prog Try.f3 false true false false) := by
  refine returnsInHanded_of_change_sized (C := Try.checked) own started (by kernel_rfl) Try.func3
    (ChangeSpec.witness6 (enc := enc) (C := Try.checked) false ⟨#[], #[.slice none 0 0, .int .i64 0], []⟩ 8 (by kernel_rfl) (by kernel_rfl) (by kernel_rfl) (by kernel_rfl)) ?_
  intro W base args ds gs before hval0 hW hcnd hsz _
  have hval : ∀ (j : Nat) t v, Try.f3.params[j]? = some t → args[j]? = some v → Value.okWide Try.prog W .any base t v := hval0
  have hW' := hW
  obtain ⟨p, q, hA0, hV, rfl, hfz, hnd⟩ := hW
  have hA : DataW.TrodAll enc Try.prog W 0 (fun _ => true) true Try.f3.params.toList args.toList ds p := hA0
  rw [Try.params3] at hA hval
  obtain ⟨v0, vs0, d0, ds0, p0, q0, hargs, rfl, rfl, h0, r0⟩ := trodAll_cons hA
  obtain ⟨v1, vs1, d1, ds1, p1, q1, rfl, rfl, rfl, h1, r1⟩ := trodAll_cons r0
  obtain ⟨rfl, rfl, rfl⟩ := trodAll_nil r1
  obtain rfl : args = #[v0, v1] := by cases args; simp_all
  obtain ⟨rfl, rfl⟩ := trodVars_none hV
  obtain ⟨a0, len0, cap0, rfl⟩ := okWide_slice Try.underlying22 (hval 0 22 v0 rfl rfl)
  have k0 := h0
  have lt0 : ∀ x ∈ p0, x.block < W.heap.size := by obtain ⟨m, hm⟩ := k0; exact DataW.trod_lt m _ _ _ hm
  obtain ⟨hrows, hlen⟩ : InRows W 1 [.int .i64] a0 len0 ∧ (d0 = .nil ∧ len0 = 0 ∨ ∃ el sp, d0 = .slice el sp ∧ el.length = len0 ∧ len0 ≤ el.length + sp.length) := by
    obtain ⟨fuel, hf⟩ := h0
    exact in_rows Try.underlying22 inferInstance inferInstance (by decide) hf (fun _ => rfl)
  obtain ⟨a1, rfl, rfl, rfl, w1⟩ := open_int Try.underlying3 (hval 1 3 v1 rfl rfl) h1
  obtain ⟨ops, hs⟩ := nums_of hrows
  have hmax : len0 ≤ 18000000000000 := by
    rcases hlen with ⟨_, rfl⟩ | ⟨el, sp, rfl, rfl, _⟩
    · omega
    · have := sized_slice hsz (j := 0) (t := 22) (e := 3) rfl rfl Try.underlying22
      rw [show Try.checked.prog.bytesOf 3 = 8 from intBytes] at this
      have h2 := reachBytes_lt
      omega
  clear hA0 hval0
  refine (lease_tells W a0 len0 cap0 a1 ops hs hmax).mono fun e W' ⟨he, bel⟩ => ?_
  subst he
  exact ⟨_, rfl, _, _, _, [], _, [], hW', trodAll_mk1 (shut_bool Try.underlying4 _), (trodAll_cons_mk (Below.trod laidOut (by kernel_rfl) (of_decide_eq_true (by kernel_rfl)) k0 bel lt0) (trodAll_cons_mk (shut_int Try.underlying3 w1) trodAll_mk0)), rfl, bel.frame _, fun h => by cases h⟩

theorem proved : Rows.LeaseTellsSaid :=
  OpenClaim.holds_of_wide 3 Try.f3 rfl rfl rfl rfl rfl rfl rfl ⟨rfl, rfl, rfl, rfl, rfl⟩ rfl rfl rfl rfl rfl (by kernel_rfl) Try.func3 (by kernel_rfl)
    (of_decide_eq_true (by kernel_rfl)) (by unfold Func.isWrapper; first | (rw [if_pos (by decide +kernel)]; kernel_rfl) | (rw [if_neg (by decide +kernel)]; exact ⟨rfl, rfl⟩))
    (fun os started H enc _ => lifted os started H enc)
#print axioms proved
end Go.Proofs.Ytlfhimdmhhpcfaa.leaseTellsDone
