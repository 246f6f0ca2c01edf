/- Proved: SessionOnce returns true whatever the input, and the input reads as it did (Rows.SessionOnceSaid). Conditions: none. -/
import Derived.Test.YtdfimjgbdipnjaaS30
import Derived.Test.YtdfimjgbdipnjaaRows
import Derived.WalkKit
import Derived.ProofKit
import Derived.OpenShut
import Derived.ShutString
import Derived.ChangeOld
import Derived.Below
import Derived.SizedLaws
namespace Go.Proofs.Ytdfimjgbdipnjaa.sessionOnceDone
open Go Go.Sep Go.Proofs
open Go.ChangeShapes Go.WideShapes Go.ChangeAt Go.RowKit
set_option linter.unusedVariables false
set_option linter.unusedSimpArgs false
set_option synthInstance.maxSize 2000

theorem own : ownKnob Try.prog.godebug = none := by kernel_rfl
theorem laidOut : laidOutB Try.prog = true := by kernel_rfl
theorem opBytes : Try.prog.bytesOf 78 = 16 := by kernel_rfl

theorem script_of {w : World} {a : Option Addr} {len : Nat} (h : InRows w 2 [.int .i64, .int .i64] a len) :
    ∃ ops, AScript (baseOf w) a len ops := by
  obtain ⟨l, hl, hp⟩ := exists_list (α := AOp) (p := fun i o => ∃ b off, a = some ⟨b, off, none⟩ ∧ ∀ (A : List Blk) (j : Nat) (u : Value), o.row[j]? = some u → Rd (baseOf w) A b (off + i * 2 + j) u) len (fun i hi => by
    obtain ⟨b, o, cs, rfl, hlen, hall, hc⟩ := h i hi
    match cs, hlen with
    | [v0, v1], _ =>
      obtain ⟨⟨n0, rfl, _⟩, ⟨n1, rfl, _⟩, _⟩ := hall
      exact ⟨⟨n0, n1⟩, b, o, rfl, fun A j u hu => rd_base (hc j u hu)⟩)
  exact ⟨l, hl, hp⟩

set_option maxRecDepth 100000 in
theorem lifted (os : Os) (started : os.Started) (H : Type) (enc : TypeId × Value → H) :
    ReturnsInHanded {} Try.checked os 6 .any (Rows.sessionOnceSpec.pre6 enc Try.prog Try.f6 Rows.sessionOnceRow.domain false) (Rows.sessionOnceSpec.post enc Try.prog Try.f6 false true false false) := by
  refine returnsInHanded_of_change_sized (C := Try.checked) own started (by kernel_rfl) Try.func6
    (ChangeSpec.witness6 (enc := enc) (C := Try.checked) false ⟨#[], #[.slice none 0 0], []⟩ 8 (by kernel_rfl) (by kernel_rfl) (by kernel_rfl) (by kernel_rfl)) ?_
  intro W base args ds gs before hval0 hW hcnd hsz _
  have hval : ∀ (j : Nat) t v, Try.f6.params[j]? = some t → args[j]? = some v → Value.okWide Try.prog W .any base t v := hval0
  have hW' := hW
  obtain ⟨p, q, hA0, hV, rfl, hfz, hnd⟩ := hW
  have hA : DataW.TrodAll enc Try.prog W 0 (fun _ => true) true Try.f6.params.toList args.toList ds p := hA0
  rw [Try.params6] at hA hval
  obtain ⟨v0, vs0, d0, ds0, p0, q0, hargs, rfl, rfl, h0, r0⟩ := trodAll_cons hA
  obtain ⟨rfl, rfl, rfl⟩ := trodAll_nil r0
  obtain rfl : args = #[v0] := by cases args; simp_all
  obtain ⟨rfl, rfl⟩ := trodVars_none hV
  obtain ⟨a0, len0, cap0, rfl⟩ := okWide_slice Try.underlying70 (hval 0 70 v0 rfl rfl)
  have k0 := h0
  have lt0 : ∀ x ∈ p0, x.block < W.heap.size := by obtain ⟨m, hm⟩ := k0; exact DataW.trod_lt m _ _ _ hm
  obtain ⟨hrows, hlen⟩ : InRows W 2 [.int .i64, .int .i64] a0 len0 ∧ (d0 = .nil ∧ len0 = 0 ∨ ∃ el sp, d0 = .slice el sp ∧ el.length = len0 ∧ len0 ≤ el.length + sp.length) := by
    obtain ⟨fuel, hf⟩ := h0
    exact in_rows Try.underlying70 inferInstance inferInstance (by decide) hf (fun _ => rfl)
  obtain ⟨ops, hs⟩ := script_of hrows
  have hmax : len0 ≤ 9000000000000 := by
    rcases hlen with ⟨_, rfl⟩ | ⟨el, sp, rfl, rfl, _⟩
    · omega
    · have := sized_slice hsz (j := 0) (t := 70) (e := 78) rfl rfl Try.underlying70
      rw [show Try.checked.prog.bytesOf 78 = 16 from opBytes] at this
      have h2 := reachBytes_lt
      omega
  clear hA0 hval0
  refine (session_once W a0 len0 cap0 ops hs).mono fun e W' ⟨he, bel⟩ => ?_
  subst he
  exact ⟨_, rfl, _, _, _, [], _, [], hW', trodAll_mk1 (shut_bool Try.underlying4 _), (trodAll_cons_mk (Below.trod laidOut (by kernel_rfl) (of_decide_eq_true (by kernel_rfl)) k0 bel lt0) trodAll_mk0), rfl, bel.frame _, fun h => by cases h⟩

theorem proved : Rows.SessionOnceSaid :=
  OpenClaim.holds_of_wide 6 Try.f6 rfl rfl rfl rfl rfl rfl rfl ⟨rfl, rfl, rfl, rfl, rfl⟩ rfl rfl rfl rfl rfl (by kernel_rfl) Try.func6 (by kernel_rfl)
    (of_decide_eq_true (by kernel_rfl)) (by unfold Func.isWrapper; first | (rw [if_pos (by decide +kernel)]; kernel_rfl) | (rw [if_neg (by decide +kernel)]; exact ⟨rfl, rfl⟩))
    (fun os started H enc _ => lifted os started H enc)
#print axioms proved
end Go.Proofs.Ytdfimjgbdipnjaa.sessionOnceDone
