/- Proved: SessionRows returns true whatever the input, and the input reads as it did (Rows.SessionRowsSaid). Conditions: none. -/
import Derived.Test.YtdfimjgbdipnjaaS23
import Derived.Test.YtdfimjgbdipnjaaRows
import Derived.WalkKit
import Derived.ProofKit
import Derived.OpenShut
import Derived.ShutString
import Derived.ChangeOld
import Derived.Below
import Derived.SizedLaws
namespace Go.Proofs.Ytdfimjgbdipnjaa.sessionRowsDone
open Go Go.Sep Go.Proofs
open Go.ChangeShapes Go.WideShapes Go.ChangeAt Go.RowKit
set_option linter.unusedVariables false
set_option linter.unusedSimpArgs false
set_option synthInstance.maxSize 2000

theorem own : ownKnob Try.prog.godebug = none := by kernel_rfl
theorem laidOut : laidOutB Try.prog = true := by kernel_rfl
theorem opBytes : Try.prog.bytesOf 62 = 64 := by kernel_rfl

theorem wf_i64 {n : Int} (h : (Lit.int .i64 n).wf = true) : -9223372036854775808 ≤ n ∧ n ≤ 9223372036854775807 := by
  simp only [Lit.wf, Bool.and_eq_true, decide_eq_true_eq] at h
  exact ⟨h.1, h.2⟩
theorem script_of {w : World} {a : Option Addr} {len : Nat} (h : InRows w 7 [.int .i64, .int .i64, .int .i64, .int .i64, .int .i64, .int .i64, .str] a len) :
    ∃ ops, RScriptN (baseOf w) a len ops := by
  obtain ⟨l, hl, hp⟩ := exists_list (α := ROp) (p := fun i o => (∃ b off, a = some ⟨b, off, none⟩ ∧ ∀ (A : List Blk) (j : Nat) (u : Value), o.row[j]? = some u → Rd (baseOf w) A b (off + i * 7 + j) u) ∧ -9223372036854775808 ≤ o.number ∧ o.number ≤ 9223372036854775807) len (fun i hi => by
    obtain ⟨b, o, cs, rfl, hlen, hall, hc⟩ := h i hi
    match cs, hlen with
    | [v0, v1, v2, v3, v4, v5, v6], _ =>
      obtain ⟨⟨n0, rfl, _⟩, ⟨n1, rfl, _⟩, ⟨n2, rfl, _⟩, ⟨n3, rfl, _⟩, ⟨n4, rfl, _⟩, ⟨n5, rfl, h5⟩, ⟨n6, rfl, _⟩, _⟩ := hall
      exact ⟨⟨n0, n1, n2, n3, n4, n5, n6⟩, ⟨b, o, rfl, fun A j u hu => rd_base (hc j u hu)⟩, wf_i64 h5⟩)
  exact ⟨l, ⟨hl, fun i o h => (hp i o h).1⟩, fun i o h => (hp i o h).2⟩

set_option maxRecDepth 100000 in
theorem lifted (os : Os) (started : os.Started) (H : Type) (enc : TypeId × Value → H) :
    ReturnsInHanded {} Try.checked os 7 .any (Rows.sessionRowsSpec.pre6 enc Try.prog Try.f7 Rows.sessionRowsRow.domain false) (Rows.sessionRowsSpec.post enc Try.prog Try.f7 false true false false) := by
  refine returnsInHanded_of_change_sized (C := Try.checked) own started (by kernel_rfl) Try.func7
    (ChangeSpec.witness6 (enc := enc) (C := Try.checked) false ⟨#[], #[.int .i64 0, .slice none 0 0], []⟩ 8 (by kernel_rfl) (by kernel_rfl) (by kernel_rfl) (by kernel_rfl)) ?_
  intro W base args ds gs before hval0 hW hcnd hsz _
  have hval : ∀ (j : Nat) t v, Try.f7.params[j]? = some t → args[j]? = some v → Value.okWide Try.prog W .any base t v := hval0
  have hW' := hW
  obtain ⟨p, q, hA0, hV, rfl, hfz, hnd⟩ := hW
  have hA : DataW.TrodAll enc Try.prog W 0 (fun _ => true) true Try.f7.params.toList args.toList ds p := hA0
  rw [Try.params7] at hA hval
  obtain ⟨v0, vs0, d0, ds0, p0, q0, hargs, rfl, rfl, h0, r0⟩ := trodAll_cons hA
  obtain ⟨v1, vs1, d1, ds1, p1, q1, rfl, rfl, rfl, h1, r1⟩ := trodAll_cons r0
  obtain ⟨rfl, rfl, rfl⟩ := trodAll_nil r1
  obtain rfl : args = #[v0, v1] := by cases args; simp_all
  obtain ⟨rfl, rfl⟩ := trodVars_none hV
  obtain ⟨a0, rfl, rfl, rfl, w0⟩ := open_int Try.underlying3 (hval 0 3 v0 rfl rfl) h0
  obtain ⟨a1, len1, cap1, rfl⟩ := okWide_slice Try.underlying57 (hval 1 57 v1 rfl rfl)
  have k1 := h1
  have lt1 : ∀ x ∈ p1, x.block < W.heap.size := by obtain ⟨m, hm⟩ := k1; exact DataW.trod_lt m _ _ _ hm
  obtain ⟨hrows, hlen⟩ : InRows W 7 [.int .i64, .int .i64, .int .i64, .int .i64, .int .i64, .int .i64, .str] a1 len1 ∧ (d1 = .nil ∧ len1 = 0 ∨ ∃ el sp, d1 = .slice el sp ∧ el.length = len1 ∧ len1 ≤ el.length + sp.length) := by
    obtain ⟨fuel, hf⟩ := h1
    exact in_rows Try.underlying57 inferInstance inferInstance (by decide) hf (fun _ => rfl)
  obtain ⟨ops, hs⟩ := script_of hrows
  have hmax : len1 ≤ 9000000000000 := by
    rcases hlen with ⟨_, rfl⟩ | ⟨el, sp, rfl, rfl, _⟩
    · omega
    · have := sized_slice hsz (j := 1) (t := 57) (e := 62) rfl rfl Try.underlying57
      rw [show Try.checked.prog.bytesOf 62 = 64 from opBytes] at this
      have h2 := reachBytes_lt
      omega
  clear hA0 hval0
  refine (session_rows W a0 a1 len1 cap1 ops hs hmax).mono fun e W' ⟨he, bel⟩ => ?_
  subst he
  exact ⟨_, rfl, _, _, _, [], _, [], hW', trodAll_mk1 (shut_bool Try.underlying4 _), (trodAll_cons_mk (shut_int Try.underlying3 w0) (trodAll_cons_mk (Below.trod laidOut (by kernel_rfl) (of_decide_eq_true (by kernel_rfl)) k1 bel lt1) trodAll_mk0)), rfl, bel.frame _, fun h => by cases h⟩

theorem proved : Rows.SessionRowsSaid :=
  OpenClaim.holds_of_wide 7 Try.f7 rfl rfl rfl rfl rfl rfl rfl ⟨rfl, rfl, rfl, rfl, rfl⟩ rfl rfl rfl rfl rfl (by kernel_rfl) Try.func7 (by kernel_rfl)
    (of_decide_eq_true (by kernel_rfl)) (by unfold Func.isWrapper; first | (rw [if_pos (by decide +kernel)]; kernel_rfl) | (rw [if_neg (by decide +kernel)]; exact ⟨rfl, rfl⟩))
    (fun os started H enc _ => lifted os started H enc)
#print axioms proved
end Go.Proofs.Ytdfimjgbdipnjaa.sessionRowsDone
