/- Proved: NetGoes returns true whatever the strings and the number, and the input reads as it did, whatever the script, where what it reads is of bulk at most 1048576 (Rows.NetGoesUptoSaid). Conditions: that bulk alone. -/
import Derived.Test.YtcbjdfiikadkbaaW18
import Derived.Test.YtcbjdfiikadkbaaRows
import Derived.WalkKit
import Derived.ProofKit
import Derived.OpenShut
import Derived.ShutString
import Derived.ChangeOld
import Derived.Below
import Derived.JoinedCond
namespace Go.Proofs.Ytcbjdfiikadkbaa.netGoesDone
open Go Go.Sep Go.Proofs
open Go.ChangeShapes Go.WideShapes Go.ChangeAt Go.RowKit
set_option linter.unusedVariables false
set_option linter.unusedSimpArgs false

theorem own : ownKnob Try.prog.godebug = none := by kernel_rfl
theorem laidOut : laidOutB Try.prog = true := by kernel_rfl

theorem bulk_pos {H : Type} (d : DataW H) : 1 ≤ Rows.uptoBulk d := by
  cases d with
  | lit l => cases l <;> simp [Rows.uptoBulk]
  | _ => simp [Rows.uptoBulk]
theorem bulk_len {H : Type} : ∀ (l : List (DataW H)), l.length ≤ Rows.uptoBulkAll l
  | [] => by simp [Rows.uptoBulkAll]
  | x :: r => by have h1 := bulk_pos x; have h2 := bulk_len r; simp only [Rows.uptoBulkAll, List.length_cons]; omega

theorem strs_of {w : World} {a : Option Addr} {len : Nat} (h : InRows w 1 [.str] a len) : ∃ ds, Strs (baseOf w) a len ds := by
  obtain ⟨l, hl, hp⟩ := exists_list (α := ByteArray) (p := fun i s => ∃ b off, a = some ⟨b, off, none⟩ ∧ ∀ (A : List Blk), Rd (baseOf w) A b (off + i * 1) (.string s)) len (fun i hi => by
    obtain ⟨b, o, cs, rfl, hlen, hall, hc⟩ := h i hi
    match cs, hlen with
    | [v0], _ =>
      obtain ⟨⟨s, rfl, _⟩, _⟩ := hall
      exact ⟨s, b, o, rfl, fun A => rd_base (hc 0 _ rfl)⟩)
  exact ⟨l, hl, hp⟩

theorem script_of {w : World} {a : Option Addr} {len : Nat} (h : InRows w 8 [.int .i64, .int .i64, .int .i64, .int .i64, .int .i64, .int .i64, .int .i64, .str] a len) :
    ∃ ops, Script (baseOf w) a len ops := by
  obtain ⟨l, hl, hp⟩ := exists_list (α := SOp) (p := fun i o => ∃ b off, a = some ⟨b, off, none⟩ ∧ ∀ (A : List Blk) (j : Nat) (u : Value), o.row[j]? = some u → Rd (baseOf w) A b (off + i * 8 + j) u) len (fun i hi => by
    obtain ⟨b, o, cs, rfl, hlen, hall, hc⟩ := h i hi
    match cs, hlen with
    | [v0, v1, v2, v3, v4, v5, v6, v7], _ =>
      obtain ⟨⟨n0, rfl, _⟩, ⟨n1, rfl, _⟩, ⟨n2, rfl, _⟩, ⟨n3, rfl, _⟩, ⟨n4, rfl, _⟩, ⟨n5, rfl, _⟩, ⟨n6, rfl, _⟩, ⟨n7, rfl, _⟩, _⟩ := hall
      exact ⟨⟨n0, n1, n2, n3, n4, n5, n6, n7⟩, b, o, rfl, fun A j u hu => rd_base (hc j u hu)⟩)
  exact ⟨l, hl, hp⟩

set_option maxRecDepth 100000 in
theorem lifted (os : Os) (started : os.Started) (H : Type) (enc : TypeId × Value → H) (F : Stop.Interp) :
    ReturnsInHanded {} Try.checked os 5 .any ((Rows.OpenSpec.upto Rows.netGoesSpec).pre6 enc Try.prog Try.f5 Rows.netGoesUptoRow.domain false) (((Rows.OpenSpec.upto Rows.netGoesSpec).at F).post enc Try.prog Try.f5 false true false false) := by
  refine returnsInHanded_of_cond (C := Try.checked) (s := Rows.OpenSpec.upto Rows.netGoesSpec) (k := Rows.uptoSmall) rfl own started (by kernel_rfl) Try.func5
    (OpenSpec.witness (enc := enc) (C := Try.checked) (s := Rows.OpenSpec.upto Rows.netGoesSpec) (k := Rows.uptoSmall) rfl false ⟨#[], #[.slice none 0 0, .int .i64 0, .slice none 0 0], []⟩ 8 (by kernel_rfl) (by kernel_rfl) (by kernel_rfl)
      (x := ([.nil, .lit (.int .i64 0), .nil], [], [])) (by kernel_rfl) rfl (by kernel_rfl)) ?_
  intro W base args ds gs before hval0 hW hcnd hk _
  have hval : ∀ (j : Nat) t v, Try.f5.params[j]? = some t → args[j]? = some v → Value.okWide Try.prog W .any base t v := hval0
  have hW' := hW
  obtain ⟨p, q, hA0, hV, rfl, hfz, hnd⟩ := hW
  have hA : DataW.TrodAll enc Try.prog W 0 (fun _ => true) true Try.f5.params.toList args.toList ds p := hA0
  rw [Try.params5] at hA hval
  obtain ⟨v0, vs0, d0, ds0, p0, q0, hargs, rfl, rfl, h0, r0⟩ := trodAll_cons hA
  obtain ⟨v1, vs1, d1, ds1, p1, q1, rfl, rfl, rfl, h1, r1⟩ := trodAll_cons r0
  obtain ⟨v2, vs2, d2, ds2, p2, q2, rfl, rfl, rfl, h2, r2⟩ := trodAll_cons r1
  obtain ⟨rfl, rfl, rfl⟩ := trodAll_nil r2
  obtain rfl : args = #[v0, v1, v2] := by cases args; simp_all
  obtain ⟨rfl, rfl⟩ := trodVars_none hV
  obtain ⟨a0, len0, cap0, rfl⟩ := okWide_slice Try.underlying43 (hval 0 43 v0 rfl rfl)
  have k0 := h0
  have lt0 : ∀ x ∈ p0, x.block < W.heap.size := by obtain ⟨m, hm⟩ := k0; exact DataW.trod_lt m _ _ _ hm
  obtain ⟨hrows, hlen⟩ : InRows W 1 [.str] a0 len0 ∧ (d0 = .nil ∧ len0 = 0 ∨ ∃ el sp, d0 = .slice el sp ∧ el.length = len0 ∧ len0 ≤ el.length + sp.length) := by
    obtain ⟨fuel, hf⟩ := h0
    exact in_rows Try.underlying43 inferInstance inferInstance (by decide) hf (fun _ => rfl)
  obtain ⟨a1, rfl, rfl, rfl, w1⟩ := open_int Try.underlying3 (hval 1 3 v1 rfl rfl) h1
  obtain ⟨strs, hs⟩ := strs_of hrows
  obtain ⟨a2, len2, cap2, rfl⟩ := okWide_slice Try.underlying22 (hval 2 22 v2 rfl rfl)
  have k2 := h2
  have lt2 : ∀ x ∈ p2, x.block < W.heap.size := by obtain ⟨m, hm⟩ := k2; exact DataW.trod_lt m _ _ _ hm
  obtain ⟨hrows2, hlen2⟩ : InRows W 8 [.int .i64, .int .i64, .int .i64, .int .i64, .int .i64, .int .i64, .int .i64, .str] a2 len2 ∧ (d2 = .nil ∧ len2 = 0 ∨ ∃ el sp, d2 = .slice el sp ∧ el.length = len2 ∧ len2 ≤ el.length + sp.length) := by
    obtain ⟨fuel, hf⟩ := h2
    exact in_rows Try.underlying22 inferInstance inferInstance (by decide) hf (fun _ => rfl)
  obtain ⟨ops, hc⟩ := script_of hrows2
  have hmax : len0 ≤ 1048576 := by
    rcases hlen with ⟨_, rfl⟩ | ⟨el, sp, rfl, rfl, _⟩
    · omega
    · have h := of_decide_eq_true hk
      simp only [List.cons_append, List.nil_append, Rows.uptoBulkAll, Rows.uptoBulk] at h
      have := bulk_len el
      omega
  clear hA0 hval0
  refine (goes_spec W a0 len0 cap0 strs a1 a2 len2 cap2 ops hs hc hmax).mono fun e W' ⟨he, bel⟩ => ?_
  subst he
  exact ⟨_, rfl, _, _, _, [], _, [], hW', trodAll_mk1 (shut_bool Try.underlying4 _), (trodAll_cons_mk (Below.trod laidOut (by kernel_rfl) (of_decide_eq_true (by kernel_rfl)) k0 bel lt0) (trodAll_cons_mk (shut_int Try.underlying3 w1) (trodAll_cons_mk (Below.trod laidOut (by kernel_rfl) (of_decide_eq_true (by kernel_rfl)) k2 bel lt2) trodAll_mk0))), rfl, bel.frame _, fun h => by cases h⟩

theorem proved : Rows.NetGoesUptoSaid :=
  OpenClaim.holds_of_cond 5 Try.f5 rfl rfl rfl rfl rfl rfl rfl ⟨rfl, rfl, rfl, rfl, rfl⟩ rfl rfl rfl rfl rfl (by kernel_rfl) Try.func5 (by kernel_rfl)
    (of_decide_eq_true (by kernel_rfl)) (by unfold Func.isWrapper; first | (rw [if_pos (by decide +kernel)]; kernel_rfl) | (rw [if_neg (by decide +kernel)]; exact ⟨rfl, rfl⟩))
    (fun os started H enc _ F => lifted os started H enc F)
#print axioms proved
end Go.Proofs.Ytcbjdfiikadkbaa.netGoesDone
