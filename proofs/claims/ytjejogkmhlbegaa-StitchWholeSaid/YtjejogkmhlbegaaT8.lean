/- Proved: StitchWhole returns true whatever the input, and the input reads as it did (Rows.StitchWholeSaid). Conditions: none. -/
import Derived.Test.YtjejogkmhlbegaaT7
import Derived.Test.YtjejogkmhlbegaaRows
import Derived.WalkKit
import Derived.ProofKit
import Derived.OpenShut
import Derived.ShutString
import Derived.ChangeOld
import Derived.Below
import Derived.SizedLaws
namespace Go.Proofs.Ytjejogkmhlbegaa.stitchWholeDone
open Go Go.Sep Go.Proofs
open Go.ChangeShapes Go.WideShapes Go.ChangeAt Go.RowKit
set_option linter.unusedVariables false
set_option linter.unusedSimpArgs false
set_option synthInstance.maxSize 2000

theorem own : ownKnob Try.prog.godebug = none := by kernel_rfl
theorem laidOut : laidOutB Try.prog = true := by kernel_rfl
theorem strBytes : Try.prog.bytesOf 9 = 16 := by kernel_rfl
theorem intBytes : Try.prog.bytesOf 3 = 8 := by kernel_rfl

theorem txts_of {w : World} {a : Option Addr} {len : Nat} (h : InRows w 1 [.str] a len) : ∃ ds, Txts (baseOf w) a len ds := by
  obtain ⟨l, hl, hp⟩ := exists_list (α := ByteArray) (p := fun i s => ∃ b off, a = some ⟨b, off, none⟩ ∧ ∀ (A : List Blk), Rd (baseOf w) A b (off + i * 1) (.string s)) len (fun i hi => by
    obtain ⟨b, o, cs, rfl, hlen, hall, hc⟩ := h i hi
    match cs, hlen with
    | [v0], _ =>
      obtain ⟨⟨s, rfl, _⟩, _⟩ := hall
      exact ⟨s, b, o, rfl, fun A => rd_base (hc 0 _ rfl)⟩)
  exact ⟨l, hl, hp⟩
theorem nums_of {w : World} {a : Option Addr} {len : Nat} (h : InRows w 1 [.int .i64] a len) : ∃ ds, Nums (baseOf w) a len ds := by
  obtain ⟨l, hl, hp⟩ := exists_list (α := Int) (p := fun i s => ∃ b off, a = some ⟨b, off, none⟩ ∧ ∀ (A : List Blk), Rd (baseOf w) A b (off + i * 1) (.int .i64 s)) len (fun i hi => by
    obtain ⟨b, o, cs, rfl, hlen, hall, hc⟩ := h i hi
    match cs, hlen with
    | [v0], _ =>
      obtain ⟨⟨s, rfl, _⟩, _⟩ := hall
      exact ⟨s, b, o, rfl, fun A => rd_base (hc 0 _ rfl)⟩)
  exact ⟨l, hl, hp⟩
theorem whole_both (w : World) (la oa : Option Addr) (len cap olen ocap : Nat) (a : Int) (list : List ByteArray) (ord : List Int) (hl : Txts (baseOf w) la len list) (ho : Nums (baseOf w) oa olen ord) (holen : olen ≤ 18000000000000) :
    Calls Try.prog 3 #[.int .i64 a, .slice la len cap, .slice oa olen ocap] w fun e w' => e = .returned (.bool true) ∧ RowKit.Below w.heap.size w w' := by
  by_cases h : 1 ≤ a ∧ a ≤ 8
  · obtain ⟨n, rfl⟩ : ∃ n : Nat, a = n := ⟨a.toNat, by omega⟩
    exact whole_yes w la oa len cap olen ocap n list ord hl ho (by omega) (by omega) holen
  · exact whole_no w la oa len cap olen ocap a h

set_option maxRecDepth 100000 in
theorem lifted (os : Os) (started : os.Started) (H : Type) (enc : TypeId × Value → H) :
    ReturnsInHanded {} Try.checked os 3 .any (Rows.stitchWholeSpec.pre6 enc Try.prog Try.f3 Rows.stitchWholeRow.domain false) (Rows.stitchWholeSpec.post enc Try.prog Try.f3 false true false false) := by
  refine returnsInHanded_of_change_sized (C := Try.checked) own started (by kernel_rfl) Try.func3
    (ChangeSpec.witness6 (enc := enc) (C := Try.checked) false ⟨#[], #[.int .i64 0, .slice none 0 0, .slice none 0 0], []⟩ 8 (by kernel_rfl) (by kernel_rfl) (by kernel_rfl) (by kernel_rfl)) ?_
  intro W base args ds gs before hval0 hW hcnd hsz _
  have hval : ∀ (j : Nat) t v, Try.f3.params[j]? = some t → args[j]? = some v → Value.okWide Try.prog W .any base t v := hval0
  have hW' := hW
  obtain ⟨p, q, hA0, hV, rfl, hfz, hnd⟩ := hW
  have hA : DataW.TrodAll enc Try.prog W 0 (fun _ => true) true Try.f3.params.toList args.toList ds p := hA0
  rw [Try.params3] at hA hval
  obtain ⟨v0, vs0, d0, ds0, p0, q0, hargs, rfl, rfl, h0, r0⟩ := trodAll_cons hA
  obtain ⟨v1, vs1, d1, ds1, p1, q1, rfl, rfl, rfl, h1, r1⟩ := trodAll_cons r0
  obtain ⟨v2, vs2, d2, ds2, p2, q2, rfl, rfl, rfl, h2, r2⟩ := trodAll_cons r1
  obtain ⟨rfl, rfl, rfl⟩ := trodAll_nil r2
  obtain rfl : args = #[v0, v1, v2] := by cases args; simp_all
  obtain ⟨rfl, rfl⟩ := trodVars_none hV
  obtain ⟨a0, rfl, rfl, rfl, w0⟩ := open_int Try.underlying3 (hval 0 3 v0 rfl rfl) h0
  obtain ⟨a1, len1, cap1, rfl⟩ := okWide_slice Try.underlying22 (hval 1 22 v1 rfl rfl)
  have k1 := h1
  have lt1 : ∀ x ∈ p1, x.block < W.heap.size := by obtain ⟨m, hm⟩ := k1; exact DataW.trod_lt m _ _ _ hm
  obtain ⟨hrows1, hlen1⟩ : InRows W 1 [.str] a1 len1 ∧ (d1 = .nil ∧ len1 = 0 ∨ ∃ el sp, d1 = .slice el sp ∧ el.length = len1 ∧ len1 ≤ el.length + sp.length) := by
    obtain ⟨fuel, hf⟩ := h1
    exact in_rows Try.underlying22 inferInstance inferInstance (by decide) hf (fun _ => rfl)
  obtain ⟨l1, hs1⟩ := txts_of hrows1
  obtain ⟨a2, len2, cap2, rfl⟩ := okWide_slice Try.underlying23 (hval 2 23 v2 rfl rfl)
  have k2 := h2
  have lt2 : ∀ x ∈ p2, x.block < W.heap.size := by obtain ⟨m, hm⟩ := k2; exact DataW.trod_lt m _ _ _ hm
  obtain ⟨hrows2, hlen2⟩ : InRows W 1 [.int .i64] a2 len2 ∧ (d2 = .nil ∧ len2 = 0 ∨ ∃ el sp, d2 = .slice el sp ∧ el.length = len2 ∧ len2 ≤ el.length + sp.length) := by
    obtain ⟨fuel, hf⟩ := h2
    exact in_rows Try.underlying23 inferInstance inferInstance (by decide) hf (fun _ => rfl)
  obtain ⟨l2, hs2⟩ := nums_of hrows2
  have hmax : len2 ≤ 18000000000000 := by
    rcases hlen2 with ⟨_, rfl⟩ | ⟨el, sp, rfl, rfl, _⟩
    · omega
    · have := sized_slice hsz (j := 2) (t := 23) (e := 3) rfl rfl Try.underlying23
      rw [show Try.checked.prog.bytesOf 3 = 8 from intBytes] at this
      have h2 := reachBytes_lt
      omega
  clear hA0 hval0
  refine (whole_both W a1 a2 len1 cap1 len2 cap2 a0 l1 l2 hs1 hs2 hmax).mono fun e W' ⟨he, bel⟩ => ?_
  subst he
  exact ⟨_, rfl, _, _, _, [], _, [], hW', trodAll_mk1 (shut_bool Try.underlying4 _), (trodAll_cons_mk (shut_int Try.underlying3 w0) (trodAll_cons_mk (Below.trod laidOut (by kernel_rfl) (of_decide_eq_true (by kernel_rfl)) k1 bel lt1) (trodAll_cons_mk (Below.trod laidOut (by kernel_rfl) (of_decide_eq_true (by kernel_rfl)) k2 bel lt2) trodAll_mk0))), rfl, bel.frame _, fun h => by cases h⟩

theorem proved : Rows.StitchWholeSaid :=
  OpenClaim.holds_of_wide 3 Try.f3 rfl rfl rfl rfl rfl rfl rfl ⟨rfl, rfl, rfl, rfl, rfl⟩ rfl rfl rfl rfl rfl (by kernel_rfl) Try.func3 (by kernel_rfl)
    (of_decide_eq_true (by kernel_rfl)) (by unfold Func.isWrapper; first | (rw [if_pos (by decide +kernel)]; kernel_rfl) | (rw [if_neg (by decide +kernel)]; exact ⟨rfl, rfl⟩))
    (fun os started H enc _ => lifted os started H enc)
#print axioms proved
end Go.Proofs.Ytjejogkmhlbegaa.stitchWholeDone
