import Derived.Test.YtkcmjgjfodipfaaGreatA27
import Derived.Test.YtkcmjgjfodipfaaGreatRows
import Derived.WalkKit
import Derived.ProofKit
import Derived.OpenShut
import Derived.ShutString
import Derived.ChangeOld
import Derived.Below
import Derived.SizedLaws
import Derived.Lib.SmallJoins
/- MeasureFull's call, as the row's form asks of it. -/
namespace Go.Proofs.YtkcmjgjfodipfaaGreat.measureFullDone
open Go Go.Sep Go.Proofs
open Go.ChangeShapes Go.WideShapes Go.ChangeAt Go.RowKit
set_option linter.unusedVariables false
set_option linter.unusedSimpArgs false
theorem own : ownKnob Tryz.prog.godebug = none := by kernel_rfl
theorem laidOut : laidOutB Tryz.prog = true := by kernel_rfl
set_option maxRecDepth 100000 in
theorem config_of {H : Type} {enc : TypeId × Value → H} {W : World} {base : Nat} {spare : Nat → Bool} {held : Bool} {v : Value} {d : DataW H} {p : List MemPlace} (hv : Value.okWide Tryz.prog W .any base 23 v) (h : DataW.Trod enc Tryz.prog W 0 spare held 23 v d p) : ∃ c : Cf, v = .agg c.row.toArray := by
  obtain ⟨cs, rfl, hsz⟩ := okWide_struct Tryz.underlying23 hv
  obtain ⟨fuel, hf⟩ := h
  obtain ⟨xs, n, _, _, _, hlen, hfl⟩ := DataW.trod_struct Tryz.underlying23 hf
  have h9 : cs.size = 9 := hsz.trans (by kernel_rfl)
  obtain ⟨l⟩ := cs
  match l, xs, h9, hlen with
  | [v0, v1, v2, v3, v4, v5, v6, v7, v8], [y0, y1, y2, y3, y4, y5, y6, y7, y8], _, _ =>
    have g0 : DataW.trod enc Tryz.prog W 0 spare held n 3 [v0] = some y0 := hfl 0 _ rfl
    obtain ⟨a0, e0, _, _⟩ := DataW.trod_int Tryz.underlying3 g0
    injection e0 with e0 _
    subst e0
    have g1 : DataW.trod enc Tryz.prog W 0 spare held n 3 [v1] = some y1 := hfl 1 _ rfl
    obtain ⟨a1, e1, _, _⟩ := DataW.trod_int Tryz.underlying3 g1
    injection e1 with e1 _
    subst e1
    have g2 : DataW.trod enc Tryz.prog W 0 spare held n 3 [v2] = some y2 := hfl 2 _ rfl
    obtain ⟨a2, e2, _, _⟩ := DataW.trod_int Tryz.underlying3 g2
    injection e2 with e2 _
    subst e2
    have g3 : DataW.trod enc Tryz.prog W 0 spare held n 3 [v3] = some y3 := hfl 3 _ rfl
    obtain ⟨a3, e3, _, _⟩ := DataW.trod_int Tryz.underlying3 g3
    injection e3 with e3 _
    subst e3
    have g4 : DataW.trod enc Tryz.prog W 0 spare held n 3 [v4] = some y4 := hfl 4 _ rfl
    obtain ⟨a4, e4, _, _⟩ := DataW.trod_int Tryz.underlying3 g4
    injection e4 with e4 _
    subst e4
    have g5 : DataW.trod enc Tryz.prog W 0 spare held n 3 [v5] = some y5 := hfl 5 _ rfl
    obtain ⟨a5, e5, _, _⟩ := DataW.trod_int Tryz.underlying3 g5
    injection e5 with e5 _
    subst e5
    have g6 : DataW.trod enc Tryz.prog W 0 spare held n 3 [v6] = some y6 := hfl 6 _ rfl
    obtain ⟨a6, e6, _, _⟩ := DataW.trod_int Tryz.underlying3 g6
    injection e6 with e6 _
    subst e6
    have g7 : DataW.trod enc Tryz.prog W 0 spare held n 3 [v7] = some y7 := hfl 7 _ rfl
    obtain ⟨a7, e7, _, _⟩ := DataW.trod_int Tryz.underlying3 g7
    injection e7 with e7 _
    subst e7
    have g8 : DataW.trod enc Tryz.prog W 0 spare held n 3 [v8] = some y8 := hfl 8 _ rfl
    obtain ⟨a8, e8, _, _⟩ := DataW.trod_int Tryz.underlying3 g8
    injection e8 with e8 _
    subst e8
    exact ⟨⟨a0, a1, a2, a3, a4, a5, a6, a7, a8⟩, rfl⟩
theorem measure_full (w : World) (c : Cf) : Calls Tryz.prog 3 #[.agg c.row.toArray] w fun e w' => e = .returned (.bool true) ∧ RowKit.Below w.heap.size w w' :=
  ((mfull_spec (baseOf w) c) (baseOf w) w (Ext.refl _) (sat_baseOf w)).mono fun e w' ⟨v, A', he, ⟨hv, _⟩, hS⟩ => ⟨by rw [he, hv], hS.below⟩
set_option maxRecDepth 100000 in
theorem lifted (os : Os) (started : os.Started) (H : Type) (enc : TypeId × Value → H) :
    ReturnsInHanded {} Tryz.checked os 3 .any (Rows.measureFullSpec.pre6 enc Tryz.prog Tryz.f3 Rows.measureFullRow.domain false) (Rows.measureFullSpec.post enc Tryz.prog Tryz.f3 false true false false) := by
  refine returnsInHanded_of_change_sized (C := Tryz.checked) own started (by kernel_rfl) Tryz.func3
    (ChangeSpec.witness6 (enc := enc) (C := Tryz.checked) false ⟨#[], #[.agg #[.int .i64 0, .int .i64 0, .int .i64 0, .int .i64 0, .int .i64 0, .int .i64 0, .int .i64 0, .int .i64 0, .int .i64 0]], []⟩ 8 (by kernel_rfl) (by kernel_rfl) (by kernel_rfl) (by kernel_rfl)) ?_
  intro W base args ds gs before hval0 hW hcnd hsz _
  have hval : ∀ (j : Nat) t v, Tryz.f3.params[j]? = some t → args[j]? = some v → Value.okWide Tryz.prog W .any base t v := hval0
  have hW' := hW
  obtain ⟨p, q, hA0, hV, rfl, hfz, hnd⟩ := hW
  have hA : DataW.TrodAll enc Tryz.prog W 0 (fun _ => true) true Tryz.f3.params.toList args.toList ds p := hA0
  rw [Tryz.params3] at hA hval
  obtain ⟨v0, vs0, d0, ds0, p0, q0, hargs, rfl, rfl, h0, r0⟩ := trodAll_cons hA
  obtain ⟨rfl, rfl, rfl⟩ := trodAll_nil r0
  obtain rfl : args = #[v0] := by cases args; simp_all
  obtain ⟨rfl, rfl⟩ := trodVars_none hV
  obtain ⟨c, rfl⟩ := config_of (hval 0 23 v0 rfl rfl) h0
  have k0 := h0
  have lt0 : ∀ x ∈ p0, x.block < W.heap.size := by obtain ⟨m, hm⟩ := k0; exact DataW.trod_lt m _ _ _ hm
  clear hA0 hval0
  refine (measure_full W c).mono fun e W' ⟨he, bel⟩ => ?_
  subst he
  exact ⟨_, rfl, _, _, _, [], _, [], hW', trodAll_mk1 (shut_bool Tryz.underlying4 _), (trodAll_cons_mk (Below.trod laidOut (by kernel_rfl) (of_decide_eq_true (by kernel_rfl)) k0 bel lt0) trodAll_mk0), rfl, bel.frame _, fun h => by cases h⟩
end Go.Proofs.YtkcmjgjfodipfaaGreat.measureFullDone
