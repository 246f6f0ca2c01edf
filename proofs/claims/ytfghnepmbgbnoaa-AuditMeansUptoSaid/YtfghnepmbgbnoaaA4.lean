import Derived.Test.YtfghnepmbgbnoaaA3
namespace Go.Proofs.Ytfghnepmbgbnoaa
open Go Go.Sep Go.Proofs
set_option maxRecDepth 10000
set_option maxHeartbeats 4000000
set_option synthInstance.maxSize 2000
set_option linter.unusedSimpArgs false
set_option linter.unusedVariables false

/-! events of a list: is there one of a kind? -/
/-- Events that can be read where they lie. -/
def VIn (B : Base) (a : Option Addr) (l : List Ev) : Prop := ∀ (i : Nat) (e : Ev), l[i]? = some e → ∃ b off, a = some ⟨b, off, none⟩ ∧ ∀ A j u, e.row[j]? = some u → Rd B A b (off + i * 13 + j) u
theorem VIn.ext {B B2 : Base} {a : Option Addr} {l : List Ev} (e : Ext B B2) (h : VIn B a l) : VIn B2 a l := fun i s hs => by
  obtain ⟨b, off, ha, hr⟩ := h i s hs
  exact ⟨b, off, ha, fun A j u hu => (hr A j u hu).ext e⟩
theorem OwnV.vin {a : Option Addr} {n c : Nat} {l : List Ev} {G : List Blk} (h : OwnV (.slice a n c) l G) {B : Base} (hG : Holds B G) : VIn B a l := fun i e he => by
  have hlt := (List.getElem?_eq_some_iff.1 he).1
  obtain ⟨g, c', spare, h1, h2, h3, h4⟩ := Own.some_ h (by rw [List.length_map]; omega)
  injection h1 with e1 e2 e3
  refine ⟨g, 0, e1, fun A j u hu => ?_⟩
  have hrow : (l.map Ev.row)[i]? = some e.row := by rw [List.getElem?_map, he]; rfl
  have hj : j < 13 := (List.getElem?_eq_some_iff.1 hu).1
  have h5 := (ev_ok l).at_ hrow hj
  rw [Nat.zero_add]
  exact hG.cell (l := (l.map Ev.row).flatten ++ spare) (by rw [h2]; exact List.mem_singleton.2 rfl) (by rw [List.getElem?_append_left (List.getElem?_eq_some_iff.1 (h5.trans hu)).1, h5, hu]) A

theorem index_spec (B0 : Base) (a : Option Addr) (c : Nat) (l : List Ev) (f : FuncId) (fi ca : List Value) (C : List Blk) (p : Ev → Bool) [hf : FnOk Try.prog f] (hV : VIn B0 a l) (hl : l.length ≤ 2000000)
    (hc : ∀ e ∈ l, Con Try.prog f (fi ++ [Value.agg e.row.toArray] ++ ca).toArray C fun v A => v = .bool (p e) ∧ A = C) :
    ConB Try.prog B0 22 #[.slice a l.length c, .func (.func f) fi.toArray ca.toArray] C fun v A => (∃ k : Int, v = .int .i64 k ∧ (l.any p = true → 0 ≤ k) ∧ (l.any p = false → k = -1)) ∧ A = C := by
  refine ConB.intro (vs := [_, _]) Try.func22 rfl Try.ntmps22 rfl (fun B hx => ?_)
  have hV := hV.ext hx
  generalize B.plain = B1 at hV ⊢
  clear hx
  repeat' (first | refine Cd.seq ?_ | refine Cd.reg ?_ | refine Ops.nil ?_ | refine Ops.mv rfl rfl rfl rfl ?_ | refine Ops.asg rfl rfl rfl rfl ?_ | refine Ops.lenS rfl rfl rfl rfl ?_ | refine Cd.block ?_)
  refine Cd.loopK (fun i : Nat => i ≤ l.length ∧ l.any p = (l.drop i).any p) (fun i => [(0, .slice a l.length c), (1, .func (.func f) fi.toArray ca.toArray), (7, .int .i64 l.length), (8, .int .i64 i)])
    (fun _ => C) (fun i => l.length - i) 0 ⟨Nat.zero_le _, by simp⟩ ⟨rfl, rfl, rfl, rfl, trivial⟩ (fun w h => h) (fun i hI => ?_)
  obtain ⟨hi, hem⟩ := hI
  by_cases hil : i < l.length
  · have hil' : (i : Int) < l.length := by omega
    obtain ⟨x, hx⟩ : ∃ x, l[i]? = some x := ⟨_, List.getElem?_eq_getElem hil⟩
    obtain ⟨b, off, rfl, hrd⟩ := hV i x hx
    have hrw : ∀ A j u, x.row[j]? = some u → Rd B1 A b (off + (i : Int).toNat * 13 + j) u := fun A j u hu => by rw [Int.toNat_natCast]; exact hrd A j u hu
    have hdr : l.drop i = x :: l.drop (i + 1) := by
      obtain ⟨h1, rfl⟩ := List.getElem?_eq_some_iff.1 hx
      exact List.drop_eq_getElem_cons h1
    have hcx := hc x (List.mem_of_getElem? hx)
    rw [hdr, List.any_cons] at hem
    repeat' (first | refine Cd.seq ?_ | refine Cd.reg ?_ | refine Ops.mv rfl rfl rfl rfl ?_ | refine Ops.asg rfl rfl rfl rfl ?_ | refine Ops.bin rfl rfl rfl rfl rfl ?_ | refine Cd.block ?_ | refine Cd.skip (Cd.next ?_) | refine Ops.ixa rfl rfl rfl rfl (by omega) (by omega) rfl ?_ | refine Cd.condT rfl (by first | rfl | assumption | (simp only [decide_eq_true_eq, decide_eq_false_iff_not, Bool.not_eq_true', Bool.not_eq_false', Bool.not_eq_eq_eq_not, Bool.not_true, Bool.not_false, beq_iff_eq, beq_eq_false_iff_ne, ne_eq, decide_eq_decide, eq_self, true_iff, iff_true, not_true_eq_false, not_false_eq_true]; first | done | omega)) ?_)
    refine Ops.ldRN (r := x.row) rfl rfl rfl rfl (hrw _) rfl ?_
    skip
    refine Ops.callV hcx rfl (noPd rfl) rfl rfl rfl rfl (fun v A' hR => ?_)
    obtain ⟨rfl, rfl⟩ := hR
    by_cases hq : p x = true
    · rw [hq] at hem ⊢
      repeat' (first | refine Cd.seq ?_ | refine Cd.reg ?_ | refine Ops.nil ?_ | refine Ops.mv rfl rfl rfl rfl ?_ | refine Ops.asg rfl rfl rfl rfl ?_ | refine Cd.condT rfl rfl ?_)
      exact Cd.ret (ret1 (A' := A') rfl (Res.tmp rfl) (fun _ h => h.split) ⟨⟨i, rfl, (fun _ => Int.natCast_nonneg _), (fun h => by rw [hem] at h; cases h)⟩, rfl⟩)
    · have hq' : p x = false := by simpa using hq
      rw [hq'] at hem ⊢
      repeat' (first | refine Cd.reg ?_ | refine Ops.nil ?_ | refine Ops.mv rfl rfl rfl rfl ?_ | refine Ops.addI rfl rfl rfl rfl (by omega) (by omega) rfl ?_ | refine Cd.condF rfl rfl ?_ | refine Cd.skip (Cd.next (Q' := fun _ _ _ => True) ?_))
      exact Ops.nilN (round_end (i + 1) ⟨by show i + 1 ≤ l.length; omega, by rw [hem, Bool.false_or]⟩ (by show l.length - (i + 1) < l.length - i; omega) ⟨rfl, rfl, rfl, rfl, trivial⟩ (fun w h => h.split))
  · obtain rfl : i = l.length := by omega
    rw [List.drop_length] at hem
    have hil' : ¬ ((l.length : Nat) : Int) < l.length := by omega
    repeat' (first | refine Cd.seq ?_ | refine Cd.reg ?_ | refine Ops.nil ?_ | refine Ops.asg rfl rfl rfl rfl ?_ | refine Ops.bin rfl rfl rfl rfl rfl ?_ | refine Cd.exit (Cd.next (Q' := fun _ _ _ => True) ?_) | refine Cd.condF rfl (by first | rfl | assumption | (simp only [decide_eq_true_eq, decide_eq_false_iff_not, Bool.not_eq_true', Bool.not_eq_false', Bool.not_eq_eq_eq_not, Bool.not_true, Bool.not_false, beq_iff_eq, beq_eq_false_iff_ne, ne_eq, decide_eq_decide, eq_self, true_iff, iff_true, not_true_eq_false, not_false_eq_true]; first | done | omega)) ?_)
    exact Cd.ret (ret1 (A' := C) rfl (Res.tmp rfl) (fun _ h => h.split) ⟨⟨-1, rfl, (fun h => by rw [hem] at h; cases h), (fun _ => rfl)⟩, rfl⟩)
theorem contains_spec (B0 : Base) (a : Option Addr) (c : Nat) (l : List Ev) (f : FuncId) (fi ca : List Value) (C : List Blk) (p : Ev → Bool) [hf : FnOk Try.prog f] (hV : VIn B0 a l) (hl : l.length ≤ 2000000)
    (hc : ∀ e ∈ l, Con Try.prog f (fi ++ [Value.agg e.row.toArray] ++ ca).toArray C fun v A => v = .bool (p e) ∧ A = C) :
    ConB Try.prog B0 12 #[.slice a l.length c, .func (.func f) fi.toArray ca.toArray] C fun v A => v = .bool (l.any p) ∧ A = C := by
  refine ConB.intro (vs := [_, _]) Try.func12 rfl Try.ntmps12 rfl (fun B hx => ?_)
  repeat' (first | refine Cd.seq ?_ | refine Cd.reg ?_ | refine Ops.mv rfl rfl rfl rfl ?_ | refine Ops.asg rfl rfl rfl rfl ?_)
  refine Ops.callB (index_spec B0 a c l f fi ca C p hV hl hc) hx rfl (noPd rfl) rfl rfl rfl (fun v A' hR => ?_)
  obtain ⟨⟨k, rfl, h1, h2⟩, rfl⟩ := hR
  cases hp : l.any p with
  | true =>
    have := h1 hp
    repeat' (first | refine Ops.nil ?_ | refine Ops.asg rfl rfl rfl rfl ?_ | refine Ops.bin rfl rfl rfl rfl rfl ?_)
    exact Cd.ret (ret1 (A' := A') rfl (Res.tmp rfl) (fun _ h => h.split) ⟨by simp [this], rfl⟩)
  | false =>
    obtain rfl := h2 hp
    repeat' (first | refine Ops.nil ?_ | refine Ops.asg rfl rfl rfl rfl ?_ | refine Ops.bin rfl rfl rfl rfl rfl ?_)
    exact Cd.ret (ret1 (A' := A') rfl (Res.tmp rfl) (fun _ h => h.split) ⟨by simp, rfl⟩)

theorem real1_spec (bm : Nat) (e x : Ev) : Con Try.prog 59 #[.agg x.row.toArray, ptr bm] [(bm, cl e.row 39)] fun v A => v = .bool (sameR x e) ∧ A = [(bm, cl e.row 39)] := by
  refine Con.intro (vs := [_, _]) Try.func59 rfl Try.ntmps59 rfl (fun B => ?_)
  repeat' (first | refine Cd.seq ?_ | refine Cd.reg ?_ | refine Ops.nil ?_ | refine Ops.asg rfl rfl rfl rfl ?_ | refine Ops.fa0 rfl rfl rfl rfl ?_ | refine Ops.ldN rfl rfl rfl rfl ?_ | refine Ops.bin rfl rfl rfl rfl rfl ?_ | refine Ops.box rfl rfl rfl rfl (noPd rfl) (fun b => ?_))
  exact Cd.ret (ret1 (A' := [(bm, cl e.row 39)]) rfl (Res.tmp rfl) (fun _ h => h.split) ⟨by simp [sameR], rfl⟩)
theorem real2_spec (bm : Nat) (n : Int) (x : Ev) : Con Try.prog 60 #[.agg x.row.toArray, ptr bm] [(bm, cl [.int .i64 n] 3)] fun v A => v = .bool (decide (x.count = n)) ∧ A = [(bm, cl [.int .i64 n] 3)] := by
  refine Con.intro (vs := [_, _]) Try.func60 rfl Try.ntmps60 rfl (fun B => ?_)
  repeat' (first | refine Cd.seq ?_ | refine Cd.reg ?_ | refine Ops.nil ?_ | refine Ops.asg rfl rfl rfl rfl ?_ | refine Ops.fa0 rfl rfl rfl rfl ?_ | refine Ops.ld1 rfl rfl rfl rfl rfl ?_ | refine Ops.bin rfl rfl rfl rfl rfl ?_ | refine Ops.box rfl rfl rfl rfl (noPd rfl) (fun b => ?_))
  exact Cd.ret (ret1 (A' := [(bm, cl [.int .i64 n] 3)]) rfl (Res.tmp rfl) (fun _ h => h.split) ⟨rfl, rfl⟩)
end Go.Proofs.Ytfghnepmbgbnoaa
