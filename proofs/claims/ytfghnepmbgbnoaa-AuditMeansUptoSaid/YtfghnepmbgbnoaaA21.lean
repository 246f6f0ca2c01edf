import Derived.Test.YtfghnepmbgbnoaaA17
import Derived.Test.YtfghnepmbgbnoaaSep29
import Derived.Test.YtfghnepmbgbnoaaSepM
namespace Go.Proofs.Ytfghnepmbgbnoaa
open Go Go.Sep Go.Proofs
set_option maxRecDepth 10000
set_option maxHeartbeats 8000000
set_option synthInstance.maxSize 2000
set_option linter.unusedSimpArgs false
set_option linter.unusedVariables false

/-! rows of events that lie in the base -/
theorem VIn.take {B : Base} {a : Option Addr} {l : List Ev} (h : VIn B a l) (n : Nat) : VIn B a (l.take n) := fun i e he => h i e (by rw [List.getElem?_take] at he; split at he; exact he; cases he)
theorem VIn.drop {B : Base} {a : Option Addr} {l : List Ev} (h : VIn B a l) (cap m : Nat) (hc : l.length ≤ cap) : VIn B (slAny a cap m 13) (l.drop m) := fun i e he => by
  rw [List.getElem?_drop] at he
  obtain ⟨b, off, rfl, hr⟩ := h (m + i) e he
  have hlt := (List.getElem?_eq_some_iff.1 he).1
  refine ⟨b, off + m * 13, ?_, fun A j u hu => ?_⟩
  · unfold slAny
    rw [if_neg (by omega), Option.map_some, add_none]
  · have := hr A j u hu
    rwa [show off + (m + i) * 13 + j = off + m * 13 + i * 13 + j from by omega] at this
theorem VIn.reads {B : Base} {a : Option Addr} {l : List Ev} (h : VIn B a l) (c : Nat) (A : List Blk) : Reads Try.prog B A 13 (.slice a l.length c) (l.map Ev.row) := by
  refine ⟨ev_ok l, ⟨a, c, by rw [List.length_map]⟩, fun w hS => ?_⟩
  rw [List.length_map]
  cases l with
  | nil => exact (Reads.none (P := Try.prog) (B := B) (A := A) (sz := 13) (a := a) (c := c)).2.2 w hS
  | cons e0 l =>
    obtain ⟨b, off, rfl, _⟩ := h 0 e0 rfl
    have hok := ev_ok (e0 :: l)
    have hlen := hok.len
    rw [List.length_map] at hlen
    have hcell : ∀ j u, (((e0 :: l).map Ev.row).flatten)[j]? = some u → w.cell? ⟨b, off + j, none⟩ = some u := fun j u hu => by
      have hj : j < (e0 :: l).length * 13 := by rw [← hlen]; exact (List.getElem?_eq_some_iff.1 hu).1
      have hq : j / 13 < (e0 :: l).length := by omega
      obtain ⟨e, he⟩ : ∃ e, (e0 :: l)[j / 13]? = some e := ⟨_, List.getElem?_eq_getElem hq⟩
      obtain ⟨b', off', e1, hr⟩ := h (j / 13) e he
      injection e1 with e1
      injection e1 with e1 e2
      subst e1; subst e2
      have h1 := hok.at_ (i := j / 13) (k := j % 13) (r := e.row) (by rw [List.getElem?_map, he]; rfl) (by omega)
      rw [show j / 13 * 13 + j % 13 = j from by omega, hu] at h1
      have := hr A (j % 13) u h1.symm w hS
      rwa [show off + j / 13 * 13 + j % 13 = off + j from by omega] at this
    exact Go.Sep.run_loadCells (P := Try.prog) (w := w) (b := b) (off := off) (n := (e0 :: l).length * 13) (vs := ((e0 :: l).map Ev.row).flatten) hlen hcell

/-! an event that says nothing of jobs: plain -/
theorem norm_nil : norm [] = [] := by decide
theorem inert {a : Au} {x : Ev} (hs : a.sh = false) (hx : x.kind ∉ kinds ∨ (x.kind = 4 ∧ x.node ≠ 0)) : evF a x = (a, []) := by
  have hh : headF a x = (a, []) := by unfold headF; rw [if_neg (fun h => by rw [hs] at h; cases h.1)]
  unfold evF
  rw [hh]
  dsimp only
  rcases hx with hx | ⟨h4, hn⟩
  · rw [act_none hx]; exact Prod.ext rfl norm_nil
  · have : actF a x = (a, []) := by
      unfold actF
      rw [if_neg (by omega), if_neg (by omega), if_neg (by omega), if_neg (by omega), if_neg (by omega), if_neg (by omega), if_neg (by omega), if_pos h4]
      exact if_neg fun h => hn h.1
    rw [this]; exact Prod.ext rfl norm_nil
theorem head_sh {a : Au} {e : Ev} (h : e.kind ≠ 14) : (headF a e).1.sh = false := by
  unfold headF
  split
  · rfl
  · rename_i hc
    cases hs : a.sh
    · rfl
    · exact absurd ⟨hs, h⟩ hc
theorem act_sh {a : Au} {e : Ev} (h : e.kind ≠ 4) (h14 : e.kind ≠ 14) : (actF a e).1.sh = a.sh := by
  unfold actF
  by_cases h2 : e.kind = 2
  · rw [if_pos h2]; unfold submittedF; split <;> rfl
  rw [if_neg h2]
  by_cases h5 : e.kind = 5
  · rw [if_pos h5]; unfold grantedF; dsimp only; split <;> rfl
  rw [if_neg h5]
  by_cases h8 : e.kind = 8
  · rw [if_pos h8]; unfold storedF; split <;> rfl
  rw [if_neg h8]
  by_cases h6 : e.kind = 6
  · rw [if_pos h6]; unfold overF; dsimp only; split <;> rfl
  rw [if_neg h6]
  by_cases h7 : e.kind = 7
  · rw [if_pos h7]; unfold overF; dsimp only; split <;> rfl
  rw [if_neg h7]
  by_cases h9 : e.kind = 9
  · rw [if_pos h9]; unfold recordedF; dsimp only; split <;> rfl
  rw [if_neg h9]
  by_cases h13 : e.kind = 13
  · rw [if_pos h13]; unfold admitsF; dsimp only; split <;> rfl
  rw [if_neg h13, if_neg h, if_neg h14]
  by_cases h10 : e.kind = 10
  · rw [if_pos h10]
  rw [if_neg h10]
  by_cases h11 : e.kind = 11
  · rw [if_pos h11]
  rw [if_neg h11]
  by_cases h12 : e.kind = 12
  · rw [if_pos h12]
  rw [if_neg h12]
theorem run_sh (l : List Ev) (h : ∀ e, l.getLast? = some e → e.kind ≠ 4 ∧ e.kind ≠ 14) : (runF Au.new 0 l).1.sh = false := by
  rcases List.eq_nil_or_concat l with rfl | ⟨l', e, rfl⟩
  · rfl
  · rw [List.concat_eq_append] at h ⊢
    obtain ⟨h4, h14⟩ := h e (by simp)
    rw [runF_snoc]
    show (evF (runF Au.new 0 l').1 e).1.sh = false
    unfold evF
    rw [act_sh h4 h14, head_sh h14]
theorem runF_shift : ∀ (l : List Ev) (a : Au) (n : Nat), runF a (n + 1) l = ((runF a n l).1, (runF a n l).2.map fun f => (f.1, f.2 + 1))
  | [], _, _ => rfl
  | e :: l, a, n => by
    rw [runF_cons, runF_cons, runF_shift l _ (n + 1)]
    dsimp only
    rw [List.map_append, List.map_map]
    congr 2
theorem passes {l : List Ev} {x : Ev} {m : Nat} (hm : m ≤ l.length) (hx : x.kind ∉ kinds ∨ (x.kind = 4 ∧ x.node ≠ 0)) (hl : ∀ e, (l.take m).getLast? = some e → e.kind ≠ 4 ∧ e.kind ≠ 14) :
    (runF Au.new 0 (l.take m ++ ([x] ++ l.drop m))).2 = (runF Au.new 0 (l.take m)).2 ++ (runF (runF Au.new 0 (l.take m)).1 m (l.drop m)).2.map (fun f => (f.1, f.2 + 1)) := by
  have hsh := run_sh _ hl
  have htl : (l.take m).length = m := by rw [List.length_take]; omega
  rw [runF_app, htl, Nat.zero_add, runF_app]
  dsimp only
  rw [runF_cons, inert hsh hx]
  show _ ++ (([] ++ (runF (runF Au.new 0 (l.take m)).1 (m + 1) []).2) ++ (runF (runF (runF Au.new 0 (l.take m)).1 (m + 1) []).1 (m + [x].length) (l.drop m)).2) = _
  show _ ++ (([] ++ []) ++ (runF (runF Au.new 0 (l.take m)).1 (m + 1) (l.drop m)).2) = _
  rw [runF_shift]; rfl
theorem allF_passes {l : List Ev} {r : List (Int × Int)} (h : allF l = (r, 0)) {x : Ev} {m : Nat} (hm : m ≤ l.length) (hx : x.kind ∉ kinds ∨ (x.kind = 4 ∧ x.node ≠ 0)) (hmay : mayE x = true) (hne : l.length ≠ 65536)
    (hl : ∀ e, (l.take m).getLast? = some e → e.kind ≠ 4 ∧ e.kind ≠ 14) :
    allF (l.take m ++ ([x] ++ l.drop m)) = (r.map (fun f => if (m : Int) ≤ f.2 then (f.1, f.2 + 1) else f), 0) := by
  obtain ⟨h1, h2, rfl⟩ := allF_ok h
  have hlen : (l.take m ++ ([x] ++ l.drop m)).length = l.length + 1 := by simp; omega
  unfold allF
  rw [if_neg (by omega), if_neg]
  · rw [passes hm hx hl]
    have hap := runF_app (l.take m) (l.drop m) Au.new 0
    have htl : (l.take m).length = m := by rw [List.length_take]; omega
    rw [List.take_append_drop, Nat.zero_add, htl] at hap
    rw [hap, List.map_append]
    congr 2
    · conv => lhs; rw [← List.map_id (runF Au.new 0 (l.take m)).2]
      apply List.map_congr_left
      intro f hf
      have := ((runF_ok (l.take m) Au.new 0).1 f hf).2.1
      rw [htl] at this
      rw [if_neg (by omega)]; rfl
    · apply List.map_congr_left
      intro f hf
      have := ((runF_ok (l.drop m) (runF Au.new 0 (l.take m)).1 m).1 f hf).1
      rw [if_pos this]
  · intro hc
    obtain ⟨e, he, hb⟩ := List.any_eq_true.1 hc
    have : mayE e = true := by
      rcases List.mem_append.1 he with he | he
      · exact h2 e (List.mem_of_mem_take he)
      · rcases List.mem_append.1 he with he | he
        · obtain rfl := List.mem_singleton.1 he; exact hmay
        · exact h2 e (List.mem_of_mem_drop he)
    rw [this] at hb; cases hb
end Go.Proofs.Ytfghnepmbgbnoaa
