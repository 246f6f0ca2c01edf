import Derived.Test.YtcbjdfiikadkbaaW4
namespace Go.Proofs.Ytcbjdfiikadkbaa
open Go Go.Sep Go.Proofs
set_option maxRecDepth 10000
set_option linter.unusedSimpArgs false
set_option linter.unusedVariables false
/-- What is in the bag, of all that was sent and what of it is gone. -/
def live (l : List (Dg × Bool)) : List Dg := (l.filter fun p => !p.2).map (·.1)

theorem live_app (l : List (Dg × Bool)) (x : Dg) : live (l ++ [(x, false)]) = live l ++ [x] := by simp [live]
theorem live_len (l : List (Dg × Bool)) : (live l).length ≤ l.length := by simp [live]; exact List.length_filter_le _ _
theorem live_cons_t (x : Dg) (l : List (Dg × Bool)) : live ((x, true) :: l) = live l := by simp [live]
theorem live_cons_f (x : Dg) (l : List (Dg × Bool)) : live ((x, false) :: l) = x :: live l := by simp [live]

theorem live_find : ∀ (l : List (Dg × Bool)) (p : Nat) (x : Dg), (live l)[p]? = some x → ∃ j, l[j]? = some (x, false) ∧ (live l).eraseIdx p = live (l.set j (x, true))
  | [], p, x, h => by simp [live] at h
  | (y, true) :: l, p, x, h => by
    rw [live_cons_t] at h ⊢
    obtain ⟨j, h1, h2⟩ := live_find l p x h
    exact ⟨j + 1, by simpa using h1, by rw [List.set_cons_succ, live_cons_t, h2]⟩
  | (y, false) :: l, 0, x, h => by
    rw [live_cons_f] at h ⊢
    simp only [List.getElem?_cons_zero, Option.some.injEq] at h
    subst h
    exact ⟨0, rfl, by rw [List.set_cons_zero, live_cons_t]; rfl⟩
  | (y, false) :: l, p + 1, x, h => by
    rw [live_cons_f] at h ⊢
    obtain ⟨j, h1, h2⟩ := live_find l p x (by simpa using h)
    exact ⟨j + 1, by simpa using h1, by rw [List.set_cons_succ, live_cons_f, List.eraseIdx_cons_succ, h2]⟩

/-- In the order of sending: behind the first i come as many as there are. -/
theorem live_at : ∀ (l : List (Dg × Bool)) (i : Nat) (x : Dg), l[i]? = some (x, false) → (live l)[(live (l.take i)).length]? = some x ∧ (live (l.take (i + 1))).length = (live (l.take i)).length + 1
  | [], i, x, h => by simp at h
  | (y, b) :: l, 0, x, h => by
    simp only [List.getElem?_cons_zero, Option.some.injEq, Prod.mk.injEq] at h
    obtain ⟨rfl, rfl⟩ := h
    simp [live]
  | (y, true) :: l, i + 1, x, h => by
    obtain ⟨h1, h2⟩ := live_at l i x (by simpa using h)
    simp only [List.take_succ_cons, live_cons_t]
    exact ⟨h1, h2⟩
  | (y, false) :: l, i + 1, x, h => by
    obtain ⟨h1, h2⟩ := live_at l i x (by simpa using h)
    simp only [List.take_succ_cons, live_cons_f, List.length_cons]
    exact ⟨by simpa using h1, by omega⟩
theorem live_skip (l : List (Dg × Bool)) (i : Nat) (x : Dg) (h : l[i]? = some (x, true)) : (live (l.take (i + 1))).length = (live (l.take i)).length := by
  rw [List.take_add_one, h]
  simp [live]

/-- Each is of its number. -/
def Nums (st : List (Dg × Bool)) : Prop := ∀ (j : Nat) (x : Dg) (b : Bool), st[j]? = some (x, b) → x.num = (j : Int) + 1
theorem Nums.nil : Nums [] := fun j x b h => by simp at h
theorem Nums.app {st : List (Dg × Bool)} (h : Nums st) (x : Dg) (hx : x.num = (st.length : Int) + 1) : Nums (st ++ [(x, false)]) := fun j y b hj => by
  rcases Nat.lt_or_ge j st.length with hlt | hge
  · rw [List.getElem?_append_left hlt] at hj
    exact h j y b hj
  · rw [List.getElem?_append_right hge] at hj
    have h0 : j - st.length = 0 := by
      rcases Nat.eq_zero_or_pos (j - st.length) with h0 | h0
      · exact h0
      · rw [List.getElem?_eq_none (by simp; omega)] at hj; cases hj
    rw [h0] at hj
    simp only [List.getElem?_cons_zero, Option.some.injEq, Prod.mk.injEq] at hj
    obtain ⟨rfl, _⟩ := hj
    rw [hx]; omega
theorem Nums.set {st : List (Dg × Bool)} (h : Nums st) (j : Nat) (x : Dg) (hj : st[j]? = some (x, false)) : Nums (st.set j (x, true)) := fun i y b hi => by
  by_cases e : i = j
  · subst e
    have hlt := (List.getElem?_eq_some_iff.1 hj).1
    rw [List.getElem?_set_self hlt] at hi
    simp only [Option.some.injEq, Prod.mk.injEq] at hi
    obtain ⟨rfl, _⟩ := hi
    exact h i x false hj
  · rw [List.getElem?_set_ne (Ne.symm e)] at hi
    exact h i y b hi

theorem fst_set (st : List (Dg × Bool)) (j : Nat) (x : Dg) (hj : st[j]? = some (x, false)) : (st.set j (x, true)).map (·.1) = st.map (·.1) := by
  apply List.ext_getElem?
  intro i
  simp only [List.getElem?_map]
  by_cases e : i = j
  · subst e
    rw [List.getElem?_set_self (List.getElem?_eq_some_iff.1 hj).1, hj]; rfl
  · rw [List.getElem?_set_ne (Ne.symm e)]
def goneRows (st : List (Dg × Bool)) : List (List Value) := st.map fun p => [.bool p.2]
theorem gone_ok (st : List (Dg × Bool)) : RowsOk 1 (goneRows st) := fun r hr => by
  obtain ⟨p, _, rfl⟩ := List.mem_map.1 hr
  exact ⟨rfl, rfl⟩
theorem gone_set (st : List (Dg × Bool)) (j : Nat) (x : Dg) (hj : st[j]? = some (x, false)) : (goneRows st).set j [.bool true] = goneRows (st.set j (x, true)) := by
  unfold goneRows
  rw [List.map_set]

/-- An operation of the script. -/
structure SOp where
  kind : Int
  on : Int
  place : Int
  fn : Int
  fl : Int
  tn : Int
  tl : Int
  data : ByteArray
@[reducible] def SOp.row (o : SOp) : List Value := [.int .i64 o.kind, .int .i64 o.on, .int .i64 o.place, .int .i64 o.fn, .int .i64 o.fl, .int .i64 o.tn, .int .i64 o.tl, .string o.data]
/-- The script, where it lies. -/
def Script (B : Base) (a : Option Addr) (len : Nat) (ops : List SOp) : Prop :=
  ops.length = len ∧ ∀ (i : Nat) (o : SOp), ops[i]? = some o → ∃ b off, a = some ⟨b, off, none⟩ ∧ ∀ (A : List Blk) (j : Nat) (u : Value), o.row[j]? = some u → Rd B A b (off + i * 8 + j) u
end Go.Proofs.Ytcbjdfiikadkbaa
