import Derived.Test.YtfghnepmbgbnoaaA0
import Derived.Test.YtfghnepmbgbnoaaSep27
namespace Go.Proofs.Ytfghnepmbgbnoaa
open Go Go.Sep Go.Proofs
set_option linter.unusedVariables false
set_option linter.unusedSimpArgs false
set_option maxRecDepth 10000

/-! which rules an event breaks: plain -/
theorem sorted_ext : ∀ {a b : List Int}, a.Pairwise (· < ·) → b.Pairwise (· < ·) → (∀ x, x ∈ a ↔ x ∈ b) → a = b
  | [], [], _, _, _ => rfl
  | [], y :: b, _, _, h => by have := (h y).2 (List.mem_cons_self ..); cases this
  | x :: a, [], _, _, h => by have := (h x).1 (List.mem_cons_self ..); cases this
  | x :: a, y :: b, ha, hb, h => by
    obtain ⟨h1, h2⟩ := List.pairwise_cons.1 ha
    obtain ⟨h3, h4⟩ := List.pairwise_cons.1 hb
    have e : x = y := by
      have p1 := (h x).1 (List.mem_cons_self ..)
      have p2 := (h y).2 (List.mem_cons_self ..)
      rcases List.mem_cons.1 p1 with e | p1
      · exact e
      · rcases List.mem_cons.1 p2 with e | p2
        · exact e.symm
        · have := h3 x p1; have := h1 y p2; omega
    subst e
    rw [sorted_ext h2 h4 fun z => ?_]
    constructor
    · intro hz
      rcases List.mem_cons.1 ((h z).1 (List.mem_cons_of_mem _ hz)) with rfl | hz'
      · have := h1 z hz; omega
      · exact hz'
    · intro hz
      rcases List.mem_cons.1 ((h z).2 (List.mem_cons_of_mem _ hz)) with rfl | hz'
      · have := h3 z hz; omega
      · exact hz'
def In8 (l : List Int) : Prop := ∀ n ∈ l, 1 ≤ n ∧ n ≤ 8
theorem norm_mem {l : List Int} (h : In8 l) (n : Int) : n ∈ norm l ↔ n ∈ l := by
  unfold norm
  simp only [List.mem_filter, decide_eq_true_eq]
  refine ⟨fun h => h.2, fun hn => ⟨?_, hn⟩⟩
  have := h n hn
  simp only [List.mem_cons, List.not_mem_nil, or_false]
  omega
theorem norm_sorted (l : List Int) : (norm l).Pairwise (· < ·) := List.Pairwise.filter _ (by decide)
theorem sorted_of {ys l : List Int} (hp : ys.Perm l) (hs : ys.Pairwise (· ≤ ·)) (hn : l.Nodup) (h8 : In8 l) : ys.Pairwise (· < ·) ∧ ys = norm l := by
  have h1 : ys.Pairwise (· < ·) := by
    have h2 : ys.Nodup := hp.nodup_iff.2 hn
    exact (List.Pairwise.and hs h2).imp fun h => by have h1 := h.1; have h2 := h.2; omega
  exact ⟨h1, sorted_ext h1 (norm_sorted l) fun x => by rw [norm_mem h8, hp.mem_iff]⟩
theorem perm_two {ys : List Int} {x : Int} (hp : ys.Perm [x, x]) : ys = [x, x] := by
  have hm : ∀ y ∈ ys, y = x := fun y hy => by have := hp.mem_iff.1 hy; simpa using this
  have hl := hp.length_eq
  match ys, hl with
  | [a, b], _ => rw [hm a (by simp), hm b (by simp)]

theorem nod4 (b1 b2 b3 b4 : Bool) : (brk 1 b1 ++ (brk 4 b2 ++ (brk 2 b3 ++ brk 6 b4))).Nodup ∧ ∀ n ∈ (brk 1 b1 ++ (brk 4 b2 ++ (brk 2 b3 ++ brk 6 b4))), 1 ≤ n ∧ n ≤ 7 := by
  cases b1 <;> cases b2 <;> cases b3 <;> cases b4 <;> decide
theorem nod8 (b1 b2 b3 b4 : Bool) : (brk 8 b1 ++ (brk 5 b2 ++ (brk 2 b3 ++ brk 6 b4))).Nodup ∧ ∀ n ∈ (brk 8 b1 ++ (brk 5 b2 ++ (brk 2 b3 ++ brk 6 b4))), 1 ≤ n ∧ n ≤ 8 := by
  cases b1 <;> cases b2 <;> cases b3 <;> cases b4 <;> decide
theorem nod8' (b1 b2 : Bool) : (brk 8 b1 ++ (brk 5 b2 ++ [])).Nodup ∧ ∀ n ∈ (brk 8 b1 ++ (brk 5 b2 ++ [])), 1 ≤ n ∧ n ≤ 8 := by
  cases b1 <;> cases b2 <;> decide
theorem nod2 (b1 b2 : Bool) : (brk 1 b1 ++ brk 4 b2).Nodup ∧ ∀ n ∈ (brk 1 b1 ++ brk 4 b2), 1 ≤ n ∧ n ≤ 7 := by
  cases b1 <;> cases b2 <;> decide
theorem nod2' (b1 b2 : Bool) : (brk 3 b1 ++ brk 4 b2).Nodup ∧ ∀ n ∈ (brk 3 b1 ++ brk 4 b2), 1 ≤ n ∧ n ≤ 7 := by
  cases b1 <;> cases b2 <;> decide
theorem nod1 (n : Int) (b : Bool) (h : 1 ≤ n ∧ n ≤ 7) : (brk n b).Nodup ∧ ∀ m ∈ brk n b, 1 ≤ m ∧ m ≤ 7 := by
  cases b
  · exact ⟨List.nodup_nil, fun m hm => by cases hm⟩
  · exact ⟨by simp [brk], fun m hm => by simp [brk] at hm; omega⟩
theorem nil7 : ([] : List Int).Nodup ∧ ∀ m ∈ ([] : List Int), 1 ≤ m ∧ m ≤ 7 := ⟨List.nodup_nil, fun m hm => by cases hm⟩

theorem act_other (a : Au) (e : Ev) (h2 : e.kind ≠ 2) (h14 : e.kind ≠ 14) : (actF a e).2.Nodup ∧ ∀ n ∈ (actF a e).2, 1 ≤ n ∧ n ≤ 7 := by
  have hover : (overF a e).2.Nodup ∧ ∀ n ∈ (overF a e).2, 1 ≤ n ∧ n ≤ 7 := by
    unfold overF
    dsimp only
    split
    · exact nod2 _ _
    · exact nod1 1 _ (by decide)
  unfold actF
  rw [if_neg h2]
  by_cases h5 : e.kind = 5
  · rw [if_pos h5]; exact nod2' _ _
  rw [if_neg h5]
  by_cases h8 : e.kind = 8
  · rw [if_pos h8]
    unfold storedF
    split
    · exact nod1 4 true (by decide)
    · exact nod1 5 _ (by decide)
  rw [if_neg h8]
  by_cases h6 : e.kind = 6
  · rw [if_pos h6]; exact hover
  rw [if_neg h6]
  by_cases h7 : e.kind = 7
  · rw [if_pos h7]; exact hover
  rw [if_neg h7]
  by_cases h9 : e.kind = 9
  · rw [if_pos h9]
    unfold recordedF
    dsimp only
    split <;> exact nod4 _ _ _ _
  rw [if_neg h9]
  by_cases h13 : e.kind = 13
  · rw [if_pos h13]
    unfold admitsF
    dsimp only
    split
    · exact nod1 7 true (by decide)
    · exact nod1 7 _ (by decide)
  rw [if_neg h13]
  by_cases h4 : e.kind = 4
  · rw [if_pos h4]
    unfold upF
    split <;> exact nil7
  rw [if_neg h4, if_neg h14]
  by_cases h10 : e.kind = 10
  · rw [if_pos h10]; exact nil7
  rw [if_neg h10]
  by_cases h11 : e.kind = 11
  · rw [if_pos h11]; exact nil7
  rw [if_neg h11]
  by_cases h12 : e.kind = 12
  · rw [if_pos h12]; exact nil7
  rw [if_neg h12]; exact nil7
theorem act_two (a : Au) (e : Ev) (h2 : e.kind = 2) : (actF a e).2 = [] ∨ (actF a e).2 = [8] := by
  unfold actF
  rw [if_pos h2]
  unfold submittedF
  split
  · exact .inl rfl
  · exact .inr rfl
theorem act_14 (a : Au) (e : Ev) (h : e.kind = 14) : (actF a e).2.Nodup ∧ In8 (actF a e).2 := by
  unfold actF
  rw [if_neg (by omega), if_neg (by omega), if_neg (by omega), if_neg (by omega), if_neg (by omega), if_neg (by omega), if_neg (by omega), if_neg (by omega), if_pos h]
  unfold showsF
  have key : ∀ RL : List Int, (RL = [] ∨ ∃ b1 b2, RL = brk 2 b1 ++ brk 6 b2) → ∀ b3 b4, (brk 8 b3 ++ (brk 5 b4 ++ RL)).Nodup ∧ In8 (brk 8 b3 ++ (brk 5 b4 ++ RL)) := fun RL h b3 b4 => by
    rcases h with rfl | ⟨b1, b2, rfl⟩
    · exact nod8' _ _
    · exact nod8 _ _ _ _
  refine key _ ?_ _ _
  by_cases hc : e.status = 3 ∧ (match jobAt a.jobs e.job with
      | some j => decide (j.status ≠ 3)
      | none => true) = true
  · exact .inr ⟨_, _, if_pos hc⟩
  · exact .inl (if_neg hc)
theorem head_list (a : Au) (e : Ev) : (headF a e).2 = [] ∨ ((headF a e).2 = [8] ∧ e.kind ≠ 14) := by
  unfold headF
  split
  · rename_i h
    cases decide (a.shn < a.jobs.length)
    · exact .inl rfl
    · exact .inr ⟨rfl, h.2⟩
  · exact .inl rfl
theorem all_list (a : Au) (e : Ev) (l : List Int) (h : l = (headF a e).2 ++ (actF (headF a e).1 e).2) : (l.Nodup ∧ In8 l) ∨ l = [8, 8] := by
  subst h
  by_cases h14 : e.kind = 14
  · rcases head_list a e with h | ⟨_, h⟩
    · rw [h]; exact .inl (act_14 _ e h14)
    · exact absurd h14 h
  by_cases h2 : e.kind = 2
  · rcases head_list a e with h | ⟨h, _⟩ <;> rw [h] <;> rcases act_two (headF a e).1 e h2 with q | q <;> rw [q]
    · exact .inl ⟨by simp, fun n hn => by cases hn⟩
    · exact .inl ⟨by simp, fun n hn => by simp at hn; omega⟩
    · exact .inl ⟨by simp, fun n hn => by simp at hn; omega⟩
    · exact .inr rfl
  · obtain ⟨q1, q2⟩ := act_other (headF a e).1 e h2 h14
    rcases head_list a e with h | ⟨h, _⟩ <;> rw [h]
    · exact .inl ⟨q1, fun n hn => by have := q2 n hn; omega⟩
    · refine .inl ⟨List.nodup_cons.2 ⟨fun hm => by have := q2 8 hm; omega, q1⟩, fun n hn => ?_⟩
      rcases List.mem_cons.1 hn with rfl | hn
      · decide
      · have := q2 n hn; omega
theorem nodup_few {l : List Int} (hn : l.Nodup) (h8 : In8 l) : l.length ≤ 8 := by
  have h1 : ∀ {a b : List Int}, a.Nodup → (∀ x ∈ a, x ∈ b) → a.length ≤ b.length := by
    intro a
    induction a with
    | nil => intro b _ _; exact Nat.zero_le _
    | cons x a ih =>
      intro b ha hb
      obtain ⟨h1, h2⟩ := List.nodup_cons.1 ha
      have hx := hb x (List.mem_cons_self ..)
      have := ih (b := b.erase x) h2 fun y hy => (List.mem_erase_of_ne (fun e => h1 (by subst e; exact hy))).2 (hb y (List.mem_cons_of_mem _ hy))
      rw [List.length_erase_of_mem hx] at this
      have hpos := List.length_pos_of_mem hx
      simp only [List.length_cons]; omega
  refine h1 (b := [1, 2, 3, 4, 5, 6, 7, 8]) hn fun x hx => ?_
  have := h8 x hx
  simp only [List.mem_cons, List.not_mem_nil, or_false]; omega

def kinds : List Int := [2, 5, 8, 6, 7, 9, 13, 4, 14, 10, 11, 12]
theorem kinds_nodup : kinds.Nodup := by decide
theorem act_none {a : Au} {e : Ev} (h : e.kind ∉ kinds) : actF a e = (a, []) := by
  simp only [kinds, List.mem_cons, List.not_mem_nil, or_false, not_or] at h
  obtain ⟨h1, h2, h3, h4, h5, h6, h7, h8, h9, h10, h11, h12⟩ := h
  unfold actF
  rw [if_neg h1, if_neg h2, if_neg h3, if_neg h4, if_neg h5, if_neg h6, if_neg h7, if_neg h8, if_neg h9, if_neg h10, if_neg h11, if_neg h12]
end Go.Proofs.Ytfghnepmbgbnoaa
