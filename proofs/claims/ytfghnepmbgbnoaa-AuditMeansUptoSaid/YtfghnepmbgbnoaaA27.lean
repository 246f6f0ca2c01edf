import Derived.Test.YtfghnepmbgbnoaaA24
namespace Go.Proofs.Ytfghnepmbgbnoaa
open Go Go.Sep Go.Proofs
set_option linter.unusedVariables false
set_option linter.unusedSimpArgs false
set_option maxRecDepth 10000

/-! what a history without faults has: plain -/
def lastG (l : List Ev) : Int := l.foldl (fun t e => if e.kind = 5 then e.badge else t) 0
theorem lastG_snoc (l : List Ev) (e : Ev) : lastG (l ++ [e]) = if e.kind = 5 then e.badge else lastG l := by simp [lastG]
/-- How many events of a kind a job has. -/
def cntF (k n : Int) (l : List Ev) : Nat := (l.filter fun e => decide (e.kind = k ∧ e.job = n)).length
theorem cntF_snoc (k n : Int) (l : List Ev) (e : Ev) : cntF k n (l ++ [e]) = cntF k n l + if e.kind = k ∧ e.job = n then 1 else 0 := by
  unfold cntF
  rw [List.filter_append, List.length_append]
  by_cases h : e.kind = k ∧ e.job = n
  · rw [if_pos h, List.filter_cons_of_pos (by simpa using h)]; rfl
  · rw [if_neg h, List.filter_cons_of_neg (by simpa using h)]; rfl
structure Means (a : Au) (l : List Ev) : Prop where
  great : lastG l ≤ a.great
  ends : ∀ j b x, x ∈ lookE a.ends j b → x ∈ l ∧ x.kind = 12 ∧ x.job = j ∧ x.badge = b
  cnt : ∀ n : Int, cntF 7 n l + cntF 9 n l ≤ 1 ∧ (1 ≤ cntF 7 n l + cntF 9 n l → settledA a.jobs n = true)
theorem Means.new : Means Au.new [] := ⟨Int.le_refl _, (fun _ _ _ h => by cases h), fun n => ⟨by simp [cntF], fun h => by simp [cntF] at h⟩⟩
theorem lookE_put : ∀ (m : Es) (e : Ev) (j b : Int) (x : Ev), x ∈ lookE (putE m e) j b → x ∈ lookE m j b ∨ (x = e ∧ e.job = j ∧ e.badge = b)
  | [], e, j, b, x, h => by
    unfold putE lookE at h
    split at h
    · rename_i hc
      obtain rfl := List.mem_singleton.1 h
      exact .inr ⟨rfl, hc.1.symm, hc.2.symm⟩
    · cases h
  | t :: m, e, j, b, x, h => by
    unfold putE at h
    split at h
    · rename_i hc
      unfold lookE at h ⊢
      dsimp only at h
      by_cases hq : j = t.1 ∧ b = t.2.1
      · rw [if_pos hq] at h ⊢
        rcases List.mem_append.1 h with h | h
        · exact .inl h
        · obtain rfl := List.mem_singleton.1 h
          exact .inr ⟨rfl, by omega, by omega⟩
      · rw [if_neg hq] at h ⊢; exact .inl h
    · unfold lookE at h ⊢
      by_cases hq : j = t.1 ∧ b = t.2.1
      · rw [if_pos hq] at h ⊢; exact .inl h
      · rw [if_neg hq] at h ⊢; exact lookE_put m e j b x h
theorem settled_iff {l : List Jb} {n : Int} : settledA l n = true ↔ ∃ j, jobAt l n = some j ∧ (j.status = 3 ∨ j.status = 4) := by
  unfold settledA
  cases h : jobAt l n with
  | none => simp
  | some j => simp
/-- A job that isn't settled is written. -/
theorem settled_set {l : List Jb} {n m : Int} {j x : Jb} (hj : jobAt l n = some j) (hn : ¬ (j.status = 3 ∨ j.status = 4)) (h : settledA l m = true) : m ≠ n ∧ settledA (jobSet l n x) m = true := by
  obtain ⟨y, hy, hs⟩ := settled_iff.1 h
  have hm : m ≠ n := by
    rintro rfl
    rw [hj] at hy
    injection hy with hy
    subst hy; exact hn hs
  exact ⟨hm, settled_iff.2 ⟨y, by rw [jobAt_set hj, if_neg hm]; exact hy, hs⟩⟩
theorem settled_app {l : List Jb} {m : Int} {x : Jb} (h : settledA l m = true) : settledA (l ++ [x]) m = true := by
  obtain ⟨y, hy, hs⟩ := settled_iff.1 h
  refine settled_iff.2 ⟨y, ?_, hs⟩
  rw [jobAt_app, if_neg]
  · exact hy
  · rintro rfl
    unfold jobAt at hy
    rw [if_neg (by omega)] at hy
    cases hy
theorem cnt_other {l : List Ev} {e : Ev} (h : e.kind ≠ 7 ∧ e.kind ≠ 9) (n : Int) : cntF 7 n (l ++ [e]) + cntF 9 n (l ++ [e]) = cntF 7 n l + cntF 9 n l := by
  rw [cntF_snoc, cntF_snoc, if_neg (fun q => h.1 q.1), if_neg (fun q => h.2 q.1)]; rfl
theorem Means.more {a a' : Au} {l : List Ev} {e : Ev} (h : Means a l) (hk : e.kind ≠ 7 ∧ e.kind ≠ 9) (hg : lastG (l ++ [e]) ≤ a'.great) (he : a'.ends = a.ends) (hs : ∀ n, settledA a.jobs n = true → settledA a'.jobs n = true) : Means a' (l ++ [e]) :=
  ⟨hg, fun j b x hx => by
    rw [he] at hx
    obtain ⟨h1, h2⟩ := h.ends j b x hx
    exact ⟨List.mem_append_left _ h1, h2⟩, fun n => by
    rw [cnt_other hk n]
    exact ⟨(h.cnt n).1, fun hc => hs n ((h.cnt n).2 hc)⟩⟩
/-- An end of a job: its count was none. -/
theorem Means.over {a a' : Au} {l : List Ev} {e : Ev} {j x : Jb} (h : Means a l) (hk : e.kind = 7 ∨ e.kind = 9) (hg : lastG (l ++ [e]) ≤ a'.great) (he : a'.ends = a.ends) (hj : jobAt a.jobs e.job = some j) (hst : j.status = 2) (hjobs : a'.jobs = jobSet a.jobs e.job x) (hx : x.status = 3 ∨ x.status = 4) : Means a' (l ++ [e]) :=
  ⟨hg, fun j b x hx => by
    rw [he] at hx
    obtain ⟨h1, h2⟩ := h.ends j b x hx
    exact ⟨List.mem_append_left _ h1, h2⟩, fun n => by
    have hc := h.cnt n
    rw [cntF_snoc, cntF_snoc, hjobs]
    by_cases hn : n = e.job
    · subst hn
      have h0 : ¬ 1 ≤ cntF 7 e.job l + cntF 9 e.job l := fun h1 => by
        obtain ⟨y, hy, hs⟩ := settled_iff.1 (hc.2 h1)
        rw [hj] at hy
        injection hy with hy
        subst hy; omega
      refine ⟨?_, fun _ => settled_iff.2 ⟨x, by rw [jobAt_set hj, if_pos rfl], hx⟩⟩
      rcases hk with hk | hk
      · rw [if_pos ⟨hk, rfl⟩, if_neg (fun q => by omega)]; omega
      · rw [if_neg (fun q => by omega), if_pos ⟨hk, rfl⟩]; omega
    · rw [if_neg (fun q => hn q.2.symm), if_neg (fun q => hn q.2.symm)]
      exact ⟨by omega, fun h1 => (settled_set hj (by omega) (hc.2 (by omega))).2⟩⟩
theorem Means.head {a : Au} {l : List Ev} (h : Means a l) (e : Ev) : Means (headF a e).1 l ∧ (headF a e).1.great = a.great := by
  unfold headF
  split
  · exact ⟨⟨h.great, h.ends, h.cnt⟩, rfl⟩
  · exact ⟨h, rfl⟩

/-- What an event without a fault says. -/
def Says (l : List Ev) (e : Ev) : Prop := (e.kind = 5 → lastG l < e.badge) ∧ (e.kind = 9 → ∃ y ∈ l, y.kind = 12 ∧ y.job = e.job ∧ y.badge = e.badge ∧ y.rcode = e.rcode ∧ y.rbits = e.rbits)
theorem Says.no {l : List Ev} {e : Ev} (h5 : e.kind ≠ 5) (h9 : e.kind ≠ 9) : Says l e := ⟨fun h => absurd h h5, fun h => absurd h h9⟩
theorem mayA_stays {a : Au} {e : Ev} {j : Jb} (h : mayA a e = true) (hn : e.job ≠ a.jobs.length + 1) (hj : jobAt a.jobs e.job = some j) : e.status = j.status ∨ ¬ (j.status = 3 ∨ j.status = 4) := by
  unfold mayA at h
  split at h
  · cases h
  (try rw [if_neg hn] at h)
  rw [hj] at h
  dsimp only at h
  split at h
  · split at h
    · rename_i hc; exact .inl hc.1
    · split at h
      · rename_i hc; exact .inr (by omega)
      · cases h
  · have := (Bool.and_eq_true _ _ ▸ h).1
    exact .inr (by simp at this; omega)
theorem Means.act {a : Au} {l : List Ev} {e : Ev} (h : Means a l) (hf : (actF a e).2 = []) : Means (actF a e).1 (l ++ [e]) ∧ Says l e := by
  have htop : e.kind ≠ 5 → lastG (l ++ [e]) ≤ a.great := fun h5 => by rw [lastG_snoc, if_neg h5]; exact h.great
  by_cases hkk : e.kind ∈ kinds
  case neg =>
    rw [act_none hkk]
    simp only [kinds, List.mem_cons, List.not_mem_nil, or_false, not_or] at hkk
    exact ⟨h.more ⟨by omega, by omega⟩ (htop (by omega)) rfl (fun _ h => h), Says.no (by omega) (by omega)⟩
  unfold actF at hf ⊢
  by_cases h2 : e.kind = 2
  · rw [if_pos h2] at hf ⊢
    refine ⟨?_, Says.no (by omega) (by omega)⟩
    unfold submittedF at hf ⊢
    split
    · exact h.more ⟨by omega, by omega⟩ (htop (by omega)) rfl fun n hn => settled_app hn
    · exact h.more ⟨by omega, by omega⟩ (htop (by omega)) rfl (fun _ h => h)
  rw [if_neg h2] at hf ⊢
  by_cases h5 : e.kind = 5
  · rw [if_pos h5] at hf ⊢
    unfold grantedF at hf ⊢
    dsimp only at hf ⊢
    obtain ⟨f3, f4⟩ := List.append_eq_nil_iff.1 hf
    have hlt : a.great < e.badge := by
      have := brk_nil.1 f3
      simp at this; omega
    have hg := h.great
    refine ⟨?_, fun _ => by omega, fun h9 => by omega⟩
    cases hj : jobAt a.jobs e.job with
    | none => rw [hj] at f4; simp [brk] at f4
    | some j =>
      rw [hj] at f4
      have hst : j.status = 1 := by
        have := brk_nil.1 f4
        simpa using this
      dsimp only
      exact h.more ⟨by omega, by omega⟩ (by rw [lastG_snoc, if_pos h5]; exact Int.le_max_right _ _) rfl fun n hn => (settled_set hj (by omega) hn).2
  rw [if_neg h5] at hf ⊢
  by_cases h8 : e.kind = 8
  · rw [if_pos h8] at hf ⊢
    refine ⟨?_, Says.no (by omega) (by omega)⟩
    unfold storedF at hf ⊢
    cases hh : heldA a.jobs e with
    | none => rw [hh] at hf; cases hf
    | some j =>
      obtain ⟨hj, hst, _⟩ := heldA_some' hh
      dsimp only
      exact h.more ⟨by omega, by omega⟩ (htop (by omega)) rfl fun n hn => (settled_set hj (by omega) hn).2
  rw [if_neg h8] at hf ⊢
  have hover : (overF a e).2 = [] → ∃ j, heldA a.jobs e = some j ∧ (overF a e).1 = { a with jobs := jobSet a.jobs e.job { j with status := if e.kind = 7 then 4 else 1 } } := fun hf => by
    unfold overF at hf ⊢
    dsimp only at hf ⊢
    cases hh : heldA a.jobs e with
    | none =>
      rw [hh] at hf
      dsimp only at hf
      obtain ⟨f1, f4⟩ := List.append_eq_nil_iff.1 hf
      have e1 := brk_nil.1 f1
      have e4 := brk_nil.1 f4
      rw [e1] at e4; cases e4
    | some j => exact ⟨j, rfl, rfl⟩
  by_cases h6 : e.kind = 6
  · rw [if_pos h6] at hf ⊢
    refine ⟨?_, Says.no (by omega) (by omega)⟩
    obtain ⟨j, hh, hq⟩ := hover hf
    obtain ⟨hj, hst, _⟩ := heldA_some' hh
    rw [hq]
    exact h.more ⟨by omega, by omega⟩ (htop (by omega)) rfl fun n hn => (settled_set hj (by omega) hn).2
  rw [if_neg h6] at hf ⊢
  by_cases h7 : e.kind = 7
  · rw [if_pos h7] at hf ⊢
    refine ⟨?_, Says.no (by omega) (by omega)⟩
    obtain ⟨j, hh, hq⟩ := hover hf
    obtain ⟨hj, hst, _⟩ := heldA_some' hh
    rw [hq]
    exact h.over (.inl h7) (htop (by omega)) rfl hj hst rfl (.inr (if_pos h7))
  rw [if_neg h7] at hf ⊢
  by_cases h9 : e.kind = 9
  · rw [if_pos h9] at hf ⊢
    unfold recordedF at hf ⊢
    dsimp only at hf ⊢
    obtain ⟨f1, f2⟩ := List.append_eq_nil_iff.1 hf
    obtain ⟨f4, f3⟩ := List.append_eq_nil_iff.1 f2
    have e1 := brk_nil.1 f1
    have e4 := brk_nil.1 f4
    rw [e1] at e4
    cases hh : heldA a.jobs e with
    | none => rw [hh] at e4; cases e4
    | some j =>
      obtain ⟨hj, hst, hbd⟩ := heldA_some' hh
      dsimp only
      refine ⟨h.over (.inr h9) (htop (by omega)) rfl hj hst rfl (.inl rfl), fun h => absurd h h5, fun _ => ?_⟩
      rw [hj] at f3
      dsimp only at f3
      unfold realL at f3
      have f5 := brk_nil.1 (List.append_eq_nil_iff.1 f3).1
      have f6 : ((lookE a.ends e.job e.badge).any fun x => sameR x e) = true := by simpa using f5
      obtain ⟨y, hy, hs⟩ := List.any_eq_true.1 f6
      obtain ⟨g1, g2, g3, g4⟩ := h.ends _ _ _ hy
      have hs := of_decide_eq_true (p := y.rcode = e.rcode ∧ y.rbits = e.rbits) hs
      exact ⟨y, g1, g2, g3, g4, hs.1, hs.2⟩
  rw [if_neg h9] at hf ⊢
  by_cases h13 : e.kind = 13
  · rw [if_pos h13] at hf ⊢
    refine ⟨?_, Says.no h5 h9⟩
    unfold admitsF
    dsimp only
    split
    · exact h.more ⟨h7, h9⟩ (htop h5) rfl (fun _ h => h)
    · exact h.more ⟨h7, h9⟩ (htop h5) rfl (fun _ h => h)
  rw [if_neg h13] at hf ⊢
  by_cases h4 : e.kind = 4
  · rw [if_pos h4] at hf ⊢
    refine ⟨?_, Says.no h5 h9⟩
    unfold upF
    split
    · exact h.more ⟨h7, h9⟩ (htop h5) rfl (fun _ h => h)
    · exact h.more ⟨h7, h9⟩ (htop h5) rfl (fun _ h => h)
  rw [if_neg h4] at hf ⊢
  by_cases h14 : e.kind = 14
  · rw [if_pos h14] at hf ⊢
    refine ⟨?_, Says.no h5 h9⟩
    unfold showsF at hf ⊢
    dsimp only at hf ⊢
    have hm : mayA a e = true := by
      have := brk_nil.1 (List.append_eq_nil_iff.1 hf).1
      simpa using this
    have hg := htop h5
    split
    · rename_i hc
      obtain ⟨j, hj⟩ : ∃ j, jobAt a.jobs e.job = some j := ⟨_, by unfold jobAt; rw [if_pos hc]; exact List.getElem?_eq_getElem (by omega)⟩
      refine h.more ⟨h7, h9⟩ (Int.le_trans hg (Int.le_max_left _ _)) rfl fun n hn => ?_
      dsimp only
      rcases mayA_stays hm (by omega) hj with hs | hs
      · obtain ⟨y, hy, hys⟩ := settled_iff.1 hn
        by_cases hne : n = e.job
        · subst hne
          rw [hj] at hy
          injection hy with hy
          subst hy
          exact settled_iff.2 ⟨_, by rw [jobAt_set hj, if_pos rfl], by dsimp only; rw [hs]; exact hys⟩
        · exact settled_iff.2 ⟨y, by rw [jobAt_set hj, if_neg hne]; exact hy, hys⟩
      · exact (settled_set hj hs hn).2
    · split
      · exact h.more ⟨h7, h9⟩ (Int.le_trans hg (Int.le_max_left _ _)) rfl fun n hn => settled_app hn
      · exact h.more ⟨h7, h9⟩ hg rfl (fun _ h => h)
  rw [if_neg h14] at hf ⊢
  refine ⟨?_, Says.no h5 h9⟩
  by_cases h10 : e.kind = 10
  · rw [if_pos h10]; exact h.more ⟨h7, h9⟩ (htop h5) rfl (fun _ h => h)
  rw [if_neg h10]
  by_cases h11 : e.kind = 11
  · rw [if_pos h11]; exact h.more ⟨h7, h9⟩ (htop h5) rfl (fun _ h => h)
  rw [if_neg h11]
  by_cases h12 : e.kind = 12
  · rw [if_pos h12]
    refine ⟨htop h5, fun j b x hx => ?_, fun n => ?_⟩
    · rcases lookE_put _ _ _ _ _ hx with hx | ⟨rfl, hj, hb⟩
      · obtain ⟨g1, g2⟩ := h.ends j b x hx
        exact ⟨List.mem_append_left _ g1, g2⟩
      · exact ⟨List.mem_append_right _ (List.mem_singleton.2 rfl), h12, hj, hb⟩
    · rw [cnt_other ⟨h7, h9⟩ n]; exact h.cnt n
  · rw [if_neg h12]; exact h.more ⟨h7, h9⟩ (htop h5) rfl (fun _ h => h)
theorem Means.step {a : Au} {l : List Ev} {e : Ev} (h : Means a l) (hf : (evF a e).2 = []) : Means (evF a e).1 (l ++ [e]) ∧ Says l e := by
  unfold evF at hf ⊢
  dsimp only at hf ⊢
  rw [norm_eq_nil (all_in8 a e)] at hf
  exact (h.head e).1.act (List.append_eq_nil_iff.1 hf).2
theorem means_run : ∀ (l : List Ev) (a : Au) (n : Nat) (pre : List Ev), Means a pre → (runF a n l).2 = [] → Means (runF a n l).1 (pre ++ l) ∧ ∀ i x, l[i]? = some x → Says (pre ++ l.take i) x
  | [], a, n, pre, h, _ => ⟨by rw [List.append_nil]; exact h, fun i x hx => by cases hx⟩
  | e :: t, a, n, pre, h, hf => by
    unfold runF at hf
    dsimp only at hf
    obtain ⟨f1, f2⟩ := List.append_eq_nil_iff.1 hf
    obtain ⟨s1, s2⟩ := h.step (List.map_eq_nil_iff.1 f1)
    obtain ⟨r1, r2⟩ := means_run t _ (n + 1) (pre ++ [e]) s1 f2
    refine ⟨by unfold runF; rw [List.append_assoc] at r1; exact r1, fun i x hx => ?_⟩
    cases i with
    | zero =>
      injection hx with hx
      subst hx
      rw [List.take_zero, List.append_nil]; exact s2
    | succ i =>
      have := r2 i x hx
      rw [List.append_assoc] at this; exact this
end Go.Proofs.Ytfghnepmbgbnoaa
