import Derived.Test.YtfghnepmbgbnoaaA21
namespace Go.Proofs.Ytfghnepmbgbnoaa
open Go Go.Sep Go.Proofs
set_option linter.unusedVariables false
set_option linter.unusedSimpArgs false
set_option maxRecDepth 10000

/-! the last event of a job, in a history without faults: plain -/
/-- What AuditJudges keeps: the greatest badge granted; of a job the last event's kind and badge. -/
def isJobEv (k : Int) : Bool := decide (k = 2 ∨ k = 5 ∨ k = 6 ∨ k = 7 ∨ k = 9)
def topF (l : List Ev) : Int := l.foldl (fun t e => if e.kind = 5 then max t e.badge else t) 0
def lastF (n : Int) (l : List Ev) : Int × Int := l.foldl (fun t e => if e.job = n ∧ isJobEv e.kind = true then (e.kind, e.badge) else t) (0, 0)
theorem topF_snoc (l : List Ev) (e : Ev) : topF (l ++ [e]) = if e.kind = 5 then max (topF l) e.badge else topF l := by simp [topF]
theorem lastF_snoc (n : Int) (l : List Ev) (e : Ev) : lastF n (l ++ [e]) = if e.job = n ∧ isJobEv e.kind = true then (e.kind, e.badge) else lastF n l := by simp [lastF]

/-- How a job stands, and the last event of it. -/
def Stands (o : Option Jb) (q : Int × Int) : Prop := match o with
  | none => q.1 = 0
  | some j => (j.status = 1 ∧ (q.1 = 2 ∨ q.1 = 6)) ∨ (j.status = 2 ∧ q.1 = 5 ∧ q.2 = j.badge) ∨ (j.status = 3 ∧ q.1 = 9) ∨ (j.status = 4 ∧ q.1 = 7)
structure Hist (a : Au) (l : List Ev) : Prop where
  sh : a.sh = false
  great : a.great = topF l
  job : ∀ n : Int, 1 ≤ n → Stands (jobAt a.jobs n) (lastF n l)
theorem norm_eq_nil {l : List Int} (h : In8 l) : norm l = [] ↔ l = [] := by
  constructor
  · intro hn
    cases l with
    | nil => rfl
    | cons x l =>
      have := (norm_mem h x).2 (List.mem_cons_self ..)
      rw [hn] at this; cases this
  · rintro rfl; exact norm_nil
theorem all_in8 (a : Au) (e : Ev) : In8 ((headF a e).2 ++ (actF (headF a e).1 e).2) := by
  rcases all_list a e _ rfl with h | h
  · exact h.2
  · rw [h]; intro n hn; simp at hn; omega
theorem jobAt_set {α : Type} {l : List α} {n m : Int} {x y : α} (h : jobAt l n = some y) : jobAt (jobSet l n x) m = if m = n then some x else jobAt l m := by
  obtain ⟨h1, h2⟩ : (1 ≤ n ∧ n ≤ l.length) ∧ l[(n - 1).toNat]? = some y := by
    unfold jobAt at h
    split at h
    · rename_i hc; exact ⟨hc, h⟩
    · cases h
  unfold jobSet
  rw [if_pos h1]
  unfold jobAt
  rw [List.length_set]
  by_cases hm : m = n
  · subst hm
    rw [if_pos h1, if_pos rfl, List.getElem?_set_self (by omega)]
  · rw [if_neg hm]
    split
    · rw [List.getElem?_set_ne (by omega)]
    · rfl
theorem jobAt_app {α : Type} {l : List α} {m : Int} {x : α} : jobAt (l ++ [x]) m = if m = l.length + 1 then some x else jobAt l m := by
  unfold jobAt
  rw [List.length_append, List.length_singleton]
  by_cases hm : m = l.length + 1
  · rw [if_pos hm, if_pos (by omega), show (m - 1).toNat = l.length from by omega]; simp
  · rw [if_neg hm]
    by_cases hc : 1 ≤ m ∧ m ≤ l.length
    · rw [if_pos hc, if_pos (by omega), List.getElem?_append_left (by omega)]
    · rw [if_neg hc, if_neg (by omega)]
theorem brk_nil {n : Int} {b : Bool} : brk n b = [] ↔ b = false := by cases b <;> simp [brk]
theorem heldA_some' {l : List Jb} {e : Ev} {j : Jb} (h : heldA l e = some j) : jobAt l e.job = some j ∧ j.status = 2 ∧ j.badge = e.badge := by
  unfold heldA at h
  cases hj : jobAt l e.job with
  | none => rw [hj] at h; cases h
  | some x =>
    rw [hj] at h
    dsimp only at h
    split at h
    · rename_i hc
      injection h with h
      subst h
      exact ⟨rfl, hc⟩
    · cases h
theorem heldA_none' {l : List Jb} {e : Ev} (h : heldA l e = none) : ∀ j, jobAt l e.job = some j → ¬ (j.status = 2 ∧ j.badge = e.badge) := fun j hj hc => by
  unfold heldA at h
  rw [hj] at h
  dsimp only at h
  rw [if_pos hc] at h
  cases h
theorem Stands.same {o o' : Option Jb} {q : Int × Int} (h : Stands o q) (ho : o = o' ∨ ∃ j j', o = some j ∧ o' = some j' ∧ j'.status = j.status ∧ j'.badge = j.badge) : Stands o' q := by
  rcases ho with rfl | ⟨j, j', rfl, rfl, h1, h2⟩
  · exact h
  · unfold Stands at h ⊢
    dsimp only at h ⊢
    rw [h1, h2]; exact h
theorem lastF_other {n : Int} {l : List Ev} {e : Ev} (h : e.job ≠ n ∨ isJobEv e.kind = false) : lastF n (l ++ [e]) = lastF n l := by
  rw [lastF_snoc, if_neg]
  rintro ⟨h1, h2⟩
  rcases h with h | h
  · exact h h1
  · rw [h] at h2; cases h2
theorem lastF_own {l : List Ev} {e : Ev} (h : isJobEv e.kind = true) : lastF e.job (l ++ [e]) = (e.kind, e.badge) := by
  rw [lastF_snoc, if_pos ⟨rfl, h⟩]
theorem evF_nosh {a : Au} (e : Ev) (h : a.sh = false) : evF a e = ((actF a e).1, norm (actF a e).2) := by
  have hh : headF a e = (a, []) := by unfold headF; rw [if_neg (fun h2 => by rw [h] at h2; cases h2.1)]
  unfold evF
  rw [hh]; rfl
theorem act_in8 (a : Au) (e : Ev) (h : a.sh = false) : In8 (actF a e).2 := by
  have := all_in8 a e
  have hh : headF a e = (a, []) := by unfold headF; rw [if_neg (fun h2 => by rw [h] at h2; cases h2.1)]
  rw [hh] at this; exact this
/-- A job's row is written, at an event of that job. -/
theorem Hist.set {a a' : Au} {l : List Ev} {e : Ev} {j x : Jb} (h : Hist a l) (hk : isJobEv e.kind = true) (hj : jobAt a.jobs e.job = some j) (hjobs : a'.jobs = jobSet a.jobs e.job x) (hsh : a'.sh = false) (hg : a'.great = topF (l ++ [e]))
    (hs : Stands (some x) (e.kind, e.badge)) : Hist a' (l ++ [e]) :=
  ⟨hsh, hg, fun n hn => by
    rw [hjobs, jobAt_set hj]
    by_cases hm : n = e.job
    · subst hm
      rw [if_pos rfl, lastF_own hk]; exact hs
    · rw [if_neg hm, lastF_other (.inl fun h => hm h.symm)]; exact h.job n hn⟩
theorem Hist.keep {a a' : Au} {l : List Ev} {e : Ev} (h : Hist a l) (hk : isJobEv e.kind = false) (hj : a'.jobs = a.jobs) (hsh : a'.sh = false) (hg : a'.great = a.great) : Hist a' (l ++ [e]) :=
  ⟨hsh, by rw [hg, topF_snoc, if_neg (fun h5 => by rw [h5] at hk; cases hk)]; exact h.great, fun n hn => by rw [hj, lastF_other (.inr hk)]; exact h.job n hn⟩
theorem Hist.step {a : Au} {l : List Ev} {e : Ev} (h : Hist a l) (h4 : e.kind ≠ 4) (h14 : e.kind ≠ 14) (hf : (evF a e).2 = []) : Hist (evF a e).1 (l ++ [e]) := by
  rw [evF_nosh e h.sh] at hf ⊢
  dsimp only at hf ⊢
  rw [norm_eq_nil (act_in8 a e h.sh)] at hf
  have hsh : (actF a e).1.sh = false := by rw [act_sh h4 h14]; exact h.sh
  have htop : e.kind ≠ 5 → topF (l ++ [e]) = a.great := fun h5 => by rw [topF_snoc, if_neg h5]; exact h.great.symm
  by_cases hkk : e.kind ∈ kinds
  case neg =>
    rw [act_none hkk]
    refine h.keep ?_ rfl h.sh rfl
    simp only [kinds, List.mem_cons, List.not_mem_nil, or_false, not_or] at hkk
    simp only [isJobEv, decide_eq_false_iff_not]
    omega
  unfold actF at hf hsh ⊢
  by_cases h2 : e.kind = 2
  · rw [if_pos h2] at hf hsh ⊢
    unfold submittedF at hf hsh ⊢
    by_cases hn : e.job = a.jobs.length + 1
    · rw [if_pos hn] at hf hsh ⊢
      have hk : isJobEv e.kind = true := by rw [h2]; rfl
      refine ⟨hsh, (htop (by omega)).symm, fun n hn1 => ?_⟩
      rw [jobAt_app]
      by_cases hm : n = a.jobs.length + 1
      · rw [if_pos hm, show n = e.job from by omega, lastF_own hk, h2]
        exact .inl ⟨rfl, .inl rfl⟩
      · rw [if_neg hm, lastF_other (.inl (by omega))]; exact h.job n hn1
    · rw [if_neg hn] at hf; cases hf
  rw [if_neg h2] at hf hsh ⊢
  by_cases h5 : e.kind = 5
  · rw [if_pos h5] at hf hsh ⊢
    have hk : isJobEv e.kind = true := by rw [h5]; rfl
    unfold grantedF at hf hsh ⊢
    dsimp only at hf hsh ⊢
    cases hj : jobAt a.jobs e.job with
    | none => rw [hj] at hf; simp [brk] at hf
    | some j =>
      rw [hj] at hsh
      exact h.set (x := ⟨2, e.badge, 0, 0, []⟩) hk hj rfl hsh (by rw [topF_snoc, if_pos h5, ← h.great]) (by rw [h5]; exact .inr (.inl ⟨rfl, rfl, rfl⟩))
  rw [if_neg h5] at hf hsh ⊢
  by_cases h8 : e.kind = 8
  · rw [if_pos h8] at hf hsh ⊢
    unfold storedF at hf hsh ⊢
    cases hh : heldA a.jobs e with
    | none => rw [hh] at hf; cases hf
    | some j =>
      rw [hh] at hsh
      dsimp only at hsh ⊢
      obtain ⟨hj, _⟩ := heldA_some' hh
      refine ⟨hsh, (htop h5).symm, fun n hn1 => ?_⟩
      rw [lastF_other (.inr (by rw [h8]; rfl))]
      refine (h.job n hn1).same ?_
      dsimp only
      rw [jobAt_set hj]
      by_cases hm : n = e.job
      · subst hm
        rw [if_pos rfl]
        exact .inr ⟨j, _, hj, rfl, rfl, rfl⟩
      · rw [if_neg hm]; exact .inl rfl
  rw [if_neg h8] at hf hsh ⊢
  have hover : e.kind = 6 ∨ e.kind = 7 → (overF a e).2 = [] → (overF a e).1.sh = false → Hist (overF a e).1 (l ++ [e]) := fun hk67 hf hsh => by
    have hk : isJobEv e.kind = true := by rcases hk67 with h | h <;> rw [h] <;> rfl
    unfold overF at hf hsh ⊢
    dsimp only at hf hsh ⊢
    cases hh : heldA a.jobs e with
    | none =>
      rw [hh] at hf
      dsimp only at hf
      simp only [List.append_eq_nil_iff, brk_nil] at hf
      rw [hf.1] at hf; simp at hf
    | some j =>
      rw [hh] at hsh
      obtain ⟨hj, _⟩ := heldA_some' hh
      refine h.set (x := { j with status := if e.kind = 7 then 4 else 1 }) hk hj rfl hsh (htop h5).symm ?_
      rcases hk67 with h6 | h7
      · rw [h6]; exact .inl ⟨rfl, .inr rfl⟩
      · rw [h7]; exact .inr (.inr (.inr ⟨rfl, rfl⟩))
  by_cases h6 : e.kind = 6
  · rw [if_pos h6] at hf hsh ⊢; exact hover (.inl h6) hf hsh
  rw [if_neg h6] at hf hsh ⊢
  by_cases h7 : e.kind = 7
  · rw [if_pos h7] at hf hsh ⊢; exact hover (.inr h7) hf hsh
  rw [if_neg h7] at hf hsh ⊢
  by_cases h9 : e.kind = 9
  · rw [if_pos h9] at hf hsh ⊢
    have hk : isJobEv e.kind = true := by rw [h9]; rfl
    unfold recordedF at hf hsh ⊢
    dsimp only at hf hsh ⊢
    simp only [List.append_eq_nil_iff, brk_nil] at hf
    cases hh : heldA a.jobs e with
    | none => rw [hh, hf.1] at hf; simp at hf
    | some j =>
      rw [hh] at hsh
      obtain ⟨hj, _⟩ := heldA_some' hh
      exact h.set (x := { j with status := 3, rcode := e.rcode, rbits := e.rbits }) hk hj rfl hsh (htop h5).symm (by rw [h9]; exact .inr (.inr (.inl ⟨rfl, rfl⟩)))
  rw [if_neg h9] at hf hsh ⊢
  have hk : isJobEv e.kind = false := by
    simp only [isJobEv, decide_eq_false_iff_not]; omega
  by_cases h13 : e.kind = 13
  · rw [if_pos h13] at hf hsh ⊢
    refine h.keep hk ?_ hsh ?_
    · unfold admitsF; dsimp only; split <;> rfl
    · unfold admitsF; dsimp only; split <;> rfl
  rw [if_neg h13, if_neg h4, if_neg h14] at hf hsh ⊢
  by_cases h10 : e.kind = 10
  · rw [if_pos h10] at hsh ⊢; exact h.keep hk rfl hsh rfl
  rw [if_neg h10] at hf hsh ⊢
  by_cases h11 : e.kind = 11
  · rw [if_pos h11] at hsh ⊢; exact h.keep hk rfl hsh rfl
  rw [if_neg h11] at hf hsh ⊢
  by_cases h12 : e.kind = 12
  · rw [if_pos h12] at hsh ⊢; exact h.keep hk rfl hsh rfl
  rw [if_neg h12] at hsh ⊢; exact h.keep hk rfl hsh rfl

/-- Which grant, expiry, loss may come next. -/
def fineF (l : List Ev) (e : Ev) : Bool :=
  if e.kind = 5 then decide (((lastF e.job l).1 = 2 ∨ (lastF e.job l).1 = 6) ∧ topF l < e.badge) else decide ((lastF e.job l).1 = 5 ∧ (lastF e.job l).2 = e.badge)
theorem Hist.fine {a : Au} {l : List Ev} {e : Ev} (h : Hist a l) (hk : e.kind = 5 ∨ e.kind = 6 ∨ e.kind = 7) (hj : 1 ≤ e.job) : (evF a e).2 = [] ↔ fineF l e = true := by
  rw [evF_nosh e h.sh]
  dsimp only
  rw [norm_eq_nil (act_in8 a e h.sh)]
  have hst := h.job e.job hj
  have hover : e.kind = 6 ∨ e.kind = 7 → ((overF a e).2 = [] ↔ ((lastF e.job l).1 = 5 ∧ (lastF e.job l).2 = e.badge)) := fun _ => by
    unfold overF
    dsimp only
    cases hh : heldA a.jobs e with
    | none =>
      constructor
      · intro hf
        dsimp only at hf
        simp only [List.append_eq_nil_iff, brk_nil] at hf
        rw [hf.1] at hf; simp at hf
      · rintro ⟨p1, p2⟩
        cases hja : jobAt a.jobs e.job with
        | none => rw [hja] at hst; unfold Stands at hst; dsimp only at hst; omega
        | some j =>
          rw [hja] at hst
          have := heldA_none' hh j hja
          unfold Stands at hst
          dsimp only at hst
          omega
    | some j =>
      obtain ⟨hja, p1, p2⟩ := heldA_some' hh
      rw [hja] at hst
      unfold Stands at hst
      dsimp only at hst ⊢
      have hset : settledA a.jobs e.job = false := by unfold settledA; rw [hja]; simp [p1]
      rw [hset]
      simp [brk]
      omega
  unfold actF fineF
  rw [if_neg (by omega)]
  by_cases h5 : e.kind = 5
  · rw [if_pos h5, if_pos h5]
    unfold grantedF
    dsimp only
    simp only [List.append_eq_nil_iff, brk_nil, decide_eq_true_eq, decide_eq_false_iff_not, Int.not_le]
    rw [h.great]
    cases hja : jobAt a.jobs e.job with
    | none =>
      rw [hja] at hst; unfold Stands at hst; dsimp only at hst
      constructor
      · rintro ⟨_, h2⟩; simp at h2
      · rintro ⟨h1, _⟩; omega
    | some j =>
      rw [hja] at hst; unfold Stands at hst; dsimp only at hst ⊢
      simp only [decide_eq_false_iff_not, Decidable.not_not]
      omega
  · rw [if_neg h5, if_neg h5, if_neg (by omega)]
    by_cases h6 : e.kind = 6
    · rw [if_pos h6, hover (.inl h6), decide_eq_true_eq]
    · rw [if_neg h6, if_pos (by omega), hover (.inr (by omega)), decide_eq_true_eq]
theorem Hist.run : ∀ (l2 : List Ev) {a : Au} {l : List Ev} {n : Nat}, Hist a l → (∀ e ∈ l2, e.kind ≠ 4 ∧ e.kind ≠ 14) → (runF a n l2).2 = [] → Hist (runF a n l2).1 (l ++ l2)
  | [], a, l, n, h, _, _ => by rw [List.append_nil]; exact h
  | e :: l2, a, l, n, h, hk, hf => by
    rw [runF_cons] at hf ⊢
    dsimp only at hf ⊢
    rw [List.append_eq_nil_iff, List.map_eq_nil_iff] at hf
    have h1 := h.step (hk e (List.mem_cons_self ..)).1 (hk e (List.mem_cons_self ..)).2 hf.1
    have := Hist.run l2 h1 (fun x hx => hk x (List.mem_cons_of_mem _ hx)) hf.2
    rwa [List.append_assoc] at this
theorem Hist.new : Hist Au.new [] := ⟨rfl, rfl, fun n hn => by
  have : jobAt Au.new.jobs n = none := by unfold jobAt; rw [if_neg (by show ¬ (1 ≤ n ∧ n ≤ ((0 : Nat) : Int)); omega)]
  rw [this]; rfl⟩
end Go.Proofs.Ytfghnepmbgbnoaa
