import Derived.Test.YtlfhimdmhhpcfaaSep21
namespace Go.Proofs.Ytlfhimdmhhpcfaa
open Go Go.Sep Go.Proofs
set_option linter.unusedSimpArgs false
set_option linter.unusedVariables false

/-- A lease. -/
structure LE where
  job : Int
  badge : Int
  node : Int
  life : Int
  left : Int
@[reducible] def LE.row (x : LE) : List Value := [.int .i64 x.job, .int .i64 x.badge, .int .i64 x.node, .int .i64 x.life, .int .i64 x.left]
@[reducible] def LE.val (x : LE) : Value := .agg x.row.toArray
def Asc (l : List LE) : Prop := l.Pairwise fun a b => a.badge < b.badge
def lfind (l : List LE) (i : Int) : Option LE := l.find? fun x => decide (x.badge = i)
theorem lfind_mem {l : List LE} {i : Int} {x : LE} (h : lfind l i = some x) : x ∈ l ∧ x.badge = i := ⟨List.mem_of_find?_eq_some h, by have := List.find?_some h; simpa using this⟩
theorem lfind_none {l : List LE} {i : Int} : lfind l i = none ↔ ∀ x ∈ l, x.badge ≠ i := by
  unfold lfind
  rw [List.find?_eq_none]
  simp
theorem Asc.eq {l : List LE} (h : Asc l) {x y : LE} (hx : x ∈ l) (hy : y ∈ l) (e : x.badge = y.badge) : x = y := by
  induction l with
  | nil => cases hx
  | cons z l ih =>
    obtain ⟨h1, h2⟩ := List.pairwise_cons.1 h
    rcases List.mem_cons.1 hx with e1 | hx'
    · rcases List.mem_cons.1 hy with e2 | hy'
      · rw [e1, e2]
      · have := h1 _ hy'; rw [← e1] at this; omega
    · rcases List.mem_cons.1 hy with e2 | hy'
      · have := h1 _ hx'; rw [← e2] at this; omega
      · exact ih h2 hx' hy'
theorem lfind_of {l : List LE} (h : Asc l) {x : LE} (hx : x ∈ l) : lfind l x.badge = some x := by
  cases hf : lfind l x.badge with
  | none => exact absurd rfl (lfind_none.1 hf x hx)
  | some y =>
    obtain ⟨hy, e⟩ := lfind_mem hf
    rw [h.eq hy hx e]
theorem lfind_iff {l : List LE} (h : Asc l) {i : Int} {x : LE} : lfind l i = some x ↔ x ∈ l ∧ x.badge = i :=
  ⟨lfind_mem, fun ⟨hx, e⟩ => by subst e; exact lfind_of h hx⟩

/-! one more -/
def lins (x : LE) : List LE → List LE
  | [] => [x]
  | y :: l => if y.badge < x.badge then y :: lins x l else x :: y :: l
theorem lins_perm (x : LE) : ∀ l, (lins x l).Perm (x :: l)
  | [] => .refl _
  | y :: l => by
    unfold lins
    split
    · exact ((lins_perm x l).cons y).trans (.swap ..)
    · exact .refl _
theorem lins_mem {x y : LE} {l : List LE} : y ∈ lins x l ↔ y = x ∨ y ∈ l := by rw [(lins_perm x l).mem_iff, List.mem_cons]
theorem lins_asc {x : LE} : ∀ {l : List LE}, Asc l → (∀ y ∈ l, y.badge ≠ x.badge) → Asc (lins x l)
  | [], _, _ => List.pairwise_singleton _ _
  | y :: l, h, hn => by
    obtain ⟨h1, h2⟩ := List.pairwise_cons.1 h
    unfold lins
    split
    · rename_i hlt
      refine List.pairwise_cons.2 ⟨fun z hz => ?_, lins_asc h2 fun z hz => hn z (List.mem_cons_of_mem _ hz)⟩
      rcases lins_mem.1 hz with rfl | hz
      · exact hlt
      · exact h1 z hz
    · rename_i hge
      have := hn y (List.mem_cons_self ..)
      refine List.pairwise_cons.2 ⟨fun z hz => ?_, h⟩
      rcases List.mem_cons.1 hz with rfl | hz
      · omega
      · have := h1 z hz; omega

/-! what a table holds -/
structure LOk (ticks : Int) (l : List LE) : Prop where
  asc : Asc l
  jobs : (l.map LE.job).Nodup
  job0 : ∀ x ∈ l, 1 ≤ x.job ∧ x.job ≤ 8
  badge0 : ∀ x ∈ l, 1 ≤ x.badge ∧ x.badge ≤ 1099511627776
  left0 : ∀ x ∈ l, 1 ≤ x.left ∧ x.left ≤ ticks
  t0 : 1 ≤ ticks
  t1 : ticks ≤ 256
theorem nodup_len' : ∀ {a b : List Int}, a.Nodup → (∀ x ∈ a, x ∈ b) → a.length ≤ b.length
  | [], b, _, _ => Nat.zero_le _
  | x :: a, b, hn, hs => by
    have hn' := List.nodup_cons.1 hn
    have hx := hs x (List.mem_cons_self ..)
    have := nodup_len' (a := a) (b := b.erase x) hn'.2 fun y hy => (List.mem_erase_of_ne (fun e => by subst e; exact hn'.1 hy)).2 (hs y (List.mem_cons_of_mem _ hy))
    rw [List.length_erase_of_mem hx] at this
    have hp := List.length_pos_of_mem hx
    simp only [List.length_cons]
    omega
theorem LOk.few {ticks : Int} {l : List LE} (h : LOk ticks l) : l.length ≤ 8 := by
  have := nodup_len' (b := [1, 2, 3, 4, 5, 6, 7, 8]) h.jobs fun x hx => by
    obtain ⟨y, hy, rfl⟩ := List.mem_map.1 hx
    have := h.job0 y hy
    simp
    omega
  simpa using this
/-- A job that is not there leaves room. -/
theorem LOk.room {ticks : Int} {l : List LE} (h : LOk ticks l) {j : Int} (h1 : 1 ≤ j) (h8 : j ≤ 8) (hn : ∀ x ∈ l, x.job ≠ j) : l.length < 8 := by
  have := nodup_len' (a := j :: l.map LE.job) (b := [1, 2, 3, 4, 5, 6, 7, 8]) (List.nodup_cons.2 ⟨fun hm => by
    obtain ⟨y, hy, e⟩ := List.mem_map.1 hm
    exact hn y hy e, h.jobs⟩) fun x hx => by
    rcases List.mem_cons.1 hx with rfl | hx
    · simp; omega
    · obtain ⟨y, hy, rfl⟩ := List.mem_map.1 hx
      have := h.job0 y hy
      simp
      omega
  simp at this
  omega

def grantF (ticks : Int) (l : List LE) (job badge node life : Int) : Int × List LE :=
  if job < 1 ∨ 8 < job ∨ badge < 1 ∨ 1099511627776 < badge then (1, l) else if ∃ x ∈ l, x.job = job ∨ x.badge = badge then (121, l) else (0, lins ⟨job, badge, node, life, ticks⟩ l)
def renewF (ticks : Int) (l : List LE) (badge : Int) : Int × List LE :=
  if lfind l badge = none then (122, l) else (0, l.map fun x => if x.badge = badge then { x with left := ticks } else x)
def dropF (l : List LE) (badge : Int) : Int × List LE :=
  if lfind l badge = none then (122, l) else (0, l.filter fun x => !decide (x.badge = badge))
@[reducible] def dec (x : LE) : LE := { x with left := x.left - 1 }
def overF (l : List LE) : List LE := (l.map dec).filter fun x => decide (x.left = 0)
def restF (l : List LE) : List LE := (l.map dec).filter fun x => !decide (x.left = 0)

theorem asc_map {l : List LE} {f : LE → LE} (h : Asc l) (hf : ∀ x, (f x).badge = x.badge) : Asc (l.map f) := by
  unfold Asc
  rw [List.pairwise_map]
  exact h.imp fun {a b} hab => by rw [hf, hf]; exact hab
theorem jobs_map {l : List LE} {f : LE → LE} (hf : ∀ x, (f x).job = x.job) : (l.map f).map LE.job = l.map LE.job := by
  rw [List.map_map]
  exact List.map_congr_left fun x _ => hf x
theorem grantF_ok {ticks : Int} {l : List LE} (h : LOk ticks l) (job badge node life : Int) : LOk ticks (grantF ticks l job badge node life).2 := by
  unfold grantF
  split
  · exact h
  · split
    · exact h
    · rename_i h1 h2
      have hn : ∀ x ∈ l, x.job ≠ job ∧ x.badge ≠ badge := fun x hx => ⟨fun e => h2 ⟨x, hx, .inl e⟩, fun e => h2 ⟨x, hx, .inr e⟩⟩
      have t0 := h.t0
      refine ⟨lins_asc h.asc fun y hy => (hn y hy).2, ?_, fun x hx => ?_, fun x hx => ?_, fun x hx => ?_, h.t0, h.t1⟩
      · refine (((lins_perm _ l).map LE.job).nodup_iff).2 (List.nodup_cons.2 ⟨fun hm => ?_, h.jobs⟩)
        obtain ⟨y, hy, e⟩ := List.mem_map.1 hm
        exact (hn y hy).1 e
      · rcases lins_mem.1 hx with rfl | hx
        · exact ⟨by show 1 ≤ job; omega, by show job ≤ 8; omega⟩
        · exact h.job0 x hx
      · rcases lins_mem.1 hx with rfl | hx
        · exact ⟨by show 1 ≤ badge; omega, by show badge ≤ 1099511627776; omega⟩
        · exact h.badge0 x hx
      · rcases lins_mem.1 hx with rfl | hx
        · exact ⟨t0, Int.le_refl _⟩
        · exact h.left0 x hx
theorem renewF_ok {ticks : Int} {l : List LE} (h : LOk ticks l) (badge : Int) : LOk ticks (renewF ticks l badge).2 := by
  unfold renewF
  split
  · exact h
  · have t0 := h.t0
    have hb : ∀ x : LE, (if x.badge = badge then { x with left := ticks } else x).badge = x.badge := fun x => by split <;> rfl
    have hj : ∀ x : LE, (if x.badge = badge then { x with left := ticks } else x).job = x.job := fun x => by split <;> rfl
    refine ⟨asc_map h.asc hb, by show List.Nodup (List.map LE.job (List.map _ l)); rw [jobs_map hj]; exact h.jobs, fun x hx => ?_, fun x hx => ?_, fun x hx => ?_, h.t0, h.t1⟩
    · obtain ⟨y, hy, rfl⟩ := List.mem_map.1 hx
      rw [hj]; exact h.job0 y hy
    · obtain ⟨y, hy, rfl⟩ := List.mem_map.1 hx
      rw [hb]; exact h.badge0 y hy
    · obtain ⟨y, hy, rfl⟩ := List.mem_map.1 hx
      split
      · exact ⟨t0, Int.le_refl _⟩
      · exact h.left0 y hy
theorem LOk.filter {ticks : Int} {l : List LE} (h : LOk ticks l) (p : LE → Bool) : LOk ticks (l.filter p) :=
  ⟨h.asc.sublist List.filter_sublist, h.jobs.sublist (List.filter_sublist.map _), fun x hx => h.job0 x (List.mem_filter.1 hx).1, fun x hx => h.badge0 x (List.mem_filter.1 hx).1, fun x hx => h.left0 x (List.mem_filter.1 hx).1, h.t0, h.t1⟩
theorem dropF_ok {ticks : Int} {l : List LE} (h : LOk ticks l) (badge : Int) : LOk ticks (dropF l badge).2 := by
  unfold dropF
  split
  · exact h
  · exact h.filter _
theorem restF_ok {ticks : Int} {l : List LE} (h : LOk ticks l) : LOk ticks (restF l) := by
  unfold restF
  refine ⟨(asc_map (f := dec) h.asc fun _ => rfl).sublist List.filter_sublist, (by rw [jobs_map (f := dec) fun _ => rfl]; exact h.jobs : (List.map LE.job (List.map dec l)).Nodup).sublist (List.filter_sublist.map _), fun x hx => ?_, fun x hx => ?_, fun x hx => ?_, h.t0, h.t1⟩
  · obtain ⟨y, hy, rfl⟩ := List.mem_map.1 (List.mem_filter.1 hx).1
    exact h.job0 y hy
  · obtain ⟨y, hy, rfl⟩ := List.mem_map.1 (List.mem_filter.1 hx).1
    exact h.badge0 y hy
  · obtain ⟨y, hy, rfl⟩ := List.mem_map.1 (List.mem_filter.1 hx).1
    have h0 := h.left0 y hy
    have hp := (List.mem_filter.1 hx).2
    simp only [Bool.not_eq_true', decide_eq_false_iff_not] at hp
    exact ⟨by show 1 ≤ y.left - 1; have : ¬ (y.left - 1 = 0) := hp; omega, by show y.left - 1 ≤ ticks; omega⟩

/-! the map -/
def LsIs (es : List ME) (l : List LE) : Prop := ∀ i, mget es i = (lfind l i).map LE.val
theorem lfind_lins {l : List LE} {x : LE} (h : Asc l) (hn : ∀ y ∈ l, y.badge ≠ x.badge) (i : Int) : lfind (lins x l) i = if i = x.badge then some x else lfind l i := by
  have hasc := lins_asc h hn
  split
  · rename_i e
    subst e
    exact lfind_of hasc (lins_mem.2 (.inl rfl))
  · rename_i e
    cases hf : lfind l i with
    | none =>
      rw [lfind_none] at hf ⊢
      intro y hy
      rcases lins_mem.1 hy with rfl | hy
      · exact fun e' => e e'.symm
      · exact hf y hy
    | some y =>
      obtain ⟨hy, e⟩ := lfind_mem hf
      exact (lfind_iff hasc).2 ⟨lins_mem.2 (.inr hy), e⟩
theorem LsIs.ins {es : List ME} {ck : Nat} {l : List LE} {x : LE} (h : LsIs es l) (hok : MOk es ck) (ha : Asc l) (hn : ∀ y ∈ l, y.badge ≠ x.badge) : LsIs (mput es ck x.badge x.val) (lins x l) := fun i => by
  rw [mget_put hok, lfind_lins ha hn, h i]
  split <;> rfl
theorem lfind_map {l : List LE} {f : LE → LE} (hf : ∀ x, (f x).badge = x.badge) (i : Int) : lfind (l.map f) i = (lfind l i).map f := by
  unfold lfind
  rw [List.find?_map]
  congr 2
  funext x
  simp [hf]
theorem LsIs.set {es : List ME} {ck : Nat} {l : List LE} {x y : LE} (h : LsIs es l) (hok : MOk es ck) (hx : lfind l x.badge = some x) (e : y.badge = x.badge) : LsIs (mput es ck x.badge y.val) (l.map fun z => if z.badge = x.badge then y else z) := fun i => by
  have hb : ∀ z : LE, (if z.badge = x.badge then y else z).badge = z.badge := fun z => by
    split
    · rename_i h1; rw [e, h1]
    · rfl
  rw [mget_put hok, lfind_map hb, h i]
  split
  · rename_i e'
    subst e'
    rw [hx]
    simp
  · rename_i e'
    cases hf : lfind l i with
    | none => rfl
    | some z =>
      obtain ⟨_, e2⟩ := lfind_mem hf
      have : ¬ z.badge = x.badge := fun e3 => e' (e2.symm.trans e3)
      simp [this]
theorem LsIs.del {es : List ME} {ck : Nat} {l : List LE} {b : Int} (h : LsIs es l) (hok : MOk es ck) : LsIs (mdel es b) (l.filter fun z => !decide (z.badge = b)) := fun i => by
  rw [mget_del hok, h i]
  have : lfind (l.filter fun z => !decide (z.badge = b)) i = if i = b then none else lfind l i := by
    unfold lfind
    rw [List.find?_filter]
    split
    · rename_i e
      subst e
      rw [List.find?_eq_none]
      intro x _
      simp
    · rename_i e
      congr 1
      funext x
      by_cases h1 : x.badge = i
      · subst h1; simp [e]
      · simp [h1]
  rw [this]
  split <;> rfl
theorem keys_perm {es : List ME} {ck : Nat} {l : List LE} (h : LsIs es l) (hok : MOk es ck) (ha : Asc l) : (es.map ME.k).Perm (l.map LE.badge) := by
  refine (List.perm_ext_iff_of_nodup hok.keys ?_).2 fun i => ?_
  · rw [List.Nodup, List.pairwise_map]
    exact ha.imp fun {a b} hab => Int.ne_of_lt hab
  · rw [← mget_isSome, h i]
    constructor
    · intro hs
      cases hf : lfind l i with
      | none => rw [hf] at hs; cases hs
      | some x =>
        obtain ⟨hx, e⟩ := lfind_mem hf
        exact List.mem_map.2 ⟨x, hx, e⟩
    · intro hm
      obtain ⟨x, hx, e⟩ := List.mem_map.1 hm
      subst e
      rw [lfind_of ha hx]
      rfl
theorem badges_le {l : List LE} (ha : Asc l) : (l.map LE.badge).Pairwise (· ≤ ·) := by
  rw [List.pairwise_map]
  exact ha.imp fun {a b} hab => Int.le_of_lt hab
/-- The sorted keys are the badges. -/
theorem keys_sorted {es : List ME} {ck : Nat} {l : List LE} {xs ys : List Int} (h : LsIs es l) (hok : MOk es ck) (ha : Asc l) (h1 : xs.Perm (es.map ME.k)) (h2 : ys.Perm xs) (h3 : ys.Pairwise (· ≤ ·)) : ys = l.map LE.badge :=
  List.Perm.eq_of_pairwise (le := (· ≤ ·)) (fun a b _ _ h1 h2 => Int.le_antisymm h1 h2) h3 (badges_le ha) (h2.trans (h1.trans (keys_perm h hok ha)))
theorem LsIs.len {es : List ME} {ck : Nat} {l : List LE} (h : LsIs es l) (hok : MOk es ck) (ha : Asc l) : es.length = l.length := by
  have := (keys_perm h hok ha).length_eq
  simpa using this
/-! a tick, lease by lease -/
theorem restF_app (a b : List LE) : restF (a ++ b) = restF a ++ restF b := by unfold restF; rw [List.map_append, List.filter_append]
theorem overF_app (a b : List LE) : overF (a ++ b) = overF a ++ overF b := by unfold overF; rw [List.map_append, List.filter_append]
theorem restF_one0 {x : LE} (h : x.left - 1 = 0) : restF [x] = [] := by simp [restF, h]
theorem restF_one1 {x : LE} (h : x.left - 1 ≠ 0) : restF [x] = [dec x] := by simp [restF, h]
theorem overF_one0 {x : LE} (h : x.left - 1 = 0) : overF [x] = [dec x] := by simp [overF, h]
theorem overF_one1 {x : LE} (h : x.left - 1 ≠ 0) : overF [x] = [] := by simp [overF, h]
theorem restF_badge {l : List LE} {y : LE} (h : y ∈ restF l) : ∃ x ∈ l, x.badge = y.badge := by
  obtain ⟨x, hx, rfl⟩ := List.mem_map.1 (List.mem_filter.1 h).1
  exact ⟨x, hx, rfl⟩
theorem asc_apart {a b : List LE} {x : LE} (h : Asc (a ++ x :: b)) : (∀ y ∈ a, y.badge < x.badge) ∧ ∀ y ∈ b, x.badge < y.badge := by
  obtain ⟨h1, h2, h3⟩ := List.pairwise_append.1 h
  exact ⟨fun y hy => h3 y hy x (List.mem_cons_self ..), (List.pairwise_cons.1 h2).1⟩
theorem asc_tick {a b : List LE} (h : Asc (a ++ b)) : Asc (restF a ++ b) := by
  obtain ⟨h1, h2, h3⟩ := List.pairwise_append.1 h
  refine List.pairwise_append.2 ⟨(asc_map (f := dec) h1 fun _ => rfl).sublist List.filter_sublist, h2, fun x hx y hy => ?_⟩
  obtain ⟨z, hz, e⟩ := restF_badge hx
  rw [← e]
  exact h3 z hz y hy
theorem map_only {a b : List LE} {x y : LE} (ha : ∀ z ∈ a, z.badge ≠ x.badge) (hb : ∀ z ∈ b, z.badge ≠ x.badge) : (a ++ x :: b).map (fun z => if z.badge = x.badge then y else z) = a ++ y :: b := by
  rw [List.map_append, List.map_cons, if_pos rfl]
  congr 1
  · exact (List.map_congr_left fun z hz => if_neg (ha z hz)).trans (List.map_id _)
  · congr 1
    exact (List.map_congr_left fun z hz => if_neg (hb z hz)).trans (List.map_id _)
theorem filter_only {a b : List LE} {y : LE} (ha : ∀ z ∈ a, z.badge ≠ y.badge) (hb : ∀ z ∈ b, z.badge ≠ y.badge) : (a ++ y :: b).filter (fun z => !decide (z.badge = y.badge)) = a ++ b := by
  rw [List.filter_append, List.filter_cons_of_neg (by simp)]
  congr 1
  · exact List.filter_eq_self.2 fun z hz => by simp [ha z hz]
  · exact List.filter_eq_self.2 fun z hz => by simp [hb z hz]
theorem tick_set {es : List ME} {ck : Nat} {a b : List LE} {x : LE} (ha : Asc (a ++ x :: b)) (hok : MOk es ck) (h : LsIs es (restF a ++ x :: b)) : LsIs (mput es ck x.badge (dec x).val) (restF a ++ dec x :: b) := by
  have hasc := asc_tick ha
  obtain ⟨h1, h2⟩ := asc_apart hasc
  have := h.set (y := dec x) hok (lfind_of hasc (List.mem_append_right _ (List.mem_cons_self ..))) rfl
  rwa [map_only (fun z hz => Int.ne_of_lt (h1 z hz)) (fun z hz => (Int.ne_of_lt (h2 z hz)).symm)] at this
theorem tick_del {es : List ME} {ck : Nat} {a b : List LE} {x : LE} (ha : Asc (a ++ x :: b)) (hok : MOk es ck) (h : LsIs es (restF a ++ dec x :: b)) : LsIs (mdel es x.badge) (restF a ++ b) := by
  have hasc := asc_tick ha
  obtain ⟨h1, h2⟩ := asc_apart hasc
  have := h.del (b := x.badge) hok
  rwa [filter_only (y := dec x) (fun z hz => Int.ne_of_lt (h1 z hz)) (fun z hz => (Int.ne_of_lt (h2 z hz)).symm)] at this
theorem overF_len (l : List LE) : (overF l).length + (restF l).length = l.length := by
  induction l with
  | nil => rfl
  | cons x l ih =>
    rw [show x :: l = [x] ++ l from rfl, overF_app, restF_app]
    by_cases h : x.left - 1 = 0
    · rw [overF_one0 h, restF_one0 h]; simp; omega
    · rw [overF_one1 h, restF_one1 h]; simp; omega
theorem LsIs.nil : LsIs [] [] := fun i => rfl
end Go.Proofs.Ytlfhimdmhhpcfaa
