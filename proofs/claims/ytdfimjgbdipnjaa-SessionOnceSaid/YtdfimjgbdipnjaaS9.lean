import Derived.Test.YtdfimjgbdipnjaaS6
import Derived.Test.YtdfimjgbdipnjaaSep15
namespace Go.Proofs.Ytdfimjgbdipnjaa
open Go Go.Sep Go.Proofs
set_option maxRecDepth 10000
set_option maxHeartbeats 1000000
set_option linter.unusedSimpArgs false
set_option linter.unusedVariables false

/-- The row of a slot, if there is such a slot. -/
def rowAt (rs : List Dk) (slot : Int) : Option Dk := if hasB slot rs.length then rs[slot.toNat]? else none
def RowsI (rs : List Dk) : Prop := ∀ r ∈ rs, 0 ≤ r.last ∧ r.last ≤ 1099511627776
theorem rowAt_some {rs : List Dk} {slot : Int} {r : Dk} (h : rowAt rs slot = some r) : hasB slot rs.length = true ∧ rs[slot.toNat]? = some r := by
  unfold rowAt at h
  split at h
  · rename_i hb; exact ⟨hb, h⟩
  · cases h
theorem rowAt_none {rs : List Dk} {slot : Int} (h : rowAt rs slot = none) : hasB slot rs.length = false := by
  unfold rowAt at h
  split at h
  · rename_i hb
    have : 0 ≤ slot ∧ slot < rs.length := by simpa [hasB] using hb
    rw [List.getElem?_eq_none_iff] at h
    omega
  · rename_i hb; simpa using hb
theorem rowAt_same {rs : List Dk} {slot : Int} (r : Dk) (h : hasB slot rs.length = true) : rowAt (rs.set slot.toNat r) slot = some r := by
  have : 0 ≤ slot ∧ slot < rs.length := by simpa [hasB] using h
  unfold rowAt
  rw [List.length_set, if_pos h, List.getElem?_set_self (by omega)]
theorem rowAt_other {rs : List Dk} {s slot : Int} (r : Dk) (h : hasB s rs.length = true) (hne : s ≠ slot) : rowAt (rs.set s.toNat r) slot = rowAt rs slot := by
  have : 0 ≤ s ∧ s < rs.length := by simpa [hasB] using h
  unfold rowAt
  rw [List.length_set]
  split
  · rename_i hb
    have : 0 ≤ slot ∧ slot < rs.length := by simpa [hasB] using hb
    rw [List.getElem?_set_ne (by omega)]
  · rfl
theorem RowsI.set {rs : List Dk} {i : Nat} {r : Dk} (h : RowsI rs) (h0 : 0 ≤ r.last) (h1 : r.last ≤ 1099511627776) : RowsI (rs.set i r) := fun x hx => by
  rcases List.mem_or_eq_of_mem_set hx with hx | hx
  · exact h x hx
  · subst hx; exact ⟨h0, h1⟩
theorem RowsI.fresh (k : Nat) : RowsI (fresh k) := fun r hr => by
  obtain ⟨i, _, rfl⟩ := List.mem_map.1 hr
  exact ⟨Int.le_refl _, by show (0 : Int) ≤ 1099511627776; omega⟩

def helloV (o : Option Dk) (life : Int) : Int × Int := match o with
  | none => (0, 0)
  | some r => if cntB life then (if life < r.life then (0, 0) else if r.life = life then (1, r.session) else (2, 0)) else (0, 0)
def askV (o : Option Dk) (life session number : Int) : Int × ByteArray := match o with
  | none => (1, ⟨#[]⟩)
  | some r => if r.life = 0 ∨ r.life ≠ life ∨ r.session ≠ session then (1, ⟨#[]⟩) else if number < 1 then (0, ⟨#[]⟩) else if number = r.last then (2, r.reply) else if number = r.last + 1 then (3, ⟨#[]⟩) else (0, ⟨#[]⟩)
/-- What Open makes of a row. -/
def openV (o : Option Dk) (slot life session : Int) : Option Dk := match o with
  | none => none
  | some r => if cntB life = true ∧ cntB session = true ∧ r.life ≤ life then some ⟨slot, life, session, 0, ⟨#[]⟩⟩ else none
def answerV (o : Option Dk) (reply : ByteArray) : Option Dk := match o with
  | none => none
  | some r => if r.life ≠ 0 ∧ r.last ≠ 1099511627776 then some { r with last := r.last + 1, reply := reply } else none
/-- A row is written, if there is one. -/
def putRow (rs : List Dk) (slot : Int) (n : Option Dk) : List Dk := match n with
  | none => rs
  | some r => rs.set slot.toNat r

theorem hello_fun (n : Nat) (sv : Value) (rs : List Dk) (G : List Blk) (slot life : Int) (hO : OwnK sv rs G) : Con Try.prog 24 #[ptr n, .int .i64 slot, .int .i64 life] (TabB n sv G) fun v A => v = .tuple #[.int .i64 (helloV (rowAt rs slot) life).1, .int .i64 (helloV (rowAt rs slot) life).2] ∧ A = TabB n sv G := by
  cases h : rowAt rs slot with
  | none => exact hello_nohas n sv rs G slot life hO (rowAt_none h)
  | some r =>
    obtain ⟨hh, hr⟩ := rowAt_some h
    unfold helloV
    dsimp only
    by_cases hc : cntB life = true
    · rw [if_pos hc]
      by_cases h1 : life < r.life
      · rw [if_pos h1]; exact hello_old n sv rs G slot life r hO hh hc hr h1
      · rw [if_neg h1]
        by_cases h2 : r.life = life
        · rw [if_pos h2]; exact hello_known n sv rs G slot life r hO hh hc hr h2
        · rw [if_neg h2]; exact hello_fresh n sv rs G slot life r hO hh hc hr (by omega)
    · rw [if_neg hc]; exact hello_nocnt n sv rs G slot life hO hh (by simpa using hc)

theorem ask_fun (n : Nat) (sv : Value) (rs : List Dk) (G : List Blk) (slot life session number : Int) (hO : OwnK sv rs G) (hI : RowsI rs) : Con Try.prog 25 #[ptr n, .int .i64 slot, .int .i64 life, .int .i64 session, .int .i64 number] (TabB n sv G) fun v A => v = .tuple #[.int .i64 (askV (rowAt rs slot) life session number).1, .string (askV (rowAt rs slot) life session number).2] ∧ A = TabB n sv G := by
  cases h : rowAt rs slot with
  | none => exact ask_nohas n sv rs G slot life session number hO (rowAt_none h)
  | some r =>
    obtain ⟨hh, hr⟩ := rowAt_some h
    obtain ⟨hb0, hb1⟩ := hI r (List.mem_of_getElem? hr)
    unfold askV
    dsimp only
    by_cases h1 : r.life = 0 ∨ r.life ≠ life ∨ r.session ≠ session
    · rw [if_pos h1]; exact task_stale n sv rs G slot life session number r hO hh hr hb0 hb1 h1
    · rw [if_neg h1]
      by_cases h2 : number < 1
      · rw [if_pos h2]; exact task_zero n sv rs G slot life session number r hO hh hr hb0 hb1 (by omega)
      · rw [if_neg h2]
        by_cases h3 : number = r.last
        · rw [if_pos h3]; exact task_again n sv rs G slot life session number r hO hh hr hb0 hb1 (by omega)
        · rw [if_neg h3]
          by_cases h4 : number = r.last + 1
          · rw [if_pos h4]; exact task_new n sv rs G slot life session number r hO hh hr hb0 hb1 (by omega)
          · rw [if_neg h4]; exact task_pass n sv rs G slot life session number r hO hh hr hb0 hb1 (by omega)

theorem open_fun (n : Nat) (sv : Value) (rs : List Dk) (G : List Blk) (slot life session : Int) (hO : OwnK sv rs G) : Con Try.prog 22 #[ptr n, .int .i64 slot, .int .i64 life, .int .i64 session] (TabB n sv G) fun v A => (∃ x, v = .int .i64 x) ∧ ∃ G', A = TabB n sv G' ∧ OwnK sv (putRow rs slot (openV (rowAt rs slot) slot life session)) G' := by
  cases h : rowAt rs slot with
  | none => exact (open_nohas n sv rs G slot life session hO (rowAt_none h)).mono fun v A ⟨e, h⟩ => ⟨⟨_, e⟩, G, h, hO⟩
  | some r =>
    obtain ⟨hh, hr⟩ := rowAt_some h
    unfold openV
    dsimp only
    by_cases hc : cntB life = true
    · by_cases hd : cntB session = true
      · by_cases h1 : r.life ≤ life
        · rw [if_pos ⟨hc, hd, h1⟩]; exact (open_ok n sv rs G slot life session r hO hh hc hd hr h1).mono fun v A ⟨e, h⟩ => ⟨⟨_, e⟩, h⟩
        · rw [if_neg (by simp [h1])]; exact (open_old n sv rs G slot life session r hO hh hc hd hr (by omega)).mono fun v A ⟨e, h⟩ => ⟨⟨_, e⟩, G, h, hO⟩
      · rw [if_neg (by simp [hd])]; exact (open_nosess n sv rs G slot life session hO hh hc (by simpa using hd)).mono fun v A ⟨e, h⟩ => ⟨⟨_, e⟩, G, h, hO⟩
    · rw [if_neg (by simp [hc])]; exact (open_nolife n sv rs G slot life session hO hh (by simpa using hc)).mono fun v A ⟨e, h⟩ => ⟨⟨_, e⟩, G, h, hO⟩

theorem answer_fun (n : Nat) (sv : Value) (rs : List Dk) (G : List Blk) (slot : Int) (reply : ByteArray) (hO : OwnK sv rs G) (hI : RowsI rs) : Con Try.prog 23 #[ptr n, .int .i64 slot, .string reply] (TabB n sv G) fun v A => (∃ x, v = .int .i64 x) ∧ ∃ G', A = TabB n sv G' ∧ OwnK sv (putRow rs slot (answerV (rowAt rs slot) reply)) G' := by
  cases h : rowAt rs slot with
  | none => exact (answer_nohas n sv rs G slot reply hO (rowAt_none h)).mono fun v A ⟨e, h⟩ => ⟨⟨_, e⟩, G, h, hO⟩
  | some r =>
    obtain ⟨hh, hr⟩ := rowAt_some h
    obtain ⟨hb0, hb1⟩ := hI r (List.mem_of_getElem? hr)
    unfold answerV
    dsimp only
    by_cases h1 : r.life ≠ 0 ∧ r.last ≠ 1099511627776
    · rw [if_pos h1]; exact (answer_ok n sv rs G slot reply r hO hh hr hb0 hb1 h1.1 h1.2).mono fun v A ⟨e, h⟩ => ⟨⟨_, e⟩, h⟩
    · rw [if_neg h1]; exact (answer_none n sv rs G slot reply r hO hh hr (by omega)).mono fun v A ⟨e, h⟩ => ⟨⟨_, e⟩, G, h, hO⟩

theorem put_other {rs : List Dk} {s slot : Int} (n : Option Dk) (hn : ∀ r, n = some r → hasB s rs.length = true) (hne : s ≠ slot) : rowAt (putRow rs s n) slot = rowAt rs slot := by
  cases n with
  | none => rfl
  | some r => exact rowAt_other r (hn r rfl) hne
theorem put_same {rs : List Dk} {slot : Int} (n : Option Dk) (hn : ∀ r, n = some r → hasB slot rs.length = true) : rowAt (putRow rs slot n) slot = (match n with | none => rowAt rs slot | some r => some r) := by
  cases n with
  | none => rfl
  | some r => exact rowAt_same r (hn r rfl)
theorem openV_has {rs : List Dk} {slot life session : Int} (r : Dk) (h : openV (rowAt rs slot) slot life session = some r) : hasB slot rs.length = true := by
  cases h1 : rowAt rs slot with
  | none => rw [h1] at h; cases h
  | some x => exact (rowAt_some h1).1
theorem answerV_has {rs : List Dk} {slot : Int} {reply : ByteArray} (r : Dk) (h : answerV (rowAt rs slot) reply = some r) : hasB slot rs.length = true := by
  cases h1 : rowAt rs slot with
  | none => rw [h1] at h; cases h
  | some x => exact (rowAt_some h1).1
theorem openV_rows {rs : List Dk} {slot life session : Int} (h : RowsI rs) : RowsI (putRow rs slot (openV (rowAt rs slot) slot life session)) := by
  cases h1 : rowAt rs slot with
  | none => exact h
  | some x =>
    unfold openV; dsimp only
    split
    · exact h.set (Int.le_refl _) (by show (0 : Int) ≤ 1099511627776; omega)
    · exact h
theorem answerV_rows {rs : List Dk} {slot : Int} {reply : ByteArray} (h : RowsI rs) : RowsI (putRow rs slot (answerV (rowAt rs slot) reply)) := by
  cases h1 : rowAt rs slot with
  | none => exact h
  | some x =>
    obtain ⟨h2, h3⟩ := h x (List.mem_of_getElem? (rowAt_some h1).2)
    unfold answerV; dsimp only
    split
    · rename_i hc
      exact h.set (by show 0 ≤ x.last + 1; omega) (by show x.last + 1 ≤ 1099511627776; omega)
    · exact h
end Go.Proofs.Ytdfimjgbdipnjaa
