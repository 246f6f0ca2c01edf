import Derived.Test.YtdfimjgbdipnjaaS14
import Derived.Test.YtdfimjgbdipnjaaS2b
namespace Go.Proofs.Ytdfimjgbdipnjaa
open Go Go.Sep Go.Proofs
set_option maxRecDepth 10000
set_option maxHeartbeats 2000000
set_option synthInstance.maxSize 2000
set_option linter.unusedSimpArgs false
set_option linter.unusedVariables false

/-- What holds of every caller. -/
structure CInv (s : CS) : Prop where
  t0 : 0 ≤ s.timer
  t1 : s.timer ≤ 16
  r0 : 1 ≤ s.resend
  r1 : s.resend ≤ 16
  l0 : 0 ≤ s.last
  l1 : s.last ≤ 1099511627776
  g0 : 0 ≤ s.greatest
  k : ((s.m.kind = 0 ∨ s.m.kind = 1) ∧ s.m.number = 0) ∨ (2 ≤ s.m.kind ∧ s.m.kind ≤ 4 ∧ 1 ≤ s.m.number)
theorem CInv.new {r : Int} (h1 : 1 ≤ r) (h2 : r ≤ 16) : CInv (CS.new r) := ⟨Int.le_refl _, by show (0 : Int) ≤ 16; omega, h1, h2, Int.le_refl _, by show (0 : Int) ≤ 1099511627776; omega, Int.le_refl _, .inl ⟨.inl rfl, rfl⟩⟩

def helloF (s : CS) : Int × CS := if s.m.kind = 0 then (0, { s with m := Mg.hello, timer := 0, session := 0, last := 0 }) else (131, s)
def askF (s : CS) (m : Mg) : Int × CS := if m.kind < 2 ∨ 4 < m.kind then (1, s) else if s.m.kind ≠ 0 then (131, s) else if s.session = 0 ∨ s.last = 1099511627776 then (132, s) else (0, { s with m := { m with session := s.session, number := s.last + 1 }, timer := 0, last := s.last + 1 })
def dueF (s : CS) : Mg × Bool × CS := if s.m.kind = 0 ∨ 0 < s.timer then (Mg.zero, false, s) else (s.m, true, { s with timer := s.resend })
def hearF (s : CS) (m : Mg) : Int × CS := if s.m.kind = 1 ∧ m.kind = 7 ∧ s.greatest < m.session then (1, { s with m := Mg.zero, timer := 0, session := m.session, last := 0, greatest := m.session })
  else if s.m.number = 0 ∨ m.session ≠ s.m.session ∨ m.number ≠ s.m.number then (0, s)
  else if m.kind = 8 then (2, { s with m := Mg.zero, timer := 0, session := 0, last := 0 }) else if fitsB s.m.kind m.kind then (3, { s with m := Mg.zero, timer := 0 }) else (0, s)
theorem helloF_inv {s : CS} (h : CInv s) : CInv (helloF s).2 := by
  unfold helloF
  split
  · exact ⟨Int.le_refl _, by show (0 : Int) ≤ 16; omega, h.r0, h.r1, Int.le_refl _, by show (0 : Int) ≤ 1099511627776; omega, h.g0, .inl ⟨.inr rfl, rfl⟩⟩
  · exact h
theorem askF_inv {s : CS} {m : Mg} (h : CInv s) : CInv (askF s m).2 := by
  have := h.l0; have := h.l1
  unfold askF
  split
  · exact h
  · split
    · exact h
    · split
      · exact h
      · exact ⟨Int.le_refl _, by show (0 : Int) ≤ 16; omega, h.r0, h.r1, by show 0 ≤ s.last + 1; omega, by show s.last + 1 ≤ 1099511627776; omega, h.g0, .inr ⟨by show 2 ≤ m.kind; omega, by show m.kind ≤ 4; omega, by show 1 ≤ s.last + 1; omega⟩⟩
theorem dueF_inv {s : CS} (h : CInv s) : CInv (dueF s).2.2 := by
  have := h.r0
  unfold dueF
  split
  · exact h
  · exact ⟨by show 0 ≤ s.resend; omega, h.r1, h.r0, h.r1, h.l0, h.l1, h.g0, h.k⟩
theorem hearF_inv {s : CS} {m : Mg} (h : CInv s) : CInv (hearF s m).2 := by
  have h0 := h.g0
  have z : (0 : Int) ≤ 16 := by omega
  have z2 : (0 : Int) ≤ 1099511627776 := by omega
  unfold hearF
  split
  · exact ⟨Int.le_refl _, z, h.r0, h.r1, Int.le_refl _, z2, by show 0 ≤ m.session; omega, .inl ⟨.inl rfl, rfl⟩⟩
  · split
    · exact h
    · split
      · exact ⟨Int.le_refl _, z, h.r0, h.r1, Int.le_refl _, z2, h.g0, .inl ⟨.inl rfl, rfl⟩⟩
      · split
        · exact ⟨Int.le_refl _, z, h.r0, h.r1, h.l0, h.l1, h.g0, .inl ⟨.inl rfl, rfl⟩⟩
        · exact h
theorem tick_inv {s : CS} (h : CInv s) : CInv { s with timer := max 0 (s.timer - 1) } := by
  have := h.t0; have := h.t1
  exact ⟨by show 0 ≤ max 0 (s.timer - 1); omega, by show max 0 (s.timer - 1) ≤ 16; omega, h.r0, h.r1, h.l0, h.l1, h.g0, h.k⟩

theorem hello_F (n : Nat) (s : CS) (h : CInv s) : Con Try.prog 10 #[ptr n] (CalB n s) fun v A => v = .int .i64 (helloF s).1 ∧ A = CalB n (helloF s).2 := by
  unfold helloF
  split
  · rename_i hk
    refine (hello_ok n s hk).mono fun v A ⟨h1, h2⟩ => ⟨h1, ?_⟩
    rw [h2, show max s.greatest 0 = s.greatest from by have := h.g0; omega]
  · rename_i hk; exact hello_busy n s hk
theorem rhello_F (g x : Nat) (pre post : List Value) (s : CS) (hp : pre.length = x) : Con Try.prog 37 #[mptr g x] (MidB g pre post s) fun v A => v = .int .i64 (helloF s).1 ∧ A = MidB g pre post (helloF s).2 := by
  unfold helloF
  split
  · rename_i hk; exact rhello_ok g x pre post s hp hk
  · rename_i hk; exact rhello_busy g x pre post s hp hk
theorem ask_F (n : Nat) (s : CS) (m : Mg) (h : CInv s) : Con Try.prog 11 #[ptr n, .agg m.row.toArray] (CalB n s) fun v A => v = .int .i64 (askF s m).1 ∧ A = CalB n (askF s m).2 := by
  unfold askF
  split
  · rename_i hk; exact ask_kind n s m hk
  · split
    · rename_i h1 hk; exact ask_busy n s m (by omega) (by omega) hk
    · split
      · rename_i h1 h2 h3; exact ask_none n s m (by omega) (by omega) (by omega) h3
      · rename_i h1 h2 h3; exact ask_ok n s m (by omega) (by omega) (by omega) (by omega) (by omega) h.l0 h.l1
theorem rask_F (g x : Nat) (pre post : List Value) (s : CS) (m : Mg) (hp : pre.length = x) (h : CInv s) : Con Try.prog 38 #[mptr g x, .agg m.row.toArray] (MidB g pre post s) fun v A => v = .int .i64 (askF s m).1 ∧ A = MidB g pre post (askF s m).2 := by
  have hl := h.l1
  unfold askF
  split
  · rename_i hk; exact rask_kind g x pre post s m hp hk
  · split
    · rename_i h1 hk; exact rask_busy g x pre post s m hp (by omega) (by omega) hk
    · split
      · rename_i h1 h2 h3; exact rask_none g x pre post s m hp (by omega) (by omega) (by omega) (by omega)
      · rename_i h1 h2 h3; exact rask_ok g x pre post s m hp (by omega) (by omega) (by omega) (by omega) h.l0 (by omega)
theorem due_F (n : Nat) (s : CS) (h : CInv s) : Con Try.prog 13 #[ptr n] (CalB n s) fun v A => v = .tuple #[.agg (dueF s).1.row.toArray, .bool (dueF s).2.1] ∧ A = CalB n (dueF s).2.2 := by
  unfold dueF
  split
  · rename_i hk; exact due_no n s hk
  · rename_i hk; exact due_yes n s (by omega) (by omega)
theorem rdue_F (g x : Nat) (pre post : List Value) (s : CS) (hp : pre.length = x) : Con Try.prog 40 #[mptr g x] (MidB g pre post s) fun v A => v = .tuple #[.agg (dueF s).1.row.toArray, .bool (dueF s).2.1] ∧ A = MidB g pre post (dueF s).2.2 := by
  unfold dueF
  split
  · rename_i hk; exact rdue_no g x pre post s hp hk
  · rename_i hk; exact rdue_yes g x pre post s hp (by omega) (by omega)
theorem hear_F (n : Nat) (s : CS) (m : Mg) (h : CInv s) : Con Try.prog 14 #[ptr n, .agg m.row.toArray] (CalB n s) fun v A => v = .int .i64 (hearF s m).1 ∧ A = CalB n (hearF s m).2 := by
  have hg := h.g0
  unfold hearF
  split
  · rename_i hk
    refine (hear_welcome n s m hk.1 hk.2.1 hk.2.2).mono fun v A ⟨h1, h2⟩ => ⟨h1, ?_⟩
    rw [h2, show max s.greatest m.session = m.session from by omega]
  · rename_i hk
    split
    · rename_i hw; exact hear_nothing n s m hk hw
    · rename_i hw
      refine (hear_rest n s m hk (by omega) (by omega) (by omega)).mono fun v A ⟨h1, h2⟩ => ?_
      rw [h1, h2, show max s.greatest 0 = s.greatest from by omega]
      split
      · exact ⟨rfl, rfl⟩
      · split
        · exact ⟨rfl, rfl⟩
        · exact ⟨rfl, rfl⟩
theorem rhear_F (g x : Nat) (pre post : List Value) (s : CS) (m : Mg) (hp : pre.length = x) (h : CInv s) : Con Try.prog 41 #[mptr g x, .agg m.row.toArray] (MidB g pre post s) fun v A => v = .int .i64 (hearF s m).1 ∧ A = MidB g pre post (hearF s m).2 := by
  have hg := h.k
  unfold hearF
  split
  · rename_i hk
    exact rhear_welcome g x pre post s m hp hk.1 hk.2.1 hk.2.2
  · rename_i hk
    split
    · rename_i hw; exact rhear_nothing g x pre post s m hp hk (by omega)
    · rename_i hw
      refine (rhear_rest g x pre post s m hp (by omega) (by omega) (by omega)).mono fun v A ⟨h1, h2⟩ => ?_
      rw [h1, h2]
      split
      · exact ⟨rfl, rfl⟩
      · split
        · exact ⟨rfl, rfl⟩
        · exact ⟨rfl, rfl⟩
end Go.Proofs.Ytdfimjgbdipnjaa
