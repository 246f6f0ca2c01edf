import Derived.Test.YtfghnepmbgbnoaaA17
import Derived.Test.YtfghnepmbgbnoaaRows
import Derived.WalkKit
import Derived.ProofKit
import Derived.OpenShut
import Derived.ShutString
import Derived.ChangeOld
import Derived.Below
import Derived.JoinedCond
namespace Go.Proofs.Ytfghnepmbgbnoaa
open Go Go.Sep Go.Proofs
open Go.ChangeShapes Go.WideShapes Go.ChangeAt Go.RowKit
set_option linter.unusedVariables false
set_option linter.unusedSimpArgs false
set_option maxRecDepth 10000

/-! events that came in -/
theorem bulk_pos {H : Type} (d : DataW H) : 1 ≤ Rows.uptoBulk d := by
  cases d with
  | lit l => cases l <;> simp [Rows.uptoBulk]
  | _ => simp [Rows.uptoBulk]
theorem bulk_len {H : Type} : ∀ (l : List (DataW H)), l.length ≤ Rows.uptoBulkAll l
  | [] => by simp [Rows.uptoBulkAll]
  | x :: r => by have h1 := bulk_pos x; have h2 := bulk_len r; simp only [Rows.uptoBulkAll, List.length_cons]; omega
theorem bulk_mem {H : Type} : ∀ {l : List (DataW H)} {d : DataW H}, d ∈ l → Rows.uptoBulk d ≤ Rows.uptoBulkAll l
  | [], _, h => by cases h
  | x :: r, d, h => by
    simp only [Rows.uptoBulkAll]
    rcases List.mem_cons.1 h with rfl | h
    · omega
    · have := bulk_mem h; omega

/-- A slice opened: its elements' cells, each read. -/
theorem slice_in {H : Type} {enc : TypeId × Value → H} {P : Program} {w : World} {base : Nat} {spare : Nat → Bool} {held : Bool} {t e : TypeId} {fuel : Nat} {x : DataW H × List MemPlace} {a : Option Addr} {len cap sz : Nat}
    (ht : P.underlying t = some (.slice e)) (hc : P.cellsOf e = sz) (hsz : 0 < sz) (h : DataW.trod enc P w base spare held fuel t [.slice a len cap] = some x) (hsp : ∀ b, spare b = true) :
    ∃ el : List (DataW H), el.length = len ∧ len ≤ cap ∧ ((x.1 = .nil ∧ len = 0) ∨ ∃ sp, x.1 = .slice el sp) ∧
      ∀ i, i < len → ∃ (b o n : Nat) (cs : List Value) (y : DataW H × List MemPlace), a = some ⟨b, o, none⟩ ∧ cs.length = sz ∧ (∀ j u, cs[j]? = some u → w.cell? ⟨b, o + i * sz + j, none⟩ = some u) ∧ DataW.trod enc P w base spare held n e cs = some y ∧ el[i]? = some y.1 := by
  rcases Go.Deep.open_slice ht h with ⟨h1, rfl⟩ | ⟨a', len', cap', m, n, D, Pl, hcs, hb, hl, hm, hmm, rfl, hi⟩
  · simp only [List.cons.injEq, Value.slice.injEq, and_true] at h1
    obtain ⟨rfl, rfl, rfl⟩ := h1
    exact ⟨[], rfl, Nat.le_refl _, .inl ⟨rfl, rfl⟩, fun i hi => absurd hi (by omega)⟩
  · simp only [List.cons.injEq, Value.slice.injEq, and_true] at hcs
    obtain ⟨rfl, rfl, rfl⟩ := hcs
    rw [hsp, if_pos rfl] at hmm
    subst hmm
    refine ⟨(List.range len).map D, by simp, hl, .inr ⟨_, rfl⟩, fun i him => ?_⟩
    obtain ⟨cs', hcl, htr⟩ := hi i (by omega)
    rw [hc] at hcl
    obtain ⟨_, hlen, hat⟩ := World.cells?_some hcl
    obtain ⟨b, o, s⟩ := a'
    have h0 : ∃ u, w.cell? ⟨b, o, s⟩ = some u := by
      obtain ⟨cs0, hcl0, _⟩ := hi 0 (by omega)
      rw [hc] at hcl0
      obtain ⟨_, hlen0, hat0⟩ := World.cells?_some hcl0
      have := hat0 0 hsz
      rw [Nat.zero_mul] at this
      simp only [Addr.add, if_true] at this
      exact ⟨_, this.trans (List.getElem?_eq_getElem (by omega))⟩
    obtain ⟨u0, hu0⟩ := h0
    obtain rfl := cell_spot hu0
    refine ⟨b, o, n, cs', (D i, Pl i), rfl, hlen, fun j u hu => ?_, htr, by simp [him]⟩
    have hj : j < sz := by rw [← hlen]; exact (List.getElem?_eq_some_iff.1 hu).1
    have := hat j hj
    rw [add_none, add_none, hu] at this
    exact this

theorem evFields : flB Try.prog 39 = some [(3, 0), (24, 1), (33, 2), (3, 4), (3, 5), (3, 6), (3, 7), (3, 8), (36, 9), (9, 11), (37, 12)] := by kernel_rfl
theorem cInt : Try.prog.cellsOf 3 = 1 := by kernel_rfl
theorem cErr : Try.prog.cellsOf 24 = 1 := by kernel_rfl
theorem cAddr : Try.prog.cellsOf 33 = 2 := by kernel_rfl
theorem cRes : Try.prog.cellsOf 36 = 2 := by kernel_rfl
theorem cStr : Try.prog.cellsOf 9 = 1 := by kernel_rfl
theorem cTx : Try.prog.cellsOf 37 = 1 := by kernel_rfl
theorem cEv : Try.prog.cellsOf 39 = 13 := by kernel_rfl
theorem all1 {k : LK} {v : Value} (h : AllK [k] [v]) : CellK k v := h.1

theorem ev_in {H : Type} {enc : TypeId × Value → H} {w : World} {spare : Nat → Bool} {held : Bool} {fuel : Nat} {x : DataW H × List MemPlace} {cs : List Value} {base : Nat}
    (h : DataW.trod enc Try.prog w base spare held fuel 39 cs = some x) (hsp : ∀ b, spare b = true) : ∃ e : Ev, cs = e.row ∧ e.texts.length ≤ e.tc ∧ SIn (baseOf w) e.ta e.texts ∧ e.texts.length ≤ Rows.uptoBulk x.1 := by
  have hf := evFields
  unfold flB at hf
  split at hf
  · rename_i fields hu
    injection hf with hf
    obtain ⟨xs, n, _, rfl, hlen, hxl, hat⟩ := DataW.trod_struct hu h
    rw [cEv] at hlen
    have fld : ∀ (i t o : Nat), [(3, 0), (24, 1), (33, 2), (3, 4), (3, 5), (3, 6), (3, 7), (3, 8), (36, 9), (9, 11), (37, 12)][i]? = some (t, o) →
        ∃ y, xs[i]? = some y ∧ DataW.trod enc Try.prog w base spare held n t ((cs.drop o).take (Try.prog.cellsOf t)) = some y := fun i t o hi => by
      rw [← hf, List.getElem?_map] at hi
      cases hfi : fields.toList[i]? with
      | none => rw [hfi] at hi; cases hi
      | some f =>
        rw [hfi] at hi
        injection hi with hi
        injection hi with e1 e2
        have hfa : fields[i]? = some f := by rw [← hfi]; simp
        have hlt : i < xs.length := by rw [hxl]; exact (Array.getElem?_eq_some_iff.1 hfa).1
        have := hat i f hfa
        rw [e1, e2] at this
        exact ⟨xs[i], List.getElem?_eq_getElem hlt, this.trans (List.getElem?_eq_getElem hlt)⟩
    match cs, hlen with
    | [c0, c1, c2, c3, c4, c5, c6, c7, c8, c9, c10, c11, c12], _ =>
      have i0 : ∃ y, xs[0]? = some y ∧ DataW.trod enc Try.prog w base spare held n 3 [c0] = some y := by have := fld 0 _ _ rfl; rw [cInt] at this; exact this
      have i1 : ∃ y, xs[1]? = some y ∧ DataW.trod enc Try.prog w base spare held n 24 [c1] = some y := by have := fld 1 _ _ rfl; rw [cErr] at this; exact this
      have i2 : ∃ y, xs[2]? = some y ∧ DataW.trod enc Try.prog w base spare held n 33 [c2, c3] = some y := by have := fld 2 _ _ rfl; rw [cAddr] at this; exact this
      have i3 : ∃ y, xs[3]? = some y ∧ DataW.trod enc Try.prog w base spare held n 3 [c4] = some y := by have := fld 3 _ _ rfl; rw [cInt] at this; exact this
      have i4 : ∃ y, xs[4]? = some y ∧ DataW.trod enc Try.prog w base spare held n 3 [c5] = some y := by have := fld 4 _ _ rfl; rw [cInt] at this; exact this
      have i5 : ∃ y, xs[5]? = some y ∧ DataW.trod enc Try.prog w base spare held n 3 [c6] = some y := by have := fld 5 _ _ rfl; rw [cInt] at this; exact this
      have i6 : ∃ y, xs[6]? = some y ∧ DataW.trod enc Try.prog w base spare held n 3 [c7] = some y := by have := fld 6 _ _ rfl; rw [cInt] at this; exact this
      have i7 : ∃ y, xs[7]? = some y ∧ DataW.trod enc Try.prog w base spare held n 3 [c8] = some y := by have := fld 7 _ _ rfl; rw [cInt] at this; exact this
      have i8 : ∃ y, xs[8]? = some y ∧ DataW.trod enc Try.prog w base spare held n 36 [c9, c10] = some y := by have := fld 8 _ _ rfl; rw [cRes] at this; exact this
      have i9 : ∃ y, xs[9]? = some y ∧ DataW.trod enc Try.prog w base spare held n 9 [c11] = some y := by have := fld 9 _ _ rfl; rw [cStr] at this; exact this
      have i10 : ∃ y, xs[10]? = some y ∧ DataW.trod enc Try.prog w base spare held n 37 [c12] = some y := by have := fld 10 _ _ rfl; rw [cTx] at this; exact this
      clear fld hat hf
      obtain ⟨_, _, i0⟩ := i0
      obtain ⟨_, _, i1⟩ := i1
      obtain ⟨_, _, i2⟩ := i2
      obtain ⟨_, _, i3⟩ := i3
      obtain ⟨_, _, i4⟩ := i4
      obtain ⟨_, _, i5⟩ := i5
      obtain ⟨_, _, i6⟩ := i6
      obtain ⟨_, _, i7⟩ := i7
      obtain ⟨_, _, i8⟩ := i8
      obtain ⟨_, _, i9⟩ := i9
      obtain ⟨yT, hyT, i10⟩ := i10
      obtain ⟨⟨k0, rfl, _⟩, _⟩ : AllK [.int .i64] [c0] := FlatT.open_ i0
      obtain ⟨⟨k1, rfl, _⟩, _⟩ : AllK [.int .i64] [c1] := FlatT.open_ i1
      obtain ⟨⟨k2, rfl, _⟩, ⟨k3, rfl, _⟩, _⟩ : AllK [.int .i64, .int .i64] [c2, c3] := FlatT.open_ i2
      obtain ⟨⟨k4, rfl, _⟩, _⟩ : AllK [.int .i64] [c4] := FlatT.open_ i3
      obtain ⟨⟨k5, rfl, _⟩, _⟩ : AllK [.int .i64] [c5] := FlatT.open_ i4
      obtain ⟨⟨k6, rfl, _⟩, _⟩ : AllK [.int .i64] [c6] := FlatT.open_ i5
      obtain ⟨⟨k7, rfl, _⟩, _⟩ : AllK [.int .i64] [c7] := FlatT.open_ i6
      obtain ⟨⟨k8, rfl, _⟩, _⟩ : AllK [.int .i64] [c8] := FlatT.open_ i7
      obtain ⟨⟨k9, rfl, _⟩, ⟨k10, rfl, _⟩, _⟩ : AllK [.int .i64, .int .u64] [c9, c10] := FlatT.open_ i8
      obtain ⟨⟨k11, rfl, _⟩, _⟩ : AllK [.str] [c11] := FlatT.open_ i9
      obtain ⟨ta, tn, tc, rfl⟩ : ∃ ta tn tc, c12 = .slice ta tn tc := by
        rcases Go.Deep.open_slice Try.underlying37 i10 with ⟨h1, _⟩ | ⟨a', len', cap', m, n, D, Pl, hcs, _⟩
        · exact ⟨_, _, _, (List.cons.inj h1).1⟩
        · exact ⟨_, _, _, (List.cons.inj hcs).1⟩
      obtain ⟨el, hel, hcap, hform, hel2⟩ := slice_in Try.underlying37 cStr (by decide) i10 hsp
      obtain ⟨tx, htl, htx⟩ := exists_list (α := ByteArray) (p := fun i s => ∃ b off, ta = some ⟨b, off, none⟩ ∧ ∀ A, Rd (baseOf w) A b (off + i * 1) (.string s)) tn (fun i hi => by
        obtain ⟨b, o, m, cs1, y, rfl, hl1, hcell, htr, _⟩ := hel2 i hi
        match cs1, hl1 with
        | [v0], _ =>
          obtain ⟨⟨s, rfl, _⟩, _⟩ : AllK [.str] [v0] := FlatT.open_ htr
          exact ⟨s, b, o, rfl, fun A => rd_base (hcell 0 _ rfl)⟩)
      refine ⟨⟨k0, k1, k2, k3, k4, k5, k6, k7, k8, k9, k10, k11, tx, ta, tc⟩, by dsimp only [Ev.row]; rw [htl], by dsimp only; omega, htx, ?_⟩
      show tx.length ≤ Rows.uptoBulk (.agg (xs.map (·.1)))
      simp only [Rows.uptoBulk]
      have hm : yT.1 ∈ xs.map (·.1) := List.mem_map_of_mem (List.mem_of_getElem? hyT)
      have hb := bulk_mem hm
      rcases hform with ⟨_, h0⟩ | ⟨sp, hs⟩
      · omega
      · rw [hs] at hb
        simp only [Rows.uptoBulk] at hb
        have := bulk_len el
        omega
  · cases hf

theorem sum_bulk {H : Type} : ∀ (l : List Ev) (el : List (DataW H)), l.length = el.length → (∀ (i : Nat) (e : Ev) (d : DataW H), l[i]? = some e → el[i]? = some d → e.texts.length ≤ Rows.uptoBulk d) → totT l ≤ Rows.uptoBulkAll el
  | [], el, _, _ => Nat.zero_le _
  | e :: l, [], h, _ => by cases h
  | e :: l, d :: el, h, hp => by
    have h1 := hp 0 e d rfl rfl
    have h2 := sum_bulk l el (by simpa using h) fun i e' d' he hd => hp (i + 1) e' d' (by simpa using he) (by simpa using hd)
    have h3 : totT (e :: l) = e.texts.length + totT l := by simp [totT]
    simp only [Rows.uptoBulkAll]
    omega

/-- The row of events that came in. -/
theorem evs_in' {H : Type} {enc : TypeId × Value → H} {w : World} {base : Nat} {spare : Nat → Bool} {held : Bool} {fuel : Nat} {x : DataW H × List MemPlace} {a : Option Addr} {len cap : Nat}
    (h : DataW.trod enc Try.prog w base spare held fuel 22 [.slice a len cap] = some x) (hsp : ∀ b, spare b = true) (hb : Rows.uptoBulk x.1 ≤ 1048576) :
    ∃ l : List Ev, l.length = len ∧ LsOk (baseOf w) a l ∧ len ≤ cap ∧ totT l ≤ Rows.uptoBulk x.1 := by
  obtain ⟨el, hel, hcap, hform, hi⟩ := slice_in Try.underlying22 cEv (by decide) h hsp
  obtain ⟨l, hl, hp⟩ := exists_list (α := Ev) (p := fun i e => (∃ b off, a = some ⟨b, off, none⟩ ∧ ∀ A j u, e.row[j]? = some u → Rd (baseOf w) A b (off + i * 13 + j) u) ∧ e.texts.length ≤ e.tc ∧ SIn (baseOf w) e.ta e.texts ∧ ∃ d, el[i]? = some d ∧ e.texts.length ≤ Rows.uptoBulk d) len (fun i hil => by
    obtain ⟨b, o, n, cs, y, rfl, hlen, hcell, htr, hd⟩ := hi i hil
    obtain ⟨e, rfl, h1, h2, h3⟩ := ev_in htr hsp
    exact ⟨e, ⟨b, o, rfl, fun A j u hu => rd_base (hcell j u hu)⟩, h1, h2, y.1, hd, h3⟩)
  have hall : Rows.uptoBulkAll el ≤ Rows.uptoBulk x.1 := by
    rcases hform with ⟨_, h0⟩ | ⟨sp, hs⟩
    · have : el = [] := by cases el with
        | nil => rfl
        | cons _ _ => simp at hel; omega
      subst this; simp [Rows.uptoBulkAll]
    · rw [hs]
      simp only [Rows.uptoBulk]
      omega
  have hsum := sum_bulk l el (by rw [hl, hel]) fun i e d he hd => by
    obtain ⟨_, _, _, d', hd', hle⟩ := hp i e he
    rw [hd] at hd'; injection hd' with hd'; subst hd'; exact hle
  have hbl := bulk_len el
  exact ⟨l, hl, ⟨fun i e he => (hp i e he).1, fun e he => by obtain ⟨i, hi⟩ := List.getElem?_of_mem he; exact (hp i e hi).2.2.1, fun e he => by obtain ⟨i, hi⟩ := List.getElem?_of_mem he; exact (hp i e hi).2.1, by omega, by omega⟩, hcap, by omega⟩
theorem evs_in {H : Type} {enc : TypeId × Value → H} {w : World} {base : Nat} {spare : Nat → Bool} {held : Bool} {fuel : Nat} {x : DataW H × List MemPlace} {a : Option Addr} {len cap : Nat}
    (h : DataW.trod enc Try.prog w base spare held fuel 22 [.slice a len cap] = some x) (hsp : ∀ b, spare b = true) (hb : Rows.uptoBulk x.1 ≤ 1048576) :
    ∃ l : List Ev, l.length = len ∧ LsOk (baseOf w) a l ∧ len ≤ cap := by
  obtain ⟨l, h1, h2, h3, _⟩ := evs_in' h hsp hb
  exact ⟨l, h1, h2, h3⟩
end Go.Proofs.Ytfghnepmbgbnoaa
