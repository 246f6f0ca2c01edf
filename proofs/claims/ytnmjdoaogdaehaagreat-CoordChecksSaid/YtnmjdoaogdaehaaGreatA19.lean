import Derived.Test.YtnmjdoaogdaehaaGreatA18
namespace Go.Proofs.YtnmjdoaogdaehaaGreat
open Go Go.Sep Go.Proofs
set_option maxRecDepth 10000
set_option maxHeartbeats 40000000
set_option synthInstance.maxSize 2000
set_option linter.unusedSimpArgs false
set_option linter.unusedVariables false
/-! the head that counts; a log is laid down, found again -/
theorem foundF_num {S : List ByteArray} {at_ : Nat} {h : Hd} {s : ByteArray} {l : List ByteArray} (e : foundF S at_ = some (h, s, l)) : 1 ≤ h.number ∧ h.number ≤ 1099511627776 ∧ h.half ≤ 1 ∧ h.snap ≤ 17000 ∧ h.snap + h.log ≤ roomF S.length := by
  unfold foundF at e
  dsimp only at e
  split at e
  · cases e
  · rename_i hc
    split at e
    · cases e
    · rename_i hd
      cases hf : framesG ((bytesF S (bat (S.getD at_ .empty) 8) (rdN (S.getD at_ .empty) 9 13 + rdN (S.getD at_ .empty) 13 17)).extract (rdN (S.getD at_ .empty) 9 13) (rdN (S.getD at_ .empty) 9 13 + rdN (S.getD at_ .empty) 13 17)) 0 with
      | none => rw [hf] at e; cases e
      | some l2 =>
        rw [hf] at e
        injection e with e
        injection e with e1 e2
        subst e1
        dsimp only
        omega
def bestF (c y : Option (Hd × ByteArray × List ByteArray)) : Option (Hd × ByteArray × List ByteArray) :=
  match c, y with
  | c, none => c
  | none, some y => some y
  | some c, some y => if c.1.number < y.1.number then some y else some c
def curF (S : List ByteArray) : Nat → Option (Hd × ByteArray × List ByteArray)
  | 0 => none
  | i + 1 => bestF (curF S i) (foundF S i)
theorem curF_two (S : List ByteArray) : curF S 2 = countsF S := by
  show bestF (bestF none (foundF S 0)) (foundF S 1) = _
  unfold countsF
  cases foundF S 0 <;> cases foundF S 1 <;> rfl
structure CnS where
  i : Nat
  h : Hd
  s : ByteArray
  sv : Value
  ok : Bool
  G : List Blk
def CurA (c : Option (Hd × ByteArray × List ByteArray)) (t : CnS) : Prop :=
  (c = none ∧ t.h = ⟨0, 0, 0, 0⟩ ∧ t.s = ⟨#[]⟩ ∧ t.sv = .slice none 0 0 ∧ t.ok = false ∧ t.G = []) ∨ ∃ l, c = some (t.h, t.s, l) ∧ t.ok = true ∧ RsT t.sv l t.G
theorem counts_spec (B0 : Base) (db : Nat) (x : Dk) (k : Nat) (D : List Blk) (hD : DkA db x k D) (hde : x.de = false) (hrm : roomF x.S.length ≠ 0) : ConB Tryz.prog B0 35 #[ptr db] D (FoundR (countsF x.S) D) := by
  refine ConB.intro (vs := [_]) Tryz.func35 rfl Tryz.ntmps35 rfl (fun B hB => ?_)
  repeat' (first | refine Cd.seq ?_ | refine Cd.reg ?_ | refine Ops.nil ?_ | refine Ops.mv rfl rfl rfl rfl ?_ | refine Ops.asg rfl rfl rfl rfl ?_ | refine Ops.bld rfl rfl rfl rfl ?_ | refine Ops.alloc rfl rfl rfl (noPd rfl) (fun b => ?_) | refine Ops.stN rfl rfl rfl rfl rfl rfl (noPd rfl) ?_ | refine Cd.block ?_)
  rename_i b2
  rename Nat => b6
  refine Cd.loopK (σ := CnS) (fun t => t.i ≤ 2 ∧ CurA (curF x.S t.i) t) (fun t => [(0, ptr db), (2, ptr b2), (3, .string ⟨#[]⟩), (4, .slice none 0 0), (5, .bool false), (6, ptr b6), (7, .string t.s), (8, t.sv), (9, .bool t.ok), (16, .int .i64 t.i)])
    (fun t => (b6, cl t.h.row 88) :: (b2, cl [.int .i64 0, .int .i64 0, .int .i64 0, .int .i64 0] 88) :: (t.G ++ D)) (fun t => 2 - t.i) ⟨0, ⟨0, 0, 0, 0⟩, ⟨#[]⟩, .slice none 0 0, false, []⟩ ⟨Nat.zero_le _, .inl ⟨rfl, rfl, rfl, rfl, rfl, rfl⟩⟩ ⟨rfl, rfl, rfl, rfl, rfl, rfl, rfl, rfl, rfl, rfl, trivial⟩ (fun w h => h) (fun t ht => ?_)
  obtain ⟨i, h, s, sv, ok, G⟩ := t
  obtain ⟨hi, hc⟩ := ht
  dsimp only at hi hc ⊢
  by_cases hlt : i < 2
  · have hlt' : (i : Int) < 2 := by omega
    repeat' (first | refine Cd.seq ?_ | refine Cd.reg ?_ | refine Ops.mv rfl rfl rfl rfl ?_ | refine Ops.asg rfl rfl rfl rfl ?_ | refine Ops.bin rfl rfl rfl rfl rfl ?_ | refine Cd.block ?_ | refine Cd.skip (Cd.next ?_) | refine Cd.condT rfl (by first | rfl | assumption | (simp only [decide_eq_true_eq, decide_eq_false_iff_not, Bool.not_eq_true', Bool.not_eq_false', Bool.not_eq_eq_eq_not, Bool.not_true, Bool.not_false, beq_iff_eq, beq_eq_false_iff_ne, ne_eq, decide_eq_decide, eq_self, true_iff, iff_true, not_true_eq_false, not_false_eq_true]; first | done | omega)) ?_)
    refine Ops.callB (found_spec B0 db x k D hD i hde (by omega) hrm) hB rfl (noPd rfl) rfl rfl rfl (fun v A' hR => ?_)
    have hcur : curF x.S (i + 1) = bestF (curF x.S i) (foundF x.S i) := rfl
    rcases hR with ⟨hf, n0, n1, n2, n3, u, rfl, e⟩ | ⟨h2, s2, l2, sv2, G2, hf, rfl, e, hsv⟩
    · subst A'
      rw [hf] at hcur
      have hcur2 : curF x.S (i + 1) = curF x.S i := by rw [hcur]; unfold bestF; cases curF x.S i <;> rfl
      repeat' (first | refine Cd.seq ?_ | refine Cd.reg ?_ | refine Ops.nil ?_ | refine Ops.mv rfl rfl rfl rfl ?_ | refine Ops.asg rfl rfl rfl rfl ?_ | refine Ops.addI rfl rfl rfl rfl (by omega) (by omega) rfl ?_ | refine Ops.pickF rfl rfl rfl rfl rfl ?_ | refine Ops.ext rfl rfl rfl rfl rfl ?_ | refine Ops.alloc rfl rfl rfl (noPd rfl) (fun b => ?_) | refine Ops.stN rfl rfl rfl rfl rfl rfl (noPd rfl) ?_ | refine Ops.gSkip rfl rfl rfl ?_ | refine Cd.condF rfl rfl ?_ | refine Cd.skip (Cd.next (Q' := fun _ _ _ => True) ?_))
      exact Ops.nilN (round_end (⟨i + 1, h, s, sv, ok, G⟩ : CnS) ⟨by show i + 1 ≤ 2; omega, by show CurA (curF x.S (i + 1)) _; rw [hcur2]; exact hc⟩ (by show 2 - (i + 1) < 2 - i; omega) ⟨rfl, rfl, rfl, rfl, rfl, rfl, rfl, rfl, rfl, rfl, trivial⟩ (fun w h => h.split))
    · subst A'
      rw [hf] at hcur
      have hnum := (foundF_num hf).1
      by_cases hgt : h.number < h2.number
      · have hgt' : (h.number : Int) < h2.number := by omega
        have hcur2 : curF x.S (i + 1) = some (h2, s2, l2) := by
          rw [hcur]
          rcases hc with ⟨hc, _⟩ | ⟨l, hc, _⟩
          · rw [hc]; rfl
          · rw [hc]; exact if_pos hgt
        repeat' (first | refine Ops.nilN (inB (Cd.next ?_)) | refine Cd.seq ?_ | refine Cd.reg ?_ | refine Ops.nil ?_ | refine Ops.mv rfl rfl rfl rfl ?_ | refine Ops.asg rfl rfl rfl rfl ?_ | refine Ops.fa0 rfl rfl rfl rfl ?_ | refine Ops.ld1 rfl rfl rfl rfl rfl ?_ | refine Ops.ldN rfl rfl rfl rfl ?_ | refine Ops.addI rfl rfl rfl rfl (by omega) (by omega) rfl ?_ | refine Ops.bin rfl rfl rfl rfl rfl ?_ | refine Ops.pickT rfl rfl rfl rfl rfl ?_ | refine Ops.ext rfl rfl rfl rfl rfl ?_ | refine Ops.alloc rfl rfl rfl (noPd rfl) (fun b => ?_) | refine Ops.stN rfl rfl rfl rfl rfl rfl (noPd rfl) ?_ | refine Cd.condT rfl (by first | rfl | assumption | (simp only [decide_eq_true_eq, decide_eq_false_iff_not, Bool.not_eq_true', Bool.not_eq_false', Bool.not_eq_eq_eq_not, Bool.not_true, Bool.not_false, beq_iff_eq, beq_eq_false_iff_ne, ne_eq, decide_eq_decide, eq_self, true_iff, iff_true, not_true_eq_false, not_false_eq_true]; first | done | omega)) ?_)
        exact Ops.nilN (round_end (⟨i + 1, h2, s2, sv2, true, G2⟩ : CnS) ⟨by show i + 1 ≤ 2; omega, .inr ⟨l2, hcur2, rfl, hsv⟩⟩ (by show 2 - (i + 1) < 2 - i; omega) ⟨rfl, rfl, rfl, rfl, rfl, rfl, rfl, rfl, rfl, rfl, trivial⟩ (fun w h => h.split))
      · have hgt' : ¬ (h.number : Int) < h2.number := by omega
        have hcur2 : curF x.S (i + 1) = curF x.S i := by
          rw [hcur]
          rcases hc with ⟨_, hc, _⟩ | ⟨l, hc, _⟩
          · dsimp only at hc; rw [hc] at hgt; dsimp only at hgt; omega
          · rw [hc]; exact if_neg hgt
        repeat' (first | refine Cd.seq ?_ | refine Cd.reg ?_ | refine Ops.nil ?_ | refine Ops.mv rfl rfl rfl rfl ?_ | refine Ops.asg rfl rfl rfl rfl ?_ | refine Ops.fa0 rfl rfl rfl rfl ?_ | refine Ops.ld1 rfl rfl rfl rfl rfl ?_ | refine Ops.addI rfl rfl rfl rfl (by omega) (by omega) rfl ?_ | refine Ops.bin rfl rfl rfl rfl rfl ?_ | refine Ops.pickT rfl rfl rfl rfl rfl ?_ | refine Ops.ext rfl rfl rfl rfl rfl ?_ | refine Ops.alloc rfl rfl rfl (noPd rfl) (fun b => ?_) | refine Ops.stN rfl rfl rfl rfl rfl rfl (noPd rfl) ?_ | refine Cd.skip (Cd.next (Q' := fun _ _ _ => True) ?_) | refine Cd.condF rfl (by first | rfl | assumption | (simp only [decide_eq_true_eq, decide_eq_false_iff_not, Bool.not_eq_true', Bool.not_eq_false', Bool.not_eq_eq_eq_not, Bool.not_true, Bool.not_false, beq_iff_eq, beq_eq_false_iff_ne, ne_eq, decide_eq_decide, eq_self, true_iff, iff_true, not_true_eq_false, not_false_eq_true]; first | done | omega)) ?_)
        exact Ops.nilN (round_end (⟨i + 1, h, s, sv, ok, G⟩ : CnS) ⟨by show i + 1 ≤ 2; omega, by show CurA (curF x.S (i + 1)) _; rw [hcur2]; exact hc⟩ (by show 2 - (i + 1) < 2 - i; omega) ⟨rfl, rfl, rfl, rfl, rfl, rfl, rfl, rfl, rfl, rfl, trivial⟩ (fun w h => h.split))
  · have hlt' : ¬ (i : Int) < 2 := by omega
    have hie : i = 2 := by omega
    subst hie
    rw [curF_two] at hc
    rcases hc with ⟨hc, e1, e2, e3, e4, e5⟩ | ⟨l, hc, e4, hsv⟩
    · dsimp only at e1 e2 e3 e4 e5
      subst e1; subst e2; subst e3; subst e4; subst e5
      repeat' (first | refine Cd.seq ?_ | refine Cd.reg ?_ | refine Ops.nil ?_ | refine Ops.mv rfl rfl rfl rfl ?_ | refine Ops.asg rfl rfl rfl rfl ?_ | refine Ops.ldN rfl rfl rfl rfl ?_ | refine Ops.bin rfl rfl rfl rfl rfl ?_ | refine Ops.stN rfl rfl rfl rfl rfl rfl (noPd rfl) ?_ | refine Cd.condF rfl rfl ?_ | refine Cd.exit (Cd.next (Q' := fun _ _ _ => True) ?_))
      exact Cd.ret (ret4 (A' := D) rfl (Res.cellN rfl) (Res.tmp rfl) (Res.tmp rfl) (Res.tmp rfl) (fun _ h => h.split) (.inl ⟨hc, _, _, _, _, _, rfl, rfl⟩))
    · dsimp only at hc e4 hsv
      subst e4
      repeat' (first | refine Cd.seq ?_ | refine Cd.reg ?_ | refine Ops.nil ?_ | refine Ops.mv rfl rfl rfl rfl ?_ | refine Ops.asg rfl rfl rfl rfl ?_ | refine Ops.ldN rfl rfl rfl rfl ?_ | refine Ops.bin rfl rfl rfl rfl rfl ?_ | refine Ops.stN rfl rfl rfl rfl rfl rfl (noPd rfl) ?_ | refine Cd.condF rfl rfl ?_ | refine Cd.exit (Cd.next (Q' := fun _ _ _ => True) ?_))
      exact Cd.ret (ret4 (A' := G ++ D) rfl (Res.cellN rfl) (Res.tmp rfl) (Res.tmp rfl) (Res.tmp rfl) (fun _ h => h.split) (.inr ⟨_, _, l, sv, G, hc, rfl, rfl, hsv⟩))
/-- A disk's call of Write, of the disk as it is told here. -/
theorem dwrite_k (db : Nat) (x : Dk) (k : Nat) (D : List Blk) (hD : DkA db x k D) (i : Int) (s : ByteArray) (hk : k < 900000000000) :
    Con Tryz.prog 36 #[ptr db, .int .i64 i, .string s] D fun v A => v = .int .i64 (x.write i s).2 ∧ DkA db (x.write i s).1 (k + 1) A := by
  refine (dwrite_spec db x.S x.ar x.bd x.de k D hD.a i s (by omega) hD.b0 hD.b1 hD.a0 hD.a1).mono fun v A h => ⟨h.1, ?_⟩
  obtain ⟨_, h⟩ := h
  have hn := hD.n
  have ha0 := hD.a0
  have ha1 := hD.a1
  refine ⟨h, ?_, by omega, hD.b0, hD.b1, ?_, ?_⟩
  · show (writeD x.S x.ar x.bd x.de i s).1.1.length ≤ 1026
    unfold writeD
    (repeat' split) <;> simp <;> omega
  · show 0 ≤ (writeD x.S x.ar x.bd x.de i s).1.2.1
    unfold writeD
    (repeat' split) <;> dsimp only <;> omega
  · show (writeD x.S x.ar x.bd x.de i s).1.2.1 ≤ 9223372036854775807
    unfold writeD
    (repeat' split) <;> dsimp only <;> omega
theorem DkA.more {db : Nat} {x : Dk} {k k' : Nat} {D : List Blk} (h : DkA db x k D) (hk : k ≤ k') (hk' : k' ≤ 900000000000) : DkA db x k' D := by
  obtain ⟨⟨g, c, sp, rv, rows, H, h1, h2, h3, h4, h5⟩, hn, _, b0, b1, a0, a1⟩ := h
  exact ⟨⟨g, c, sp, rv, rows, H, h1, h2, by omega, h4, h5⟩, hn, hk', b0, b1, a0, a1⟩
theorem format_spec (B0 : Base) (db : Nat) (x : Dk) (k : Nat) (D : List Blk) (hD : DkA db x k D) (hk : k < 900000000000) : ConB Tryz.prog B0 18 #[ptr db] D fun v A => v = .int .i64 (formatF x).2 ∧ DkA db (formatF x).1 (k + 1) A := by
  have hD1 := hD.more (k' := k + 1) (by omega) (by omega)
  refine ConB.intro (vs := [_]) Tryz.func18 rfl Tryz.ntmps18 rfl (fun B hB => ?_)
  unfold formatF
  repeat' (first | refine Cd.seq ?_ | refine Cd.reg ?_ | refine Ops.mv rfl rfl rfl rfl ?_ | refine Ops.asg rfl rfl rfl rfl ?_)
  refine Ops.call (ddead_spec db x.S x.ar x.bd x.de k D hD.a) rfl (noPd rfl) rfl rfl rfl (fun v A' hR => ?_)
  obtain ⟨rfl, e⟩ := hR
  subst A'
  by_cases hde : x.de = true
  · rw [if_pos hde, hde]
    repeat' (first | refine Cd.seq ?_ | refine Cd.reg ?_ | refine Ops.nil ?_ | refine Ops.asg rfl rfl rfl rfl ?_ | refine Cd.condT rfl rfl ?_)
    exact Cd.ret (ret1 (A' := D) rfl (Res.tmp rfl) (fun _ h => h.split) ⟨rfl, hD1⟩)
  have hde : x.de = false := by simpa using hde
  rw [if_neg (by rw [hde]; simp), hde]
  repeat' (first | refine Cd.seq ?_ | refine Cd.reg ?_ | refine Ops.nil ?_ | refine Ops.mv rfl rfl rfl rfl ?_ | refine Cd.condF rfl rfl ?_ | refine Cd.skip (Cd.next ?_))
  refine Ops.call (room_spec db x k D hD) rfl (noPd rfl) rfl rfl rfl (fun v A' hR => ?_)
  obtain ⟨rfl, e⟩ := hR
  subst A'
  by_cases hrm : roomF x.S.length = 0
  · have hrm' : ((roomF x.S.length : Nat) : Int) = 0 := by omega
    rw [if_pos hrm]
    repeat' (first | refine Cd.seq ?_ | refine Cd.reg ?_ | refine Ops.nil ?_ | refine Ops.asg rfl rfl rfl rfl ?_ | refine Ops.bin rfl rfl rfl rfl rfl ?_ | refine Cd.condT rfl (by first | rfl | assumption | (simp only [decide_eq_true_eq, decide_eq_false_iff_not, Bool.not_eq_true', Bool.not_eq_false', Bool.not_eq_eq_eq_not, Bool.not_true, Bool.not_false, beq_iff_eq, beq_eq_false_iff_ne, ne_eq, decide_eq_decide, eq_self, true_iff, iff_true, not_true_eq_false, not_false_eq_true]; first | done | omega)) ?_)
    exact Cd.ret (ret1 (A' := D) rfl (Res.tmp rfl) (fun _ h => h.split) ⟨rfl, hD1⟩)
  have hrm' : ¬ ((roomF x.S.length : Nat) : Int) = 0 := by omega
  rw [if_neg hrm]
  repeat' (first | refine Cd.seq ?_ | refine Cd.reg ?_ | refine Ops.nil ?_ | refine Ops.mv rfl rfl rfl rfl ?_ | refine Ops.bin rfl rfl rfl rfl rfl ?_ | refine Cd.skip (Cd.next ?_) | refine Cd.condF rfl (by first | rfl | assumption | (simp only [decide_eq_true_eq, decide_eq_false_iff_not, Bool.not_eq_true', Bool.not_eq_false', Bool.not_eq_eq_eq_not, Bool.not_true, Bool.not_false, beq_iff_eq, beq_eq_false_iff_ne, ne_eq, decide_eq_decide, eq_self, true_iff, iff_true, not_true_eq_false, not_false_eq_true]; first | done | omega)) ?_)
  refine Ops.callB (counts_spec B0 db x k D hD hde hrm) hB rfl (noPd rfl) rfl rfl rfl (fun v A' hR => ?_)
  rcases hR with ⟨hf, n0, n1, n2, n3, u, rfl, e⟩ | ⟨h2, s2, l2, sv2, G2, hf, rfl, e, hsv⟩
  · subst A'
    rw [hf, if_neg (by simp)]
    repeat' (first | refine Cd.seq ?_ | refine Cd.reg ?_ | refine Ops.nil ?_ | refine Ops.mv rfl rfl rfl rfl ?_ | refine Ops.asg rfl rfl rfl rfl ?_ | refine Ops.ext rfl rfl rfl rfl rfl ?_ | refine Ops.bld rfl rfl rfl rfl ?_ | refine Ops.alloc rfl rfl rfl (noPd rfl) (fun b => ?_) | refine Ops.stN rfl rfl rfl rfl rfl rfl (noPd rfl) ?_ | refine Cd.condF rfl rfl ?_ | refine Cd.skip (Cd.next ?_))
    refine Ops.call (sector_spec ⟨1, 0, 0, 0⟩ ⟨by decide, by decide, by decide, by decide⟩) rfl (noPd rfl) rfl rfl rfl (fun v A' hR => ?_)
    obtain ⟨rfl, rfl⟩ := hR
    skip
    refine Ops.call (dwrite_k db x k D hD 1 (sectorF ⟨1, 0, 0, 0⟩) hk) rfl (noPd rfl) rfl rfl rfl (fun v A' hR => ?_)
    obtain ⟨rfl, hD2⟩ := hR
    repeat' (first | refine Ops.nil ?_ | refine Ops.asg rfl rfl rfl rfl ?_)
    exact Cd.ret (ret1 (A' := A') rfl (Res.tmp rfl) (fun _ h => h.split) ⟨rfl, hD2⟩)
  · subst A'
    rw [hf, if_pos (by rfl)]
    repeat' (first | refine Cd.seq ?_ | refine Cd.reg ?_ | refine Ops.nil ?_ | refine Ops.mv rfl rfl rfl rfl ?_ | refine Ops.asg rfl rfl rfl rfl ?_ | refine Ops.ext rfl rfl rfl rfl rfl ?_ | refine Ops.alloc rfl rfl rfl (noPd rfl) (fun b => ?_) | refine Ops.stN rfl rfl rfl rfl rfl rfl (noPd rfl) ?_ | refine Cd.condT rfl rfl ?_)
    exact Cd.ret (ret1 (A' := D) rfl (Res.tmp rfl) (fun _ h => h.split) ⟨rfl, hD1⟩)
@[reducible] def WlB (wb db : Nat) (w : Wl) : Blk := (wb, cl [ptr db, .int .i64 w.h.number, .int .i64 w.h.half, .int .i64 w.h.snap, .int .i64 w.h.log, .int .i64 w.recs, .bool w.dead] 144)
/-- Open: the log, its snapshot and records, the fault. -/
def openW (x : Dk) : Option (Hd × ByteArray × List ByteArray) × Int :=
  if x.de then (none, 2) else if roomF x.S.length = 0 then (none, 91) else match countsF x.S with
    | none => (none, 90)
    | some r => (some r, 0)
def OpenWR (x : Dk) (db : Nat) (D : List Blk) (v : Value) (A : List Blk) : Prop :=
  ((openW x).1 = none ∧ v = .tuple #[.pointer none, .string ⟨#[]⟩, .slice none 0 0, .int .i64 (openW x).2] ∧ A = D) ∨
  (∃ h s l wb sv G, openW x = (some (h, s, l), 0) ∧ v = .tuple #[ptr wb, .string s, sv, .int .i64 0] ∧ A = WlB wb db ⟨h, l.length, false⟩ :: (G ++ D) ∧ RsT sv l G)
theorem wopen_spec (B0 : Base) (db : Nat) (x : Dk) (k : Nat) (D : List Blk) (hD : DkA db x k D) : ConB Tryz.prog B0 38 #[ptr db] D (OpenWR x db D) := by
  refine ConB.intro (vs := [_]) Tryz.func38 rfl Tryz.ntmps38 rfl (fun B hB => ?_)
  have hop : openW x = if x.de then ((none, 2) : Option (Hd × ByteArray × List ByteArray) × Int) else if roomF x.S.length = 0 then (none, 91) else match countsF x.S with
    | none => (none, 90)
    | some r => (some r, 0) := rfl
  repeat' (first | refine Cd.seq ?_ | refine Cd.reg ?_ | refine Ops.mv rfl rfl rfl rfl ?_ | refine Ops.asg rfl rfl rfl rfl ?_)
  refine Ops.call (ddead_spec db x.S x.ar x.bd x.de k D hD.a) rfl (noPd rfl) rfl rfl rfl (fun v A' hR => ?_)
  obtain ⟨rfl, e⟩ := hR
  subst A'
  by_cases hde : x.de = true
  · rw [if_pos hde] at hop
    rw [hde]
    repeat' (first | refine Cd.seq ?_ | refine Cd.reg ?_ | refine Ops.nil ?_ | refine Ops.asg rfl rfl rfl rfl ?_ | refine Cd.condT rfl rfl ?_)
    exact Cd.ret (ret4 (A' := D) rfl (Res.tmp rfl) (Res.tmp rfl) (Res.tmp rfl) (Res.tmp rfl) (fun _ h => h.split) (.inl (by rw [hop]; exact ⟨rfl, rfl, rfl⟩)))
  have hde : x.de = false := by simpa using hde
  rw [if_neg (by rw [hde]; simp)] at hop
  rw [hde]
  repeat' (first | refine Cd.seq ?_ | refine Cd.reg ?_ | refine Ops.nil ?_ | refine Ops.mv rfl rfl rfl rfl ?_ | refine Cd.condF rfl rfl ?_ | refine Cd.skip (Cd.next ?_))
  refine Ops.call (room_spec db x k D hD) rfl (noPd rfl) rfl rfl rfl (fun v A' hR => ?_)
  obtain ⟨rfl, e⟩ := hR
  subst A'
  by_cases hrm : roomF x.S.length = 0
  · have hrm' : ((roomF x.S.length : Nat) : Int) = 0 := by omega
    rw [if_pos hrm] at hop
    repeat' (first | refine Cd.seq ?_ | refine Cd.reg ?_ | refine Ops.nil ?_ | refine Ops.asg rfl rfl rfl rfl ?_ | refine Ops.bin rfl rfl rfl rfl rfl ?_ | refine Cd.condT rfl (by first | rfl | assumption | (simp only [decide_eq_true_eq, decide_eq_false_iff_not, Bool.not_eq_true', Bool.not_eq_false', Bool.not_eq_eq_eq_not, Bool.not_true, Bool.not_false, beq_iff_eq, beq_eq_false_iff_ne, ne_eq, decide_eq_decide, eq_self, true_iff, iff_true, not_true_eq_false, not_false_eq_true]; first | done | omega)) ?_)
    exact Cd.ret (ret4 (A' := D) rfl (Res.tmp rfl) (Res.tmp rfl) (Res.tmp rfl) (Res.tmp rfl) (fun _ h => h.split) (.inl (by rw [hop]; exact ⟨rfl, rfl, rfl⟩)))
  have hrm' : ¬ ((roomF x.S.length : Nat) : Int) = 0 := by omega
  rw [if_neg hrm] at hop
  repeat' (first | refine Cd.seq ?_ | refine Cd.reg ?_ | refine Ops.nil ?_ | refine Ops.mv rfl rfl rfl rfl ?_ | refine Ops.bin rfl rfl rfl rfl rfl ?_ | refine Cd.skip (Cd.next ?_) | refine Cd.condF rfl (by first | rfl | assumption | (simp only [decide_eq_true_eq, decide_eq_false_iff_not, Bool.not_eq_true', Bool.not_eq_false', Bool.not_eq_eq_eq_not, Bool.not_true, Bool.not_false, beq_iff_eq, beq_eq_false_iff_ne, ne_eq, decide_eq_decide, eq_self, true_iff, iff_true, not_true_eq_false, not_false_eq_true]; first | done | omega)) ?_)
  refine Ops.callB (counts_spec B0 db x k D hD hde hrm) hB rfl (noPd rfl) rfl rfl rfl (fun v A' hR => ?_)
  rcases hR with ⟨hf, n0, n1, n2, n3, u, rfl, e⟩ | ⟨h2, s2, l2, sv2, G2, hf, rfl, e, hsv⟩
  · subst A'
    rw [hf] at hop
    repeat' (first | refine Cd.seq ?_ | refine Cd.reg ?_ | refine Ops.nil ?_ | refine Ops.mv rfl rfl rfl rfl ?_ | refine Ops.asg rfl rfl rfl rfl ?_ | refine Ops.un rfl rfl rfl rfl ?_ | refine Ops.ext rfl rfl rfl rfl rfl ?_ | refine Ops.alloc rfl rfl rfl (noPd rfl) (fun b => ?_) | refine Ops.stN rfl rfl rfl rfl rfl rfl (noPd rfl) ?_ | refine Cd.condT rfl rfl ?_)
    exact Cd.ret (ret4 (A' := D) rfl (Res.tmp rfl) (Res.tmp rfl) (Res.tmp rfl) (Res.tmp rfl) (fun _ h => h.split) (.inl (by rw [hop]; exact ⟨rfl, rfl, rfl⟩)))
  · subst A'
    rw [hf] at hop
    obtain ⟨a2, c2, rfl⟩ := hsv.form
    repeat' (first | refine Cd.seq ?_ | refine Cd.reg ?_ | refine Ops.nil ?_ | refine Ops.mv rfl rfl rfl rfl ?_ | refine Ops.asg rfl rfl rfl rfl ?_ | refine Ops.ldN rfl rfl rfl rfl ?_ | refine Ops.lenS rfl rfl rfl rfl ?_ | refine Ops.un rfl rfl rfl rfl ?_ | refine Ops.ext rfl rfl rfl rfl rfl ?_ | refine Ops.bld rfl rfl rfl rfl ?_ | refine Ops.box rfl rfl rfl rfl (noPd rfl) (fun b => ?_) | refine Ops.alloc rfl rfl rfl (noPd rfl) (fun b => ?_) | refine Ops.stN rfl rfl rfl rfl rfl rfl (noPd rfl) ?_ | refine Cd.condF rfl rfl ?_ | refine Cd.skip (Cd.next ?_))
    rename Nat => wb
    exact Cd.ret (ret4 (A' := WlB wb db ⟨h2, l2.length, false⟩ :: (G2 ++ D)) rfl (Res.tmp rfl) (Res.tmp rfl) (Res.tmp rfl) (Res.tmp rfl) (fun _ h => h.split) (.inr ⟨h2, s2, l2, wb, _, G2, hop, rfl, rfl, hsv⟩))
theorem gone_spec (wb db : Nat) (w : Wl) (x : Dk) (k : Nat) (D : List Blk) (hD : DkA db x k D) : Con Tryz.prog 70 #[ptr wb] (WlB wb db w :: D) fun v A => v = .bool (w.dead || x.de) ∧ A = WlB wb db { w with dead := (w.dead || x.de) } :: D := by
  obtain ⟨h, recs, dead⟩ := w
  refine Con.intro (vs := [_]) Tryz.func70 rfl Tryz.ntmps70 rfl (fun B => ?_)
  cases dead with
  | true =>
    repeat' (first | refine Cd.seq ?_ | refine Cd.reg ?_ | refine Ops.nil ?_ | refine Ops.mv rfl rfl rfl rfl ?_ | refine Ops.asg rfl rfl rfl rfl ?_ | refine Ops.nilP rfl rfl rfl rfl ?_ | refine Ops.fa0 rfl rfl rfl rfl ?_ | refine Ops.ld1 rfl rfl rfl rfl rfl ?_ | refine Ops.pickT rfl rfl rfl rfl rfl ?_ | refine Ops.st1 rfl rfl rfl rfl rfl (noPd rfl) ?_ | refine Ops.gSkip rfl rfl rfl ?_)
    exact Cd.ret (ret1 (A' := WlB wb db ⟨h, recs, true⟩ :: D) rfl (Res.tmp rfl) (fun _ h => h.split) ⟨rfl, rfl⟩)
  | false =>
    repeat' (first | refine Cd.seq ?_ | refine Cd.reg ?_ | refine Ops.mv rfl rfl rfl rfl ?_ | refine Ops.asg rfl rfl rfl rfl ?_ | refine Ops.nilP rfl rfl rfl rfl ?_ | refine Ops.fa0 rfl rfl rfl rfl ?_ | refine Ops.ld1 rfl rfl rfl rfl rfl ?_)
    refine Ops.call (ddead_spec db x.S x.ar x.bd x.de k D hD.a) rfl (noPd rfl) rfl rfl rfl (fun v A' hR => ?_)
    obtain ⟨rfl, e⟩ := hR
    subst A'
    repeat' (first | refine Cd.seq ?_ | refine Cd.reg ?_ | refine Ops.nil ?_ | refine Ops.mv rfl rfl rfl rfl ?_ | refine Ops.asg rfl rfl rfl rfl ?_ | refine Ops.nilP rfl rfl rfl rfl ?_ | refine Ops.fa0 rfl rfl rfl rfl ?_ | refine Ops.ld1 rfl rfl rfl rfl rfl ?_ | refine Ops.pickF rfl rfl rfl rfl rfl ?_ | refine Ops.st1 rfl rfl rfl rfl rfl (noPd rfl) ?_)
    exact Cd.ret (ret1 (A' := WlB wb db ⟨h, recs, x.de⟩ :: D) rfl (Res.tmp rfl) (fun _ h => h.split) ⟨by rw [Bool.false_or], by rw [Bool.false_or]⟩)
end Go.Proofs.YtnmjdoaogdaehaaGreat
