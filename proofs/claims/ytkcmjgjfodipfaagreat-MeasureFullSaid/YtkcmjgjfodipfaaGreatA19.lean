import Derived.Test.YtkcmjgjfodipfaaGreatA18
import Derived.Lib.Bytealg
import Derived.Test.YtkcmjgjfodipfaaGreatA15
import Derived.Test.YtkcmjgjfodipfaaGreatA10
namespace Go.Proofs.YtkcmjgjfodipfaaGreat
open Go Go.Sep Go.Proofs
set_option maxRecDepth 10000
set_option maxHeartbeats 40000000
set_option synthInstance.maxSize 2000
set_option linter.unusedSimpArgs false
set_option linter.unusedVariables false
/-! the head that counts; a log is laid down, found again -/
theorem foundF_num {S : List ByteArray} {at_ : Nat} {h : Hd} {s : ByteArray} {l : List ByteArray} (e : foundF S at_ = some (h, s, l)) : 1 ≤ h.number ∧ h.number ≤ 1099511627776 ∧ h.half ≤ 1 ∧ h.snap ≤ 17000 ∧ h.snap + h.log ≤ roomF S.length := by
  unfold foundF at e
  dsimp only at e
  split at e
  · cases e
  · rename_i hc
    split at e
    · cases e
    · rename_i hd
      cases hf : framesG ((bytesF S (bat (S.getD at_ .empty) 8) (rdN (S.getD at_ .empty) 9 13 + rdN (S.getD at_ .empty) 13 17)).extract (rdN (S.getD at_ .empty) 9 13) (rdN (S.getD at_ .empty) 9 13 + rdN (S.getD at_ .empty) 13 17)) 0 with
      | none => rw [hf] at e; cases e
      | some l2 =>
        rw [hf] at e
        injection e with e
        injection e with e1 e2
        subst e1
        dsimp only
        omega
def bestF (c y : Option (Hd × ByteArray × List ByteArray)) : Option (Hd × ByteArray × List ByteArray) :=
  match c, y with
  | c, none => c
  | none, some y => some y
  | some c, some y => if c.1.number < y.1.number then some y else some c
def curF (S : List ByteArray) : Nat → Option (Hd × ByteArray × List ByteArray)
  | 0 => none
  | i + 1 => bestF (curF S i) (foundF S i)
theorem curF_two (S : List ByteArray) : curF S 2 = countsF S := by
  show bestF (bestF none (foundF S 0)) (foundF S 1) = _
  unfold countsF
  cases foundF S 0 <;> cases foundF S 1 <;> rfl
structure CnS where
  i : Nat
  h : Hd
  s : ByteArray
  sv : Value
  ok : Bool
  G : List Blk
def CurA (c : Option (Hd × ByteArray × List ByteArray)) (t : CnS) : Prop :=
  (c = none ∧ t.h = ⟨0, 0, 0, 0⟩ ∧ t.s = ⟨#[]⟩ ∧ t.sv = .slice none 0 0 ∧ t.ok = false ∧ t.G = []) ∨ ∃ l, c = some (t.h, t.s, l) ∧ t.ok = true ∧ RsT t.sv l t.G
theorem counts_spec (B0 : Base) (db : Nat) (x : Dk) (k : Nat) (D : List Blk) (hD : DkA db x k D) (hde : x.de = false) (hrm : roomF x.S.length ≠ 0) : ConB Tryz.prog B0 55 #[ptr db] D (FoundR (countsF x.S) D) := by
  refine ConB.intro (vs := [_]) Tryz.func55 rfl Tryz.ntmps55 rfl (fun B hB => ?_)
  repeat' (first | refine Cd.seq ?_ | refine Cd.reg ?_ | refine Ops.nil ?_ | refine Ops.mv rfl rfl rfl rfl ?_ | refine Ops.asg rfl rfl rfl rfl ?_ | refine Ops.bld rfl rfl rfl rfl ?_ | refine Ops.alloc rfl rfl rfl (noPd rfl) (fun b => ?_) | refine Ops.stN rfl rfl rfl rfl rfl rfl (noPd rfl) ?_ | refine Cd.block ?_)
  rename_i b2
  rename Nat => b6
  refine Cd.loopK (σ := CnS) (fun t => t.i ≤ 2 ∧ CurA (curF x.S t.i) t) (fun t => [(0, ptr db), (2, ptr b2), (3, .string ⟨#[]⟩), (4, .slice none 0 0), (5, .bool false), (6, ptr b6), (7, .string t.s), (8, t.sv), (9, .bool t.ok), (16, .int .i64 t.i)])
    (fun t => (b6, cl t.h.row 142) :: (b2, cl [.int .i64 0, .int .i64 0, .int .i64 0, .int .i64 0] 142) :: (t.G ++ D)) (fun t => 2 - t.i) ⟨0, ⟨0, 0, 0, 0⟩, ⟨#[]⟩, .slice none 0 0, false, []⟩ ⟨Nat.zero_le _, .inl ⟨rfl, rfl, rfl, rfl, rfl, rfl⟩⟩ ⟨rfl, rfl, rfl, rfl, rfl, rfl, rfl, rfl, rfl, rfl, trivial⟩ (fun w h => h) (fun t ht => ?_)
  obtain ⟨i, h, s, sv, ok, G⟩ := t
  obtain ⟨hi, hc⟩ := ht
  dsimp only at hi hc ⊢
  by_cases hlt : i < 2
  · have hlt' : (i : Int) < 2 := by omega
    repeat' (first | refine Cd.seq ?_ | refine Cd.reg ?_ | refine Ops.mv rfl rfl rfl rfl ?_ | refine Ops.asg rfl rfl rfl rfl ?_ | refine Ops.bin rfl rfl rfl rfl rfl ?_ | refine Cd.block ?_ | refine Cd.skip (Cd.next ?_) | refine Cd.condT rfl (by first | rfl | assumption | (simp only [decide_eq_true_eq, decide_eq_false_iff_not, Bool.not_eq_true', Bool.not_eq_false', Bool.not_eq_eq_eq_not, Bool.not_true, Bool.not_false, beq_iff_eq, beq_eq_false_iff_ne, ne_eq, decide_eq_decide, eq_self, true_iff, iff_true, not_true_eq_false, not_false_eq_true]; first | done | omega)) ?_)
    refine Ops.callB (found_spec B0 db x k D hD i hde (by omega) hrm) hB rfl (noPd rfl) rfl rfl rfl (fun v A' hR => ?_)
    have hcur : curF x.S (i + 1) = bestF (curF x.S i) (foundF x.S i) := rfl
    rcases hR with ⟨hf, n0, n1, n2, n3, u, rfl, e⟩ | ⟨h2, s2, l2, sv2, G2, hf, rfl, e, hsv⟩
    · subst A'
      rw [hf] at hcur
      have hcur2 : curF x.S (i + 1) = curF x.S i := by rw [hcur]; unfold bestF; cases curF x.S i <;> rfl
      repeat' (first | refine Cd.seq ?_ | refine Cd.reg ?_ | refine Ops.nil ?_ | refine Ops.mv rfl rfl rfl rfl ?_ | refine Ops.asg rfl rfl rfl rfl ?_ | refine Ops.addI rfl rfl rfl rfl (by omega) (by omega) rfl ?_ | refine Ops.pickF rfl rfl rfl rfl rfl ?_ | refine Ops.ext rfl rfl rfl rfl rfl ?_ | refine Ops.alloc rfl rfl rfl (noPd rfl) (fun b => ?_) | refine Ops.stN rfl rfl rfl rfl rfl rfl (noPd rfl) ?_ | refine Ops.gSkip rfl rfl rfl ?_ | refine Cd.condF rfl rfl ?_ | refine Cd.skip (Cd.next (Q' := fun _ _ _ => True) ?_))
      exact Ops.nilN (round_end (⟨i + 1, h, s, sv, ok, G⟩ : CnS) ⟨by show i + 1 ≤ 2; omega, by show CurA (curF x.S (i + 1)) _; rw [hcur2]; exact hc⟩ (by show 2 - (i + 1) < 2 - i; omega) ⟨rfl, rfl, rfl, rfl, rfl, rfl, rfl, rfl, rfl, rfl, trivial⟩ (fun w h => h.split))
    · subst A'
      rw [hf] at hcur
      have hnum := (foundF_num hf).1
      by_cases hgt : h.number < h2.number
      · have hgt' : (h.number : Int) < h2.number := by omega
        have hcur2 : curF x.S (i + 1) = some (h2, s2, l2) := by
          rw [hcur]
          rcases hc with ⟨hc, _⟩ | ⟨l, hc, _⟩
          · rw [hc]; rfl
          · rw [hc]; exact if_pos hgt
        repeat' (first | refine Ops.nilN (inB (Cd.next ?_)) | refine Cd.seq ?_ | refine Cd.reg ?_ | refine Ops.nil ?_ | refine Ops.mv rfl rfl rfl rfl ?_ | refine Ops.asg rfl rfl rfl rfl ?_ | refine Ops.fa0 rfl rfl rfl rfl ?_ | refine Ops.ld1 rfl rfl rfl rfl rfl ?_ | refine Ops.ldN rfl rfl rfl rfl ?_ | refine Ops.addI rfl rfl rfl rfl (by omega) (by omega) rfl ?_ | refine Ops.bin rfl rfl rfl rfl rfl ?_ | refine Ops.pickT rfl rfl rfl rfl rfl ?_ | refine Ops.ext rfl rfl rfl rfl rfl ?_ | refine Ops.alloc rfl rfl rfl (noPd rfl) (fun b => ?_) | refine Ops.stN rfl rfl rfl rfl rfl rfl (noPd rfl) ?_ | refine Cd.condT rfl (by first | rfl | assumption | (simp only [decide_eq_true_eq, decide_eq_false_iff_not, Bool.not_eq_true', Bool.not_eq_false', Bool.not_eq_eq_eq_not, Bool.not_true, Bool.not_false, beq_iff_eq, beq_eq_false_iff_ne, ne_eq, decide_eq_decide, eq_self, true_iff, iff_true, not_true_eq_false, not_false_eq_true]; first | done | omega)) ?_)
        exact Ops.nilN (round_end (⟨i + 1, h2, s2, sv2, true, G2⟩ : CnS) ⟨by show i + 1 ≤ 2; omega, .inr ⟨l2, hcur2, rfl, hsv⟩⟩ (by show 2 - (i + 1) < 2 - i; omega) ⟨rfl, rfl, rfl, rfl, rfl, rfl, rfl, rfl, rfl, rfl, trivial⟩ (fun w h => h.split))
      · have hgt' : ¬ (h.number : Int) < h2.number := by omega
        have hcur2 : curF x.S (i + 1) = curF x.S i := by
          rw [hcur]
          rcases hc with ⟨_, hc, _⟩ | ⟨l, hc, _⟩
          · dsimp only at hc; rw [hc] at hgt; dsimp only at hgt; omega
          · rw [hc]; exact if_neg hgt
        repeat' (first | refine Cd.seq ?_ | refine Cd.reg ?_ | refine Ops.nil ?_ | refine Ops.mv rfl rfl rfl rfl ?_ | refine Ops.asg rfl rfl rfl rfl ?_ | refine Ops.fa0 rfl rfl rfl rfl ?_ | refine Ops.ld1 rfl rfl rfl rfl rfl ?_ | refine Ops.addI rfl rfl rfl rfl (by omega) (by omega) rfl ?_ | refine Ops.bin rfl rfl rfl rfl rfl ?_ | refine Ops.pickT rfl rfl rfl rfl rfl ?_ | refine Ops.ext rfl rfl rfl rfl rfl ?_ | refine Ops.alloc rfl rfl rfl (noPd rfl) (fun b => ?_) | refine Ops.stN rfl rfl rfl rfl rfl rfl (noPd rfl) ?_ | refine Cd.skip (Cd.next (Q' := fun _ _ _ => True) ?_) | refine Cd.condF rfl (by first | rfl | assumption | (simp only [decide_eq_true_eq, decide_eq_false_iff_not, Bool.not_eq_true', Bool.not_eq_false', Bool.not_eq_eq_eq_not, Bool.not_true, Bool.not_false, beq_iff_eq, beq_eq_false_iff_ne, ne_eq, decide_eq_decide, eq_self, true_iff, iff_true, not_true_eq_false, not_false_eq_true]; first | done | omega)) ?_)
        exact Ops.nilN (round_end (⟨i + 1, h, s, sv, ok, G⟩ : CnS) ⟨by show i + 1 ≤ 2; omega, by show CurA (curF x.S (i + 1)) _; rw [hcur2]; exact hc⟩ (by show 2 - (i + 1) < 2 - i; omega) ⟨rfl, rfl, rfl, rfl, rfl, rfl, rfl, rfl, rfl, rfl, trivial⟩ (fun w h => h.split))
  · have hlt' : ¬ (i : Int) < 2 := by omega
    have hie : i = 2 := by omega
    subst hie
    rw [curF_two] at hc
    rcases hc with ⟨hc, e1, e2, e3, e4, e5⟩ | ⟨l, hc, e4, hsv⟩
    · dsimp only at e1 e2 e3 e4 e5
      subst e1; subst e2; subst e3; subst e4; subst e5
      repeat' (first | refine Cd.seq ?_ | refine Cd.reg ?_ | refine Ops.nil ?_ | refine Ops.mv rfl rfl rfl rfl ?_ | refine Ops.asg rfl rfl rfl rfl ?_ | refine Ops.ldN rfl rfl rfl rfl ?_ | refine Ops.bin rfl rfl rfl rfl rfl ?_ | refine Ops.stN rfl rfl rfl rfl rfl rfl (noPd rfl) ?_ | refine Cd.condF rfl rfl ?_ | refine Cd.exit (Cd.next (Q' := fun _ _ _ => True) ?_))
      exact Cd.ret (ret4 (A' := D) rfl (Res.cellN rfl) (Res.tmp rfl) (Res.tmp rfl) (Res.tmp rfl) (fun _ h => h.split) (.inl ⟨hc, _, _, _, _, _, rfl, rfl⟩))
    · dsimp only at hc e4 hsv
      subst e4
      repeat' (first | refine Cd.seq ?_ | refine Cd.reg ?_ | refine Ops.nil ?_ | refine Ops.mv rfl rfl rfl rfl ?_ | refine Ops.asg rfl rfl rfl rfl ?_ | refine Ops.ldN rfl rfl rfl rfl ?_ | refine Ops.bin rfl rfl rfl rfl rfl ?_ | refine Ops.stN rfl rfl rfl rfl rfl rfl (noPd rfl) ?_ | refine Cd.condF rfl rfl ?_ | refine Cd.exit (Cd.next (Q' := fun _ _ _ => True) ?_))
      exact Cd.ret (ret4 (A' := G ++ D) rfl (Res.cellN rfl) (Res.tmp rfl) (Res.tmp rfl) (Res.tmp rfl) (fun _ h => h.split) (.inr ⟨_, _, l, sv, G, hc, rfl, rfl, hsv⟩))
/-- A disk's call of Write, of the disk as it is told here. -/
theorem dwrite_k (db : Nat) (x : Dk) (k : Nat) (D : List Blk) (hD : DkA db x k D) (i : Int) (s : ByteArray) (hk : k < 900000000000) :
    Con Tryz.prog 56 #[ptr db, .int .i64 i, .string s] D fun v A => v = .int .i64 (x.write i s).2 ∧ DkA db (x.write i s).1 (k + 1) A := by
  refine (dwrite_spec db x.S x.ar x.bd x.de k D hD.a i s (by omega) hD.b0 hD.b1 hD.a0 hD.a1).mono fun v A h => ⟨h.1, ?_⟩
  obtain ⟨_, h⟩ := h
  have hn := hD.n
  have ha0 := hD.a0
  have ha1 := hD.a1
  refine ⟨h, ?_, by omega, hD.b0, hD.b1, ?_, ?_⟩
  · show (writeD x.S x.ar x.bd x.de i s).1.1.length ≤ 1026
    unfold writeD
    (repeat' split) <;> simp <;> omega
  · show 0 ≤ (writeD x.S x.ar x.bd x.de i s).1.2.1
    unfold writeD
    (repeat' split) <;> dsimp only <;> omega
  · show (writeD x.S x.ar x.bd x.de i s).1.2.1 ≤ 9223372036854775807
    unfold writeD
    (repeat' split) <;> dsimp only <;> omega
theorem DkA.more {db : Nat} {x : Dk} {k k' : Nat} {D : List Blk} (h : DkA db x k D) (hk : k ≤ k') (hk' : k' ≤ 900000000000) : DkA db x k' D := by
  obtain ⟨⟨g, c, sp, rv, rows, H, h1, h2, h3, h4, h5⟩, hn, _, b0, b1, a0, a1⟩ := h
  exact ⟨⟨g, c, sp, rv, rows, H, h1, h2, by omega, h4, h5⟩, hn, hk', b0, b1, a0, a1⟩
theorem format_spec (B0 : Base) (db : Nat) (x : Dk) (k : Nat) (D : List Blk) (hD : DkA db x k D) (hk : k < 900000000000) : ConB Tryz.prog B0 27 #[ptr db] D fun v A => v = .int .i64 (formatF x).2 ∧ DkA db (formatF x).1 (k + 1) A := by
  have hD1 := hD.more (k' := k + 1) (by omega) (by omega)
  refine ConB.intro (vs := [_]) Tryz.func27 rfl Tryz.ntmps27 rfl (fun B hB => ?_)
  unfold formatF
  repeat' (first | refine Cd.seq ?_ | refine Cd.reg ?_ | refine Ops.mv rfl rfl rfl rfl ?_ | refine Ops.asg rfl rfl rfl rfl ?_)
  refine Ops.call (ddead_spec db x.S x.ar x.bd x.de k D hD.a) rfl (noPd rfl) rfl rfl rfl (fun v A' hR => ?_)
  obtain ⟨rfl, e⟩ := hR
  subst A'
  by_cases hde : x.de = true
  · rw [if_pos hde, hde]
    repeat' (first | refine Cd.seq ?_ | refine Cd.reg ?_ | refine Ops.nil ?_ | refine Ops.asg rfl rfl rfl rfl ?_ | refine Cd.condT rfl rfl ?_)
    exact Cd.ret (ret1 (A' := D) rfl (Res.tmp rfl) (fun _ h => h.split) ⟨rfl, hD1⟩)
  have hde : x.de = false := by simpa using hde
  rw [if_neg (by rw [hde]; simp), hde]
  repeat' (first | refine Cd.seq ?_ | refine Cd.reg ?_ | refine Ops.nil ?_ | refine Ops.mv rfl rfl rfl rfl ?_ | refine Cd.condF rfl rfl ?_ | refine Cd.skip (Cd.next ?_))
  refine Ops.call (room_spec db x k D hD) rfl (noPd rfl) rfl rfl rfl (fun v A' hR => ?_)
  obtain ⟨rfl, e⟩ := hR
  subst A'
  by_cases hrm : roomF x.S.length = 0
  · have hrm' : ((roomF x.S.length : Nat) : Int) = 0 := by omega
    rw [if_pos hrm]
    repeat' (first | refine Cd.seq ?_ | refine Cd.reg ?_ | refine Ops.nil ?_ | refine Ops.asg rfl rfl rfl rfl ?_ | refine Ops.bin rfl rfl rfl rfl rfl ?_ | refine Cd.condT rfl (by first | rfl | assumption | (simp only [decide_eq_true_eq, decide_eq_false_iff_not, Bool.not_eq_true', Bool.not_eq_false', Bool.not_eq_eq_eq_not, Bool.not_true, Bool.not_false, beq_iff_eq, beq_eq_false_iff_ne, ne_eq, decide_eq_decide, eq_self, true_iff, iff_true, not_true_eq_false, not_false_eq_true]; first | done | omega)) ?_)
    exact Cd.ret (ret1 (A' := D) rfl (Res.tmp rfl) (fun _ h => h.split) ⟨rfl, hD1⟩)
  have hrm' : ¬ ((roomF x.S.length : Nat) : Int) = 0 := by omega
  rw [if_neg hrm]
  repeat' (first | refine Cd.seq ?_ | refine Cd.reg ?_ | refine Ops.nil ?_ | refine Ops.mv rfl rfl rfl rfl ?_ | refine Ops.bin rfl rfl rfl rfl rfl ?_ | refine Cd.skip (Cd.next ?_) | refine Cd.condF rfl (by first | rfl | assumption | (simp only [decide_eq_true_eq, decide_eq_false_iff_not, Bool.not_eq_true', Bool.not_eq_false', Bool.not_eq_eq_eq_not, Bool.not_true, Bool.not_false, beq_iff_eq, beq_eq_false_iff_ne, ne_eq, decide_eq_decide, eq_self, true_iff, iff_true, not_true_eq_false, not_false_eq_true]; first | done | omega)) ?_)
  refine Ops.callB (counts_spec B0 db x k D hD hde hrm) hB rfl (noPd rfl) rfl rfl rfl (fun v A' hR => ?_)
  rcases hR with ⟨hf, n0, n1, n2, n3, u, rfl, e⟩ | ⟨h2, s2, l2, sv2, G2, hf, rfl, e, hsv⟩
  · subst A'
    rw [hf, if_neg (by simp)]
    repeat' (first | refine Cd.seq ?_ | refine Cd.reg ?_ | refine Ops.nil ?_ | refine Ops.mv rfl rfl rfl rfl ?_ | refine Ops.asg rfl rfl rfl rfl ?_ | refine Ops.ext rfl rfl rfl rfl rfl ?_ | refine Ops.bld rfl rfl rfl rfl ?_ | refine Ops.alloc rfl rfl rfl (noPd rfl) (fun b => ?_) | refine Ops.stN rfl rfl rfl rfl rfl rfl (noPd rfl) ?_ | refine Cd.condF rfl rfl ?_ | refine Cd.skip (Cd.next ?_))
    refine Ops.call (sector_spec ⟨1, 0, 0, 0⟩ ⟨by decide, by decide, by decide, by decide⟩) rfl (noPd rfl) rfl rfl rfl (fun v A' hR => ?_)
    obtain ⟨rfl, rfl⟩ := hR
    skip
    refine Ops.call (dwrite_k db x k D hD 1 (sectorF ⟨1, 0, 0, 0⟩) hk) rfl (noPd rfl) rfl rfl rfl (fun v A' hR => ?_)
    obtain ⟨rfl, hD2⟩ := hR
    repeat' (first | refine Ops.nil ?_ | refine Ops.asg rfl rfl rfl rfl ?_)
    exact Cd.ret (ret1 (A' := A') rfl (Res.tmp rfl) (fun _ h => h.split) ⟨rfl, hD2⟩)
  · subst A'
    rw [hf, if_pos (by rfl)]
    repeat' (first | refine Cd.seq ?_ | refine Cd.reg ?_ | refine Ops.nil ?_ | refine Ops.mv rfl rfl rfl rfl ?_ | refine Ops.asg rfl rfl rfl rfl ?_ | refine Ops.ext rfl rfl rfl rfl rfl ?_ | refine Ops.alloc rfl rfl rfl (noPd rfl) (fun b => ?_) | refine Ops.stN rfl rfl rfl rfl rfl rfl (noPd rfl) ?_ | refine Cd.condT rfl rfl ?_)
    exact Cd.ret (ret1 (A' := D) rfl (Res.tmp rfl) (fun _ h => h.split) ⟨rfl, hD1⟩)
@[reducible] def WlB (wb db : Nat) (w : Wl) : Blk := (wb, cl [ptr db, .int .i64 w.h.number, .int .i64 w.h.half, .int .i64 w.h.snap, .int .i64 w.h.log, .int .i64 w.recs, .bool w.dead] 237)
/-- Open: the log, its snapshot and records, the fault. -/
def openW (x : Dk) : Option (Hd × ByteArray × List ByteArray) × Int :=
  if x.de then (none, 2) else if roomF x.S.length = 0 then (none, 91) else match countsF x.S with
    | none => (none, 90)
    | some r => (some r, 0)
def OpenWR (x : Dk) (db : Nat) (D : List Blk) (v : Value) (A : List Blk) : Prop :=
  ((openW x).1 = none ∧ v = .tuple #[.pointer none, .string ⟨#[]⟩, .slice none 0 0, .int .i64 (openW x).2] ∧ A = D) ∨
  (∃ h s l wb sv G, openW x = (some (h, s, l), 0) ∧ v = .tuple #[ptr wb, .string s, sv, .int .i64 0] ∧ A = WlB wb db ⟨h, l.length, false⟩ :: (G ++ D) ∧ RsT sv l G)
theorem wopen_spec (B0 : Base) (db : Nat) (x : Dk) (k : Nat) (D : List Blk) (hD : DkA db x k D) : ConB Tryz.prog B0 58 #[ptr db] D (OpenWR x db D) := by
  refine ConB.intro (vs := [_]) Tryz.func58 rfl Tryz.ntmps58 rfl (fun B hB => ?_)
  have hop : openW x = if x.de then ((none, 2) : Option (Hd × ByteArray × List ByteArray) × Int) else if roomF x.S.length = 0 then (none, 91) else match countsF x.S with
    | none => (none, 90)
    | some r => (some r, 0) := rfl
  repeat' (first | refine Cd.seq ?_ | refine Cd.reg ?_ | refine Ops.mv rfl rfl rfl rfl ?_ | refine Ops.asg rfl rfl rfl rfl ?_)
  refine Ops.call (ddead_spec db x.S x.ar x.bd x.de k D hD.a) rfl (noPd rfl) rfl rfl rfl (fun v A' hR => ?_)
  obtain ⟨rfl, e⟩ := hR
  subst A'
  by_cases hde : x.de = true
  · rw [if_pos hde] at hop
    rw [hde]
    repeat' (first | refine Cd.seq ?_ | refine Cd.reg ?_ | refine Ops.nil ?_ | refine Ops.asg rfl rfl rfl rfl ?_ | refine Cd.condT rfl rfl ?_)
    exact Cd.ret (ret4 (A' := D) rfl (Res.tmp rfl) (Res.tmp rfl) (Res.tmp rfl) (Res.tmp rfl) (fun _ h => h.split) (.inl (by rw [hop]; exact ⟨rfl, rfl, rfl⟩)))
  have hde : x.de = false := by simpa using hde
  rw [if_neg (by rw [hde]; simp)] at hop
  rw [hde]
  repeat' (first | refine Cd.seq ?_ | refine Cd.reg ?_ | refine Ops.nil ?_ | refine Ops.mv rfl rfl rfl rfl ?_ | refine Cd.condF rfl rfl ?_ | refine Cd.skip (Cd.next ?_))
  refine Ops.call (room_spec db x k D hD) rfl (noPd rfl) rfl rfl rfl (fun v A' hR => ?_)
  obtain ⟨rfl, e⟩ := hR
  subst A'
  by_cases hrm : roomF x.S.length = 0
  · have hrm' : ((roomF x.S.length : Nat) : Int) = 0 := by omega
    rw [if_pos hrm] at hop
    repeat' (first | refine Cd.seq ?_ | refine Cd.reg ?_ | refine Ops.nil ?_ | refine Ops.asg rfl rfl rfl rfl ?_ | refine Ops.bin rfl rfl rfl rfl rfl ?_ | refine Cd.condT rfl (by first | rfl | assumption | (simp only [decide_eq_true_eq, decide_eq_false_iff_not, Bool.not_eq_true', Bool.not_eq_false', Bool.not_eq_eq_eq_not, Bool.not_true, Bool.not_false, beq_iff_eq, beq_eq_false_iff_ne, ne_eq, decide_eq_decide, eq_self, true_iff, iff_true, not_true_eq_false, not_false_eq_true]; first | done | omega)) ?_)
    exact Cd.ret (ret4 (A' := D) rfl (Res.tmp rfl) (Res.tmp rfl) (Res.tmp rfl) (Res.tmp rfl) (fun _ h => h.split) (.inl (by rw [hop]; exact ⟨rfl, rfl, rfl⟩)))
  have hrm' : ¬ ((roomF x.S.length : Nat) : Int) = 0 := by omega
  rw [if_neg hrm] at hop
  repeat' (first | refine Cd.seq ?_ | refine Cd.reg ?_ | refine Ops.nil ?_ | refine Ops.mv rfl rfl rfl rfl ?_ | refine Ops.bin rfl rfl rfl rfl rfl ?_ | refine Cd.skip (Cd.next ?_) | refine Cd.condF rfl (by first | rfl | assumption | (simp only [decide_eq_true_eq, decide_eq_false_iff_not, Bool.not_eq_true', Bool.not_eq_false', Bool.not_eq_eq_eq_not, Bool.not_true, Bool.not_false, beq_iff_eq, beq_eq_false_iff_ne, ne_eq, decide_eq_decide, eq_self, true_iff, iff_true, not_true_eq_false, not_false_eq_true]; first | done | omega)) ?_)
  refine Ops.callB (counts_spec B0 db x k D hD hde hrm) hB rfl (noPd rfl) rfl rfl rfl (fun v A' hR => ?_)
  rcases hR with ⟨hf, n0, n1, n2, n3, u, rfl, e⟩ | ⟨h2, s2, l2, sv2, G2, hf, rfl, e, hsv⟩
  · subst A'
    rw [hf] at hop
    repeat' (first | refine Cd.seq ?_ | refine Cd.reg ?_ | refine Ops.nil ?_ | refine Ops.mv rfl rfl rfl rfl ?_ | refine Ops.asg rfl rfl rfl rfl ?_ | refine Ops.un rfl rfl rfl rfl ?_ | refine Ops.ext rfl rfl rfl rfl rfl ?_ | refine Ops.alloc rfl rfl rfl (noPd rfl) (fun b => ?_) | refine Ops.stN rfl rfl rfl rfl rfl rfl (noPd rfl) ?_ | refine Cd.condT rfl rfl ?_)
    exact Cd.ret (ret4 (A' := D) rfl (Res.tmp rfl) (Res.tmp rfl) (Res.tmp rfl) (Res.tmp rfl) (fun _ h => h.split) (.inl (by rw [hop]; exact ⟨rfl, rfl, rfl⟩)))
  · subst A'
    rw [hf] at hop
    obtain ⟨a2, c2, rfl⟩ := hsv.form
    repeat' (first | refine Cd.seq ?_ | refine Cd.reg ?_ | refine Ops.nil ?_ | refine Ops.mv rfl rfl rfl rfl ?_ | refine Ops.asg rfl rfl rfl rfl ?_ | refine Ops.ldN rfl rfl rfl rfl ?_ | refine Ops.lenS rfl rfl rfl rfl ?_ | refine Ops.un rfl rfl rfl rfl ?_ | refine Ops.ext rfl rfl rfl rfl rfl ?_ | refine Ops.bld rfl rfl rfl rfl ?_ | refine Ops.box rfl rfl rfl rfl (noPd rfl) (fun b => ?_) | refine Ops.alloc rfl rfl rfl (noPd rfl) (fun b => ?_) | refine Ops.stN rfl rfl rfl rfl rfl rfl (noPd rfl) ?_ | refine Cd.condF rfl rfl ?_ | refine Cd.skip (Cd.next ?_))
    rename Nat => wb
    exact Cd.ret (ret4 (A' := WlB wb db ⟨h2, l2.length, false⟩ :: (G2 ++ D)) rfl (Res.tmp rfl) (Res.tmp rfl) (Res.tmp rfl) (Res.tmp rfl) (fun _ h => h.split) (.inr ⟨h2, s2, l2, wb, _, G2, hop, rfl, rfl, hsv⟩))
end Go.Proofs.YtkcmjgjfodipfaaGreat
namespace Go.Proofs.YtkcmjgjfodipfaaGreat
open Go Go.Sep Go.Proofs
set_option maxRecDepth 10000
set_option maxHeartbeats 40000000
set_option synthInstance.maxSize 2000
set_option linter.unusedSimpArgs false
set_option linter.unusedVariables false
/-! a log is written -/
structure PgS where
  at_ : Nat
  s : ByteArray
  x : Dk
  k : Nat
  D : List Blk
end Go.Proofs.YtkcmjgjfodipfaaGreat
namespace Go.Proofs.YtkcmjgjfodipfaaGreat
open Go Go.Sep Go.Proofs
set_option maxRecDepth 10000
set_option maxHeartbeats 40000000
set_option synthInstance.maxSize 2000
set_option linter.unusedSimpArgs false
set_option linter.unusedVariables false
/-! records are laid behind the others; a snapshot takes their place; what there is room for -/
structure WlOk (w : Wl) (len : Nat) : Prop where
  n : w.h.number ≤ 1099511627776
  f : w.h.half ≤ 1
  fit : w.h.snap + w.h.log ≤ roomF len
  r0 : 0 ≤ w.recs
  r1 : w.recs ≤ 4000000000000000000
end Go.Proofs.YtkcmjgjfodipfaaGreat
namespace Go.Proofs.YtkcmjgjfodipfaaGreat
open Go Go.Sep Go.Proofs
set_option maxRecDepth 10000
set_option maxHeartbeats 40000000
set_option synthInstance.maxSize 2000
set_option linter.unusedSimpArgs false
set_option linter.unusedVariables false
/-! a change of the state: what it has, may it be -/
/-! texts that are read where they lie -/
def SIn (B : Base) (a : Option Addr) (l : List ByteArray) : Prop := ∀ (i : Nat) (s : ByteArray), l[i]? = some s → ∃ b off, a = some ⟨b, off, none⟩ ∧ ∀ A, Rd B A b (off + i * 1) (.string s)
theorem SIn.ext {B B2 : Base} {a : Option Addr} {l : List ByteArray} (e : Ext B B2) (h : SIn B a l) : SIn B2 a l := fun i s hs => by
  obtain ⟨b, off, ha, hr⟩ := h i s hs
  exact ⟨b, off, ha, fun A => (hr A).ext e⟩
theorem SIn.nil {B : Base} {a : Option Addr} : SIn B a [] := fun i s hs => by cases hs
/-- A change. -/
structure Ch where
  kind : Int
  n : Int
  job : Int
  badge : Int
  slot : Int
  life : Int
  rcode : Int
  rbits : Int
  prog : ByteArray
  txs : List ByteArray
@[reducible] def Ch.row (c : Ch) (a : Option Addr) (k : Nat) : List Value := [.int .i64 c.kind, .int .i64 c.n, .int .i64 c.job, .int .i64 c.badge, .int .i64 c.slot, .int .i64 c.life, .int .i64 c.rcode, .int .u64 c.rbits, .string c.prog, .slice a c.txs.length k]
end Go.Proofs.YtkcmjgjfodipfaaGreat
/- Rows that are read where they lie, beside what a call owns. -/
namespace Go.Sep
open Go
def RIn (sz : Nat) (B : Base) (a : Option Addr) (rows : List (List Value)) : Prop :=
  ∀ (i : Nat) (r : List Value), rows[i]? = some r → ∃ b off, a = some ⟨b, off, none⟩ ∧ ∀ A j u, r[j]? = some u → Rd B A b (off + i * sz + j) u
theorem Holds.sub {B : Base} {G G' : List Blk} (h : Holds B G) (hs : ∀ p ∈ G', p ∈ G) : Holds B G' := fun p hp => h p (hs p hp)
theorem RIn.ext {sz : Nat} {B B2 : Base} {a : Option Addr} {rows : List (List Value)} (e : Ext B B2) (h : RIn sz B a rows) : RIn sz B2 a rows := fun i r hr => by
  obtain ⟨b, off, ha, h⟩ := h i r hr
  exact ⟨b, off, ha, fun A j u hu => (h A j u hu).ext e⟩
theorem RIn.nil {sz : Nat} {B : Base} {a : Option Addr} : RIn sz B a [] := fun i r hr => by cases hr
theorem Own.rin {E sz n c : Nat} {a : Option Addr} {rows : List (List Value)} {G : List Blk} (h : Own E sz (.slice a n c) rows G) {B : Base} (hG : Holds B G) : RIn sz B a rows := fun i r hr => by
  have hlt := (List.getElem?_eq_some_iff.1 hr).1
  obtain ⟨g, c', spare, h1, h2, h3, h4⟩ := Own.some_ h (by omega)
  injection h1 with e1 e2 e3
  refine ⟨g, 0, e1, fun A j u hu => ?_⟩
  have hj : j < sz := by rw [← (h.1 r (List.mem_of_getElem? hr)).1]; exact (List.getElem?_eq_some_iff.1 hu).1
  have h5 := h.1.at_ hr hj
  rw [Nat.zero_add]
  exact hG.cell (l := rows.flatten ++ spare) (by rw [h2]; exact List.mem_singleton.2 rfl) (by rw [List.getElem?_append_left (List.getElem?_eq_some_iff.1 (h5.trans hu)).1, h5, hu]) A
theorem Rs.rin {E sz n c : Nat} {a : Option Addr} {rows : List (List Value)} {G : List Blk} (h : Rs E sz (.slice a n c) rows G) {B : Base} (hG : Holds B G) : RIn sz B a rows := fun i r hr => by
  have hlt := (List.getElem?_eq_some_iff.1 hr).1
  obtain ⟨g, c', spare, h1, h2⟩ := Rs.some_ h (by omega)
  injection h1 with e1 e2 e3
  refine ⟨g, 0, e1, fun A j u hu => ?_⟩
  have hj : j < sz := by rw [← (h.1 r (List.mem_of_getElem? hr)).1]; exact (List.getElem?_eq_some_iff.1 hu).1
  have h5 := h.1.at_ hr hj
  rw [Nat.zero_add]
  exact hG.cell (l := rows.flatten ++ spare) (by rw [h2]; exact List.mem_singleton.2 rfl) (by rw [List.getElem?_append_left (List.getElem?_eq_some_iff.1 (h5.trans hu)).1, h5, hu]) A
theorem RIn.reads {P : Program} {sz : Nat} {B : Base} {a : Option Addr} {rows : List (List Value)} (h : RIn sz B a rows) (hok : RowsOk sz rows) (hsz : 0 < sz) (c : Nat) (A : List Blk) : Reads P B A sz (.slice a rows.length c) rows := by
  refine ⟨hok, ⟨a, c, rfl⟩, fun w hS => ?_⟩
  cases rows with
  | nil => exact (Reads.none (P := P) (B := B) (A := A) (sz := sz) (a := a) (c := c)).2.2 w hS
  | cons r0 rows =>
    obtain ⟨b, off, rfl, _⟩ := h 0 r0 rfl
    have hlen := hok.len
    have hcell : ∀ j u, (r0 :: rows).flatten[j]? = some u → w.cell? ⟨b, off + j, none⟩ = some u := fun j u hu => by
      have hj : j < (r0 :: rows).length * sz := by rw [← hlen]; exact (List.getElem?_eq_some_iff.1 hu).1
      have hi : j / sz < (r0 :: rows).length := by rw [Nat.div_lt_iff_lt_mul hsz]; exact hj
      obtain ⟨r, hr⟩ : ∃ r, (r0 :: rows)[j / sz]? = some r := ⟨_, List.getElem?_eq_getElem hi⟩
      have h5 := hok.at_ hr (Nat.mod_lt j hsz)
      have e1 : j / sz * sz + j % sz = j := by rw [Nat.mul_comm]; exact Nat.div_add_mod j sz
      rw [e1, hu] at h5
      obtain ⟨b', off', e2, hrd⟩ := h _ r hr
      injection e2 with e2
      injection e2 with e2 e3
      subst e2; subst e3
      have := hrd A _ u h5.symm w hS
      rwa [Nat.add_assoc, e1] at this
    exact run_loadCells hlen hcell
end Go.Sep
namespace Go.Proofs.YtkcmjgjfodipfaaGreat
open Go Go.Sep Go.Proofs
set_option maxRecDepth 10000
set_option maxHeartbeats 40000000
set_option synthInstance.maxSize 2000
set_option linter.unusedSimpArgs false
set_option linter.unusedVariables false
/-! slices that are cloned -/
theorem cloneT_spec (B0 : Base) (a : Option Addr) (n c : Nat) (rows : List (List Value)) (hn : n = rows.length) (hok : RowsOk 1 rows) (hS : RIn 1 B0 a rows) (hl : rows.length ≤ 2000000) :
    ConB Tryz.prog B0 95 #[.slice a n c] [] fun v A => Own 9 1 v rows A := by
  subst hn
  refine ConB.intro (vs := [_]) Tryz.func95 rfl Tryz.ntmps95 rfl (fun B hx => ?_)
  have hS := hS.ext hx
  generalize B.plain = B1 at hS ⊢
  clear hx
  cases a with
  | none =>
    obtain rfl : rows = [] := by
      cases rows with
      | nil => rfl
      | cons x l => obtain ⟨b, off, h, _⟩ := hS 0 x rfl; cases h
    repeat' (first | refine Cd.seq ?_ | refine Cd.reg ?_ | refine Ops.nil ?_ | refine Ops.mv rfl rfl rfl rfl ?_ | refine Ops.asg rfl rfl rfl rfl ?_ | refine Ops.bin rfl rfl rfl rfl rfl ?_ | refine Cd.condT rfl rfl ?_)
    exact Cd.ret (ret1 (A' := []) rfl (Res.tmp rfl) (fun _ h => h.split) Own.none)
  | some ad =>
    repeat' (first | refine Cd.seq ?_ | refine Cd.reg ?_ | refine Ops.nil ?_ | refine Ops.mv rfl rfl rfl rfl ?_ | refine Ops.asg rfl rfl rfl rfl ?_ | refine Ops.bin rfl rfl rfl rfl rfl ?_ | refine Ops.bs0 rfl rfl rfl (noPd rfl) (fun b => ?_) | refine Cd.condF rfl rfl ?_ | refine Cd.skip (Cd.next ?_))
    refine Ops.appS (rows := []) (news := rows) Own.empty (hS.reads hok (by decide) c _) (by rw [List.length_nil]; omega) (by rw [List.length_nil]; omega) rfl rfl rfl rfl rfl (noPd rfl) rfl (fun v G' hG' => ?_)
    rw [List.nil_append] at hG'
    obtain ⟨a', c', rfl⟩ := hG'.form
    repeat' (first | refine Ops.nil ?_ | refine Ops.asg rfl rfl rfl rfl ?_)
    exact Cd.ret (ret1 (A' := G') rfl (Res.tmp rfl) (fun _ h => h.split) hG')
theorem cloneR_spec (B0 : Base) (a : Option Addr) (n c : Nat) (rows : List (List Value)) (hn : n = rows.length) (hok : RowsOk 8 rows) (hS : RIn 8 B0 a rows) (hl : rows.length ≤ 2000000) :
    ConB Tryz.prog B0 208 #[.slice a n c] [] fun v A => Own 117 8 v rows A := by
  subst hn
  refine ConB.intro (vs := [_]) Tryz.func208 rfl Tryz.ntmps208 rfl (fun B hx => ?_)
  have hS := hS.ext hx
  generalize B.plain = B1 at hS ⊢
  clear hx
  cases a with
  | none =>
    obtain rfl : rows = [] := by
      cases rows with
      | nil => rfl
      | cons x l => obtain ⟨b, off, h, _⟩ := hS 0 x rfl; cases h
    repeat' (first | refine Cd.seq ?_ | refine Cd.reg ?_ | refine Ops.nil ?_ | refine Ops.mv rfl rfl rfl rfl ?_ | refine Ops.asg rfl rfl rfl rfl ?_ | refine Ops.bin rfl rfl rfl rfl rfl ?_ | refine Cd.condT rfl rfl ?_)
    exact Cd.ret (ret1 (A' := []) rfl (Res.tmp rfl) (fun _ h => h.split) Own.none)
  | some ad =>
    repeat' (first | refine Cd.seq ?_ | refine Cd.reg ?_ | refine Ops.nil ?_ | refine Ops.mv rfl rfl rfl rfl ?_ | refine Ops.asg rfl rfl rfl rfl ?_ | refine Ops.bin rfl rfl rfl rfl rfl ?_ | refine Ops.bs0 rfl rfl rfl (noPd rfl) (fun b => ?_) | refine Cd.condF rfl rfl ?_ | refine Cd.skip (Cd.next ?_))
    refine Ops.appS (rows := []) (news := rows) Own.empty (hS.reads hok (by decide) c _) (by rw [List.length_nil]; omega) (by rw [List.length_nil]; omega) rfl rfl rfl rfl rfl (noPd rfl) rfl (fun v G' hG' => ?_)
    rw [List.nil_append] at hG'
    obtain ⟨a', c', rfl⟩ := hG'.form
    repeat' (first | refine Ops.nil ?_ | refine Ops.asg rfl rfl rfl rfl ?_)
    exact Cd.ret (ret1 (A' := G') rfl (Res.tmp rfl) (fun _ h => h.split) hG')
/-! the queue, the state -/
structure Rw where
  job : Int
  status : Int
  att : Int
  badge : Int
  node : Int
  life : Int
  rcode : Int
  rbits : Int
@[reducible] def Rw.row (r : Rw) : List Value := [.int .i64 r.job, .int .i64 r.status, .int .i64 r.att, .int .i64 r.badge, .int .i64 r.node, .int .i64 r.life, .int .i64 r.rcode, .int .u64 r.rbits]
theorem rws_ok (l : List Rw) : RowsOk 8 (l.map Rw.row) := rows_map (f := Rw.row) (fun _ => ⟨rfl, rfl⟩) l
def OwnQ (sv : Value) (l : List Rw) (G : List Blk) : Prop := Own 117 8 sv (l.map Rw.row) G
theorem OwnQ.form {sv : Value} {l : List Rw} {G : List Blk} (h : OwnQ sv l G) : ∃ a c, sv = .slice a l.length c := by
  obtain ⟨a, c, h⟩ := Own.form h
  exact ⟨a, c, by rw [h, List.length_map]⟩
@[reducible] def QuB (qb : Nat) (att : Int) (rv : Value) : Blk := (qb, cl [.int .i64 att, rv] 358)
@[reducible] def StB (sb qb : Nat) (res : Int) (pv lv : Value) : Blk := (sb, cl [ptr qb, .int .i64 res, pv, lv] 257)
theorem qnew_yes (n : Int) (h1 : 1 ≤ n) (h2 : n ≤ 8) : Con Tryz.prog 192 #[.int .i64 n] [] fun v A => ∃ qb, v = .tuple #[ptr qb, .int .i64 0] ∧ A = [QuB qb n (.slice none 0 0)] := by
  refine Con.intro (vs := [_]) Tryz.func192 rfl Tryz.ntmps192 rfl (fun B => ?_)
  have g1 : ¬ n < 1 := by omega
  have g2 : ¬ 8 < n := by omega
  repeat' (first | refine Cd.seq ?_ | refine Cd.reg ?_ | refine Ops.nil ?_ | refine Ops.mv rfl rfl rfl rfl ?_ | refine Ops.asg rfl rfl rfl rfl ?_ | refine Ops.bin rfl rfl rfl rfl rfl ?_ | refine Ops.pickF rfl rfl rfl rfl rfl ?_ | refine Ops.bld rfl rfl rfl rfl ?_ | refine Ops.box rfl rfl rfl rfl (noPd rfl) (fun b => ?_) | refine Cd.skip (Cd.next ?_) | refine Cd.condF rfl (by first | rfl | assumption | (simp only [decide_eq_true_eq, decide_eq_false_iff_not, Bool.not_eq_true', Bool.not_eq_false', Bool.not_eq_eq_eq_not, Bool.not_true, Bool.not_false, beq_iff_eq, beq_eq_false_iff_ne, ne_eq, decide_eq_decide, eq_self, true_iff, iff_true, not_true_eq_false, not_false_eq_true]; first | done | omega)) ?_ | ((fail_if_success refine Ops.probe rfl ?_); refine Ops.gF rfl rfl (by first | rfl | assumption | (simp only [decide_eq_true_eq, decide_eq_false_iff_not, Bool.not_eq_true', Bool.not_eq_false', Bool.not_eq_eq_eq_not, Bool.not_true, Bool.not_false, beq_iff_eq, beq_eq_false_iff_ne, ne_eq, decide_eq_decide, eq_self, true_iff, iff_true, not_true_eq_false, not_false_eq_true]; first | done | omega)) ?_))
  rename Nat => qb
  exact Cd.ret (ret2 (A' := [QuB qb n (.slice none 0 0)]) rfl (Res.tmp rfl) (Res.tmp rfl) (fun _ h => h.split) ⟨qb, rfl, rfl⟩)
theorem snew_yes (n : Int) (h1 : 1 ≤ n) (h2 : n ≤ 8) : Con Tryz.prog 115 #[.int .i64 n] [] fun v A => ∃ sb qb, v = .tuple #[ptr sb, .int .i64 0] ∧ A = [StB sb qb 0 (.slice none 0 0) (.slice none 0 0), QuB qb n (.slice none 0 0)] := by
  refine Con.intro (vs := [_]) Tryz.func115 rfl Tryz.ntmps115 rfl (fun B => ?_)
  repeat' (first | refine Cd.seq ?_ | refine Cd.reg ?_ | refine Ops.mv rfl rfl rfl rfl ?_ | refine Ops.asg rfl rfl rfl rfl ?_)
  refine Ops.call (qnew_yes n h1 h2) rfl (noPd rfl) rfl rfl rfl (fun v A' hR => ?_)
  obtain ⟨qb, rfl, rfl⟩ := hR
  repeat' (first | refine Cd.seq ?_ | refine Cd.reg ?_ | refine Ops.nil ?_ | refine Ops.mv rfl rfl rfl rfl ?_ | refine Ops.asg rfl rfl rfl rfl ?_ | refine Ops.bin rfl rfl rfl rfl rfl ?_ | refine Ops.ext rfl rfl rfl rfl rfl ?_ | refine Ops.bld rfl rfl rfl rfl ?_ | refine Ops.box rfl rfl rfl rfl (noPd rfl) (fun b => ?_) | refine Cd.condF rfl rfl ?_ | refine Cd.skip (Cd.next ?_))
  rename Nat => sb
  exact Cd.ret (ret2 (A' := [StB sb qb 0 (.slice none 0 0) (.slice none 0 0), QuB qb n (.slice none 0 0)]) rfl (Res.tmp rfl) (Res.tmp rfl) (fun _ h => h.split) ⟨sb, qb, rfl, rfl⟩)
theorem reserved_spec (sb qb : Nat) (res : Int) (pv lv : Value) : Con Tryz.prog 63 #[ptr sb] [StB sb qb res pv lv] fun v A => v = .int .i64 res ∧ A = [StB sb qb res pv lv] := by
  refine Con.intro (vs := [_]) Tryz.func63 rfl Tryz.ntmps63 rfl (fun B => ?_)
  repeat' (first | refine Cd.seq ?_ | refine Cd.reg ?_ | refine Ops.nil ?_ | refine Ops.mv rfl rfl rfl rfl ?_ | refine Ops.asg rfl rfl rfl rfl ?_ | refine Ops.nilP rfl rfl rfl rfl ?_ | refine Ops.fa0 rfl rfl rfl rfl ?_ | refine Ops.ld1 rfl rfl rfl rfl rfl ?_)
  exact Cd.ret (ret1 (A' := [StB sb qb res pv lv]) rfl (Res.tmp rfl) (fun _ h => h.split) ⟨rfl, rfl⟩)
/-- A job's log: its texts, their slice, its block. -/
structure Lg where
  a : Option Addr
  c : Nat
  txs : List ByteArray
  G : List Blk
@[reducible] def Lg.row (x : Lg) : List Value := [.slice x.a x.txs.length x.c]
structure StP where
  att : Int
  rows : List Rw
  res : Int
  progs : List ByteArray
  logs : List (List ByteArray)
/-- A state, as its blocks lie. -/
def StA (sb : Nat) (s : StP) (D : List Blk) : Prop :=
  ∃ qb rv RG pv PG lv LG, ∃ ls : List Lg, D = StB sb qb s.res pv lv :: QuB qb s.att rv :: (RG ++ (PG ++ (LG ++ ls.flatMap Lg.G))) ∧ OwnQ rv s.rows RG ∧ OwnT pv s.progs PG ∧ Own 118 1 lv (ls.map Lg.row) LG ∧ (∀ x ∈ ls, OwnT (.slice x.a x.txs.length x.c) x.txs x.G) ∧ ls.map Lg.txs = s.logs
/-- A state that lies beside. -/
def StIn (B : Base) (sb : Nat) (s : StP) : Prop :=
  ∃ qb ra rc pa pc la lc, ∃ ls : List Lg, Holds B [StB sb qb s.res (.slice pa s.progs.length pc) (.slice la s.logs.length lc), QuB qb s.att (.slice ra s.rows.length rc)] ∧ RIn 8 B ra (s.rows.map Rw.row) ∧ RIn 1 B pa (s.progs.map trow) ∧ RIn 1 B la (ls.map Lg.row) ∧ (∀ x ∈ ls, RIn 1 B x.a (x.txs.map trow)) ∧ ls.map Lg.txs = s.logs
theorem StA.in_ {sb : Nat} {s : StP} {D : List Blk} (h : StA sb s D) {B : Base} (hB : Holds B D) : StIn B sb s := by
  obtain ⟨qb, rv, RG, pv, PG, lv, LG, ls, rfl, hR, hP, hL, hT, hl⟩ := h
  obtain ⟨ra, rc, rfl⟩ := hR.form
  obtain ⟨pa, pc, rfl⟩ := hP.form
  obtain ⟨la, lc, rfl⟩ := Own.form hL
  have hlen : (ls.map Lg.row).length = s.logs.length := by rw [← hl, List.length_map, List.length_map]
  rw [hlen] at hB hL
  refine ⟨qb, ra, rc, pa, pc, la, lc, ls, hB.sub (fun p hp => ?_), Own.rin hR (hB.sub fun p hp => ?_), Own.rin hP (hB.sub fun p hp => ?_), Own.rin hL (hB.sub fun p hp => ?_), fun x hx => Own.rin (hT x hx) (hB.sub fun p hp => ?_), hl⟩
  · rcases List.mem_cons.1 hp with rfl | hp
    · exact List.mem_cons_self ..
    · rw [List.mem_singleton] at hp
      subst hp
      exact List.mem_cons_of_mem _ (List.mem_cons_self ..)
  · simp [hp]
  · simp [hp]
  · simp [hp]
  · have : p ∈ ls.flatMap Lg.G := List.mem_flatMap.2 ⟨x, hx, hp⟩
    simp only [List.mem_cons, List.mem_append]
    exact .inr (.inr (.inr (.inr (.inr this))))
theorem StIn.ext {B B2 : Base} {sb : Nat} {s : StP} (e : Ext B B2) (h : StIn B sb s) : StIn B2 sb s := by
  obtain ⟨qb, ra, rc, pa, pc, la, lc, ls, h1, h2, h3, h4, h5, h6⟩ := h
  exact ⟨qb, ra, rc, pa, pc, la, lc, ls, e.holds h1, h2.ext e, h3.ext e, h4.ext e, fun x hx => (h5 x hx).ext e, h6⟩
structure StOk (s : StP) : Prop where
  a1 : 1 ≤ s.att
  a8 : s.att ≤ 8
  nr : s.rows.length ≤ 8
  np : s.progs.length = s.rows.length
  nl : s.logs.length = s.rows.length
  lg : ∀ l ∈ s.logs, l.length ≤ 32
  jb : ∀ (i : Nat) (r : Rw), s.rows[i]? = some r → r.job = (i : Int) + 1
  am : ∀ r ∈ s.rows, 0 ≤ r.att ∧ r.att ≤ s.att ∧ (r.status = 1 → r.att < s.att)
structure ScS where
  cs : List Lg
  LG : List Blk
end Go.Proofs.YtkcmjgjfodipfaaGreat
/- Arrays that are built, and looked into, as values. -/
namespace Go.Sep
open Go
section
variable {P : Program} {N : Fi} {B : Base} {Q : Exit → Act → World → Prop} {T : Tm} {A : List Blk} {ops : Array Oper} {l : List Oper}
variable {d : Nat} {ty : TypeId} {pos : String} {af : Array Edge} {m : Md} {gd : Option (Nat × Bool)}
theorem Ops.bldA {t e n : TypeId} {ge : Bool} {parts : List (Nat × Operand)} {ps : List (Nat × Value)} {sz bs bs' : Nat} {zc : List Value} {z : Value} (L : List Value) (hm : m.rd true = true) (hg : gst ops T gd = some true) (hp : evp T parts = some ps) [ht : Ty P t true sz bs zc] [hd' : TyD P t (.array n e)] [he : Ty P e ge 1 bs' [z]]
    (hf : Instr.fill (fun i => some (i * 1, 1)) zc.toArray ps = some L.toArray) (hd : Nat.blt d N.n = true) (k : Ops P N B Q ops m.tl l ((d, .agg L.toArray) :: T) A) :
    Ops P N B Q ops m (⟨some d, .build t parts.toArray, ty, pos, af, gd⟩ :: l) T A :=
  Ops.pureV hm hg hd (fun a w hF => by
    obtain ⟨z, hz, hzc⟩ := ht.run_zero (w := w)
    have h4 : (parts.toArray.map fun (i, x) => (i, a.eval x)).toList = ps := by simpa using hF.evalp hp
    simp only [execOp, Instr.build, Sem.run_bind, hz, Result.andThen_ok, hd'.run_und, he.run_size, h4, hzc, hf]
    simp) k
end
end Go.Sep
namespace Go.Proofs.YtkcmjgjfodipfaaGreat
open Go Go.Sep Go.Proofs
set_option maxRecDepth 10000
set_option maxHeartbeats 40000000
set_option synthInstance.maxSize 2000
set_option linter.unusedSimpArgs false
set_option linter.unusedVariables false
/-! what a change does -/
end Go.Proofs.YtkcmjgjfodipfaaGreat
