import Derived.Test.YtnmjdoaogdaehaaGreatA13
namespace Go.Proofs.YtnmjdoaogdaehaaGreat
open Go Go.Sep Go.Proofs
set_option maxRecDepth 10000
set_option maxHeartbeats 4000000
set_option synthInstance.maxSize 2000
set_option linter.unusedSimpArgs false
set_option linter.unusedVariables false
/-! disks -/
def zs : ByteArray := ⟨Array.replicate 128 0⟩
theorem bv_zs : bv zs = List.replicate 128 (.int .u8 0) := by simp [bv, zs]
theorem zeros_eq (n : Nat) : List.replicate (n * 128) (Value.int .u8 0) = ((List.replicate n zs).map bv).flatten ++ [] := by
  rw [List.append_nil]
  induction n with
  | zero => rfl
  | succ n ih => rw [List.replicate_succ, List.map_cons, List.flatten_cons, ← ih, bv_zs, List.replicate_append_replicate]; congr 1; omega
@[reducible] def DkB (db g c n : Nat) (rv : Value) (ar bd : Int) (de : Bool) : Blk := (db, cl [.slice (some ⟨g, 0, none⟩) n c, rv, .int .i64 ar, .int .i64 bd, .bool de] 56)
@[reducible] def SeB (g : Nat) (S : List ByteArray) (sp : List Value) : Blk := (g, cl ((S.map bv).flatten ++ sp) 138)
/-- A disk: its sectors, how it is armed, is it dead; so many raw writes at most. -/
def DiskA (db : Nat) (S : List ByteArray) (ar bd : Int) (de : Bool) (k : Nat) (D : List Blk) : Prop :=
  ∃ g c sp rv rows H, D = DkB db g c S.length rv ar bd de :: SeB g S sp :: H ∧ Own 140 2 rv rows H ∧ rows.length ≤ k ∧ S.length ≤ c ∧ (∀ s ∈ S, s.size = 128)
theorem dnew_spec (n : Nat) (h1 : 1 ≤ n) (h2 : n ≤ 1026) : Con Tryz.prog 9 #[.int .i64 n] [] fun v A => ∃ db, v = .tuple #[ptr db, .int .i64 0] ∧ DiskA db (List.replicate n zs) 0 0 false 0 A := by
  refine Con.intro (vs := [_]) Tryz.func9 rfl Tryz.ntmps9 rfl (fun B => ?_)
  have g1 : ¬ (n : Int) < 1 := by omega
  have g2 : ¬ 1026 < (n : Int) := by omega
  repeat' (first | refine Cd.seq ?_ | refine Cd.reg ?_ | refine Ops.nil ?_ | refine Ops.mv rfl rfl rfl rfl ?_ | refine Ops.asg rfl rfl rfl rfl ?_ | refine Ops.bin rfl rfl rfl rfl rfl ?_ | refine Ops.pickF rfl rfl rfl rfl rfl ?_ | refine Cd.skip (Cd.next ?_) | refine Cd.condF rfl (by first | rfl | assumption | (simp only [decide_eq_true_eq, decide_eq_false_iff_not, Bool.not_eq_true', Bool.not_eq_false', Bool.not_eq_eq_eq_not, Bool.not_true, Bool.not_false, beq_iff_eq, beq_eq_false_iff_ne, ne_eq, decide_eq_decide, eq_self, true_iff, iff_true, not_true_eq_false, not_false_eq_true]; first | done | omega)) ?_ | ((fail_if_success refine Ops.probe rfl ?_); refine Ops.gF rfl rfl (by first | rfl | assumption | (simp only [decide_eq_true_eq, decide_eq_false_iff_not, Bool.not_eq_true', Bool.not_eq_false', Bool.not_eq_eq_eq_not, Bool.not_true, Bool.not_false, beq_iff_eq, beq_eq_false_iff_ne, ne_eq, decide_eq_decide, eq_self, true_iff, iff_true, not_true_eq_false, not_false_eq_true]; first | done | omega)) ?_))
  refine Ops.mkU (z := .int .u8 0) (sz := 128) rfl rfl rfl rfl rfl (by omega) (by omega) (by omega) (by omega) rfl (noPd rfl) (fun g => ?_)
  rw [show ((n : Int).toNat) = n from by omega, zeros_eq]
  repeat' (first | refine Ops.nil ?_ | refine Ops.asg rfl rfl rfl rfl ?_ | refine Ops.bld rfl rfl rfl rfl ?_ | refine Ops.box rfl rfl rfl rfl (noPd rfl) (fun b => ?_))
  rename Nat => db
  exact Cd.ret (ret2 (A' := [DkB db g n n (.slice none 0 0) 0 0 false, SeB g (List.replicate n zs) []]) rfl (Res.tmp rfl) (Res.tmp rfl) (fun _ h => h.split) ⟨db, rfl, g, n, [], .slice none 0 0, [], [], by rw [List.length_replicate], Own.none, Nat.le_refl _, by simp, fun s hs => by rw [List.eq_of_mem_replicate hs]; rfl⟩)
theorem dsize_spec (db : Nat) (S : List ByteArray) (ar bd : Int) (de : Bool) (k : Nat) (D : List Blk) (hD : DiskA db S ar bd de k D) : Con Tryz.prog 32 #[ptr db] D fun v A => v = .int .i64 S.length ∧ A = D := by
  obtain ⟨g, c, sp, rv, rows, H, rfl, hown, hk, hc, hs⟩ := hD
  refine Con.intro (vs := [_]) Tryz.func32 rfl Tryz.ntmps32 rfl (fun B => ?_)
  repeat' (first | refine Cd.seq ?_ | refine Cd.reg ?_ | refine Ops.nil ?_ | refine Ops.mv rfl rfl rfl rfl ?_ | refine Ops.asg rfl rfl rfl rfl ?_ | refine Ops.nilP rfl rfl rfl rfl ?_ | refine Ops.fa0 rfl rfl rfl rfl ?_ | refine Ops.ld1 rfl rfl rfl rfl rfl ?_ | refine Ops.lenS rfl rfl rfl rfl ?_)
  exact Cd.ret (ret1 (A' := DkB db g c S.length rv ar bd de :: SeB g S sp :: H) rfl (Res.tmp rfl) (fun _ h => h.split) ⟨rfl, rfl⟩)
theorem ddead_spec (db : Nat) (S : List ByteArray) (ar bd : Int) (de : Bool) (k : Nat) (D : List Blk) (hD : DiskA db S ar bd de k D) : Con Tryz.prog 33 #[ptr db] D fun v A => v = .bool de ∧ A = D := by
  obtain ⟨g, c, sp, rv, rows, H, rfl, hown, hk, hc, hs⟩ := hD
  refine Con.intro (vs := [_]) Tryz.func33 rfl Tryz.ntmps33 rfl (fun B => ?_)
  repeat' (first | refine Cd.seq ?_ | refine Cd.reg ?_ | refine Ops.nil ?_ | refine Ops.mv rfl rfl rfl rfl ?_ | refine Ops.asg rfl rfl rfl rfl ?_ | refine Ops.nilP rfl rfl rfl rfl ?_ | refine Ops.fa0 rfl rfl rfl rfl ?_ | refine Ops.ld1 rfl rfl rfl rfl rfl ?_)
  exact Cd.ret (ret1 (A' := DkB db g c S.length rv ar bd de :: SeB g S sp :: H) rfl (Res.tmp rfl) (fun _ h => h.split) ⟨rfl, rfl⟩)
theorem dis_spec (db : Nat) (S : List ByteArray) (ar bd : Int) (de : Bool) (k : Nat) (D : List Blk) (hD : DiskA db S ar bd de k D) (i : Int) : Con Tryz.prog 64 #[ptr db, .int .i64 i] D fun v A => v = .bool (decide (0 ≤ i ∧ i < S.length)) ∧ A = D := by
  obtain ⟨g, c, sp, rv, rows, H, rfl, hown, hk, hc, hs⟩ := hD
  refine Con.intro (vs := [_, _]) Tryz.func64 rfl Tryz.ntmps64 rfl (fun B => ?_)
  by_cases h0 : 0 ≤ i
  · by_cases h1 : i < (S.length : Int)
    · rw [decide_eq_true (⟨h0, h1⟩ : 0 ≤ i ∧ i < S.length)]
      repeat' (first | refine Cd.seq ?_ | refine Cd.reg ?_ | refine Ops.nil ?_ | refine Ops.mv rfl rfl rfl rfl ?_ | refine Ops.asg rfl rfl rfl rfl ?_ | refine Ops.nilP rfl rfl rfl rfl ?_ | refine Ops.fa0 rfl rfl rfl rfl ?_ | refine Ops.ld1 rfl rfl rfl rfl rfl ?_ | refine Ops.lenS rfl rfl rfl rfl ?_ | refine Ops.bin rfl rfl rfl rfl rfl ?_ | refine Ops.pickT rfl rfl rfl rfl rfl ?_ | ((fail_if_success refine Ops.probe rfl ?_); refine Ops.gT rfl rfl (by first | rfl | assumption | (simp only [decide_eq_true_eq, decide_eq_false_iff_not, Bool.not_eq_true', Bool.not_eq_false', Bool.not_eq_eq_eq_not, Bool.not_true, Bool.not_false, beq_iff_eq, beq_eq_false_iff_ne, ne_eq, decide_eq_decide, eq_self, true_iff, iff_true, not_true_eq_false, not_false_eq_true]; first | done | omega)) ?_))
      exact Cd.ret (ret1 (A' := DkB db g c S.length rv ar bd de :: SeB g S sp :: H) rfl (Res.tmp rfl) (fun _ h => h.split) ⟨by rw [decide_eq_true h1], rfl⟩)
    · rw [decide_eq_false (fun h : 0 ≤ i ∧ i < S.length => h1 h.2)]
      repeat' (first | refine Cd.seq ?_ | refine Cd.reg ?_ | refine Ops.nil ?_ | refine Ops.mv rfl rfl rfl rfl ?_ | refine Ops.asg rfl rfl rfl rfl ?_ | refine Ops.nilP rfl rfl rfl rfl ?_ | refine Ops.fa0 rfl rfl rfl rfl ?_ | refine Ops.ld1 rfl rfl rfl rfl rfl ?_ | refine Ops.lenS rfl rfl rfl rfl ?_ | refine Ops.bin rfl rfl rfl rfl rfl ?_ | refine Ops.pickT rfl rfl rfl rfl rfl ?_ | ((fail_if_success refine Ops.probe rfl ?_); refine Ops.gT rfl rfl (by first | rfl | assumption | (simp only [decide_eq_true_eq, decide_eq_false_iff_not, Bool.not_eq_true', Bool.not_eq_false', Bool.not_eq_eq_eq_not, Bool.not_true, Bool.not_false, beq_iff_eq, beq_eq_false_iff_ne, ne_eq, decide_eq_decide, eq_self, true_iff, iff_true, not_true_eq_false, not_false_eq_true]; first | done | omega)) ?_))
      exact Cd.ret (ret1 (A' := DkB db g c S.length rv ar bd de :: SeB g S sp :: H) rfl (Res.tmp rfl) (fun _ h => h.split) ⟨by rw [decide_eq_false h1], rfl⟩)
  · rw [decide_eq_false (fun h : 0 ≤ i ∧ i < S.length => h0 h.1)]
    repeat' (first | refine Cd.seq ?_ | refine Cd.reg ?_ | refine Ops.nil ?_ | refine Ops.mv rfl rfl rfl rfl ?_ | refine Ops.asg rfl rfl rfl rfl ?_ | refine Ops.bin rfl rfl rfl rfl rfl ?_ | refine Ops.pickF rfl rfl rfl rfl rfl ?_ | refine Ops.gSkip rfl rfl rfl ?_ | ((fail_if_success refine Ops.probe rfl ?_); refine Ops.gF rfl rfl (by first | rfl | assumption | (simp only [decide_eq_true_eq, decide_eq_false_iff_not, Bool.not_eq_true', Bool.not_eq_false', Bool.not_eq_eq_eq_not, Bool.not_true, Bool.not_false, beq_iff_eq, beq_eq_false_iff_ne, ne_eq, decide_eq_decide, eq_self, true_iff, iff_true, not_true_eq_false, not_false_eq_true]; first | done | omega)) ?_))
    exact Cd.ret (ret1 (A' := DkB db g c S.length rv ar bd de :: SeB g S sp :: H) rfl (Res.tmp rfl) (fun _ h => h.split) ⟨rfl, rfl⟩)
theorem bv_rows {S : List ByteArray} (hs : ∀ s ∈ S, s.size = 128) : RowsOk 128 (S.map bv) := fun r hr => by
  obtain ⟨s, h, rfl⟩ := List.mem_map.1 hr
  exact ⟨by rw [bv_len, hs s h], bv_one s⟩
theorem sec_at {S : List ByteArray} (hs : ∀ s ∈ S, s.size = 128) {i : Nat} {s : ByteArray} (hi : S[i]? = some s) (sp : List Value) : ∀ j u, (bv s)[j]? = some u → ((S.map bv).flatten ++ sp)[i * 128 + j]? = some u := fun j u hu => by
  have hr := bv_rows hs
  have hj : j < 128 := by
    have := (List.getElem?_eq_some_iff.1 hu).1
    rw [bv_len, hs s (List.mem_of_getElem? hi)] at this
    exact this
  have h1 := hr.at_ (i := i) (k := j) (r := bv s) (by rw [List.getElem?_map, hi]; rfl) hj
  rw [List.getElem?_append_left (List.getElem?_eq_some_iff.1 (h1.trans hu)).1, h1, hu]
theorem sec_set {S : List ByteArray} (hs : ∀ s ∈ S, s.size = 128) {i : Nat} {s x : ByteArray} (hi : S[i]? = some s) (hx : x.size ≤ 128) (sp : List Value) :
    ins ((S.map bv).flatten ++ sp) (i * 128) (bv x) = ((S.set i (x ++ s.extract x.size 128)).map bv).flatten ++ sp := by
  have hr := bv_rows hs
  have hlt := (List.getElem?_eq_some_iff.1 hi).1
  have hsz := hs s (List.mem_of_getElem? hi)
  have h := rows_setN (i := i) (o := 0) (r := bv s) (r' := bv (x ++ s.extract x.size 128)) (vs := bv x) hr (by rw [List.getElem?_map, hi]; rfl) ⟨by
    rw [bv_app, bv_extract]
    simp only [List.take_zero, List.nil_append, Nat.zero_add, bv_len]
    rw [List.take_of_length_le (by rw [bv_len]; omega)], by rw [bv_len, bv_len]; omega⟩ sp
  rw [Nat.add_zero] at h
  rw [h, List.map_set]
def readD (S : List ByteArray) (de : Bool) (i : Int) : ByteArray × Int := if de then (.empty, 2) else if 0 ≤ i ∧ i < S.length then (S.getD i.toNat .empty, 0) else (.empty, 40)
theorem dread_spec (db : Nat) (S : List ByteArray) (ar bd : Int) (de : Bool) (k : Nat) (D : List Blk) (hD : DiskA db S ar bd de k D) (i : Int) : Con Tryz.prog 127 #[ptr db, .int .i64 i] D fun v A => v = .tuple #[.string (readD S de i).1, .int .i64 (readD S de i).2] ∧ A = D := by
  have hD0 := hD
  obtain ⟨g, c, sp, rv, rows, H, rfl, hown, hk, hc, hs⟩ := hD
  refine Con.intro (vs := [_, _]) Tryz.func127 rfl Tryz.ntmps127 rfl (fun B => ?_)
  cases de with
  | true =>
    repeat' (first | refine Cd.seq ?_ | refine Cd.reg ?_ | refine Ops.nil ?_ | refine Ops.mv rfl rfl rfl rfl ?_ | refine Ops.asg rfl rfl rfl rfl ?_ | refine Ops.nilP rfl rfl rfl rfl ?_ | refine Ops.fa0 rfl rfl rfl rfl ?_ | refine Ops.ld1 rfl rfl rfl rfl rfl ?_ | refine Cd.condT rfl rfl ?_)
    exact Cd.ret (ret2 (A' := DkB db g c S.length rv ar bd true :: SeB g S sp :: H) rfl (Res.tmp rfl) (Res.tmp rfl) (fun _ h => h.split) ⟨rfl, rfl⟩)
  | false =>
    repeat' (first | refine Cd.seq ?_ | refine Cd.reg ?_ | refine Ops.nil ?_ | refine Ops.mv rfl rfl rfl rfl ?_ | refine Ops.asg rfl rfl rfl rfl ?_ | refine Ops.nilP rfl rfl rfl rfl ?_ | refine Ops.fa0 rfl rfl rfl rfl ?_ | refine Ops.ld1 rfl rfl rfl rfl rfl ?_ | refine Cd.condF rfl rfl ?_ | refine Cd.skip (Cd.next ?_))
    refine Ops.call (dis_spec db S ar bd false k _ hD0 i) rfl (noPd rfl) rfl rfl rfl (fun v A' hR => ?_)
    obtain ⟨rfl, rfl⟩ := hR
    by_cases hin : 0 ≤ i ∧ i < S.length
    · rw [decide_eq_true hin, show readD S false i = (S.getD i.toNat .empty, 0) from by unfold readD; rw [if_neg (by simp), if_pos hin]]
      obtain ⟨h0, h1⟩ := hin
      repeat' (first | refine Cd.seq ?_ | refine Cd.reg ?_ | refine Ops.nil ?_ | refine Ops.mv rfl rfl rfl rfl ?_ | refine Ops.nilP rfl rfl rfl rfl ?_ | refine Ops.fa0 rfl rfl rfl rfl ?_ | refine Ops.ld1 rfl rfl rfl rfl rfl ?_ | refine Ops.un rfl rfl rfl rfl ?_ | refine Cd.condF rfl rfl ?_ | refine Cd.skip (Cd.next ?_) | refine Ops.ixa0 rfl rfl rfl rfl (by omega) (by omega) rfl ?_)
      refine Ops.slAr rfl rfl rfl rfl ?_
      have hi : S[i.toNat]? = some (S.getD i.toNat .empty) := by
        rw [List.getD_eq_getElem?_getD, List.getElem?_eq_getElem (by omega)]; rfl
      refine Ops.cvSp (bs := S.getD i.toNat .empty) rfl rfl rfl (hs _ (List.mem_of_getElem? hi)) (sec_at hs hi sp) rfl ?_
      repeat' (first | refine Ops.nil ?_ | refine Ops.asg rfl rfl rfl rfl ?_)
      exact Cd.ret (ret2 (A' := DkB db g c S.length rv ar bd false :: SeB g S sp :: H) rfl (Res.tmp rfl) (Res.tmp rfl) (fun _ h => h.split) ⟨rfl, rfl⟩)
    · rw [decide_eq_false hin, show readD S false i = (.empty, 40) from by unfold readD; rw [if_neg (by simp), if_neg hin]]
      repeat' (first | refine Cd.seq ?_ | refine Cd.reg ?_ | refine Ops.nil ?_ | refine Ops.asg rfl rfl rfl rfl ?_ | refine Ops.un rfl rfl rfl rfl ?_ | refine Cd.condT rfl rfl ?_)
      exact Cd.ret (ret2 (A' := DkB db g c S.length rv ar bd false :: SeB g S sp :: H) rfl (Res.tmp rfl) (Res.tmp rfl) (fun _ h => h.split) ⟨rfl, rfl⟩)
end Go.Proofs.YtnmjdoaogdaehaaGreat
namespace Go.Proofs.YtnmjdoaogdaehaaGreat
open Go Go.Sep Go.Proofs
set_option maxRecDepth 10000
set_option maxHeartbeats 4000000
set_option synthInstance.maxSize 2000
set_option linter.unusedSimpArgs false
set_option linter.unusedVariables false
/-! a disk is written -/
/-- What stands in a sector that was written so far. -/
def cutS (x s : ByteArray) (n : Nat) : ByteArray := x.extract 0 n ++ s.extract n 128
theorem cutS_size {x s : ByteArray} {n : Nat} (hx : x.size = 128) (hs : s.size = 128) (hn : n ≤ 128) : (cutS x s n).size = 128 := by simp [cutS, hx, hs]; omega
theorem cutS_full {x s : ByteArray} (hx : x.size = 128) : cutS x s 128 = x := by
  have h1 : x.extract 0 128 = x := by rw [← hx]; exact ByteArray.extract_zero_size
  have h2 : s.extract 128 128 = .empty := by simp
  rw [cutS, h1, h2, ByteArray.append_empty]
/-- The sectors, how it is armed, is it dead; the fault. -/
def writeD (S : List ByteArray) (ar bd : Int) (de : Bool) (i : Int) (x : ByteArray) : (List ByteArray × Int × Bool) × Int :=
  if de then ((S, ar, de), 2)
  else if ¬ (0 ≤ i ∧ i < S.length) then ((S, ar, de), 40)
  else if x.size ≠ 128 then ((S, ar, de), 41)
  else if ar = 1 then ((S.set i.toNat (cutS x (S.getD i.toNat .empty) bd.toNat), ar, true), 2)
  else ((S.set i.toNat x, max 0 (ar - 1), de), 0)
theorem dwrite_spec (db : Nat) (S : List ByteArray) (ar bd : Int) (de : Bool) (k : Nat) (D : List Blk) (hD : DiskA db S ar bd de k D) (i : Int) (x : ByteArray) (hk : k ≤ 1000000000000) (hb0 : 0 ≤ bd) (hb1 : bd ≤ 128) (har : 0 ≤ ar) (har2 : ar ≤ 9223372036854775807) :
    Con Tryz.prog 36 #[ptr db, .int .i64 i, .string x] D fun v A => v = .int .i64 (writeD S ar bd de i x).2 ∧ DiskA db (writeD S ar bd de i x).1.1 (writeD S ar bd de i x).1.2.1 bd (writeD S ar bd de i x).1.2.2 (k + 1) A := by
  have hD0 := hD
  obtain ⟨g, c, sp, rv, rows, H, rfl, hown, hk1, hc, hs⟩ := hD
  have hD1 : DiskA db S ar bd de (k + 1) (DkB db g c S.length rv ar bd de :: SeB g S sp :: H) := ⟨g, c, sp, rv, rows, H, rfl, hown, by omega, hc, hs⟩
  refine Con.intro (vs := [_, _, _]) Tryz.func36 rfl Tryz.ntmps36 rfl (fun B => ?_)
  unfold writeD
  cases de with
  | true =>
    repeat' (first | refine Cd.seq ?_ | refine Cd.reg ?_ | refine Ops.nil ?_ | refine Ops.mv rfl rfl rfl rfl ?_ | refine Ops.asg rfl rfl rfl rfl ?_ | refine Ops.nilP rfl rfl rfl rfl ?_ | refine Ops.fa0 rfl rfl rfl rfl ?_ | refine Ops.ld1 rfl rfl rfl rfl rfl ?_ | refine Cd.condT rfl rfl ?_ | refine Cd.block ?_)
    exact Cd.ret (ret1 (A' := DkB db g c S.length rv ar bd true :: SeB g S sp :: H) rfl (Res.tmp rfl) (fun _ h => h.split) ⟨rfl, hD1⟩)
  | false =>
    simp only [Bool.false_eq_true, if_false]
    repeat' (first | refine Cd.seq ?_ | refine Cd.reg ?_ | refine Ops.nil ?_ | refine Ops.mv rfl rfl rfl rfl ?_ | refine Ops.asg rfl rfl rfl rfl ?_ | refine Ops.nilP rfl rfl rfl rfl ?_ | refine Ops.fa0 rfl rfl rfl rfl ?_ | refine Ops.ld1 rfl rfl rfl rfl rfl ?_ | refine Cd.condF rfl rfl ?_ | refine Cd.block ?_)
    refine Ops.call (dis_spec db S ar bd false k _ hD0 i) rfl (noPd rfl) rfl rfl rfl (fun v A' hR => ?_)
    obtain ⟨rfl, rfl⟩ := hR
    by_cases hin : 0 ≤ i ∧ i < S.length
    · rw [decide_eq_true hin, if_neg (not_not_intro hin)]
      obtain ⟨h0, h1⟩ := hin
      have hi : S[i.toNat]? = some (S.getD i.toNat .empty) := by
        rw [List.getD_eq_getElem?_getD, List.getElem?_eq_getElem (by omega)]; rfl
      have hss := hs _ (List.mem_of_getElem? hi)
      by_cases hx : x.size = 128
      · rw [if_neg (not_not_intro hx)]
        have hfit : ∀ n, n ≤ 128 → i.toNat * 128 + n ≤ ((S.map bv).flatten ++ sp).length := fun n hn => by
          rw [List.length_append, (bv_rows hs).len, List.length_map]
          have : (i.toNat + 1) * 128 ≤ S.length * 128 := Nat.mul_le_mul_right _ (by omega)
          omega
        have hx' : (x.size : Int) = 128 := by omega
        by_cases h1r : ar = 1
        · rw [if_pos h1r]
          repeat' (first | refine Cd.seq ?_ | refine Cd.reg ?_ | refine Ops.nil ?_ | refine Ops.mv rfl rfl rfl rfl ?_ | refine Ops.asg rfl rfl rfl rfl ?_ | refine Ops.nilP rfl rfl rfl rfl ?_ | refine Ops.fa0 rfl rfl rfl rfl ?_ | refine Ops.ld1 rfl rfl rfl rfl rfl ?_ | refine Ops.lenStr rfl rfl rfl rfl ?_ | refine Ops.bin rfl rfl rfl rfl rfl ?_ | refine Ops.un rfl rfl rfl rfl ?_ | refine Cd.condF rfl rfl ?_ | refine Cd.condT rfl (by first | rfl | assumption | (simp only [decide_eq_true_eq, decide_eq_false_iff_not, Bool.not_eq_true', Bool.not_eq_false', Bool.not_eq_eq_eq_not, Bool.not_true, Bool.not_false, beq_iff_eq, beq_eq_false_iff_ne, ne_eq, decide_eq_decide, eq_self, true_iff, iff_true, not_true_eq_false, not_false_eq_true]; first | done | omega)) ?_ | refine Cd.condF rfl (by first | rfl | assumption | (simp only [decide_eq_true_eq, decide_eq_false_iff_not, Bool.not_eq_true', Bool.not_eq_false', Bool.not_eq_eq_eq_not, Bool.not_true, Bool.not_false, beq_iff_eq, beq_eq_false_iff_ne, ne_eq, decide_eq_decide, eq_self, true_iff, iff_true, not_true_eq_false, not_false_eq_true]; first | done | omega)) ?_)
          refine Cd.draw [(0, 0, []), (1, 0, []), (2, 0, []), (3, 1, []), (4, 0, []), (5, 0, []), (6, 0, []), (7, 0, []), (8, 0, []), (9, 1, []), (10, 0, []), (11, 0, []), (12, 2, [])] (by kernel_rfl) (by kernel_rfl) (by simp only [picked, nth]; exact rfl) ?_
          repeat' (first | refine Ops.mv rfl rfl rfl rfl ?_ | refine Ops.nilP rfl rfl rfl rfl ?_ | refine Ops.fa0 rfl rfl rfl rfl ?_ | refine Ops.ld1 rfl rfl rfl rfl rfl ?_ | refine Ops.ixa0 rfl rfl rfl rfl (by omega) (by omega) rfl ?_)
          refine Ops.slArHi rfl rfl rfl rfl hb0 hb1 rfl ?_
          repeat' (first | refine Ops.mv rfl rfl rfl rfl ?_)
          have hmin : min x.size bd.toNat = bd.toNat := by omega
          refine Ops.cpS (L' := ((S.set i.toNat (cutS x (S.getD i.toNat .empty) bd.toNat)).map bv).flatten ++ sp) rfl rfl rfl rfl (by rw [hmin]; exact hfit _ (by omega)) ?_ rfl (noPd rfl) ?_
          · rw [hmin, sec_set hs hi (by simp; omega) sp]
            simp only [cutS, ByteArray.size_extract, show min bd.toNat x.size - 0 = bd.toNat from by omega]
          repeat' (first | refine Cd.seq ?_ | refine Cd.reg ?_ | refine Ops.nil ?_ | refine Ops.mv rfl rfl rfl rfl ?_ | refine Ops.asg rfl rfl rfl rfl ?_ | refine Ops.nilP rfl rfl rfl rfl ?_ | refine Ops.fa0 rfl rfl rfl rfl ?_ | refine Ops.st1 rfl rfl rfl rfl rfl (noPd rfl) ?_)
          refine Cd.ret (ret1 (A' := DkB db g c S.length rv ar bd true :: SeB g (S.set i.toNat (cutS x (S.getD i.toNat .empty) bd.toNat)) sp :: H) rfl (Res.tmp rfl) (fun _ h => h.split) ⟨rfl, g, c, sp, rv, rows, H, by rw [List.length_set], hown, by omega, by rw [List.length_set]; exact hc, fun s hm => ?_⟩)
          rcases List.mem_or_eq_of_mem_set hm with hm | rfl
          · exact hs s hm
          · exact cutS_size hx hss (by omega)
        · rw [if_neg h1r]
          obtain ⟨a0, c0, hsv⟩ := hown.form
          subst hsv
          repeat' (first | refine Cd.seq ?_ | refine Cd.reg ?_ | refine Ops.nil ?_ | refine Ops.mv rfl rfl rfl rfl ?_ | refine Ops.asg rfl rfl rfl rfl ?_ | refine Ops.nilP rfl rfl rfl rfl ?_ | refine Ops.fa0 rfl rfl rfl rfl ?_ | refine Ops.ld1 rfl rfl rfl rfl rfl ?_ | refine Ops.lenStr rfl rfl rfl rfl ?_ | refine Ops.subI rfl rfl rfl rfl (by omega) (by omega) rfl ?_ | refine Ops.maxI rfl rfl rfl rfl rfl ?_ | refine Ops.bin rfl rfl rfl rfl rfl ?_ | refine Ops.un rfl rfl rfl rfl ?_ | refine Ops.st1 rfl rfl rfl rfl rfl (noPd rfl) ?_ | refine Cd.condF rfl rfl ?_ | refine Cd.skip (Cd.next (Q' := fun _ _ _ => True) ?_) | refine Ops.ixa0 rfl rfl rfl rfl (by omega) (by omega) rfl ?_ | refine Cd.condF rfl (by first | rfl | assumption | (simp only [decide_eq_true_eq, decide_eq_false_iff_not, Bool.not_eq_true', Bool.not_eq_false', Bool.not_eq_eq_eq_not, Bool.not_true, Bool.not_false, beq_iff_eq, beq_eq_false_iff_ne, ne_eq, decide_eq_decide, eq_self, true_iff, iff_true, not_true_eq_false, not_false_eq_true]; first | done | omega)) ?_)
          have hmin : min x.size 128 = 128 := by omega
          refine Ops.slAr rfl rfl rfl rfl ?_
          repeat' (first | refine Ops.mv rfl rfl rfl rfl ?_)
          refine Ops.cpS (L' := ((S.set i.toNat x).map bv).flatten ++ sp) rfl rfl rfl rfl (by rw [hmin]; exact hfit _ (by omega)) ?_ rfl (noPd rfl) ?_
          · rw [hmin, sec_set hs hi (by simp; omega) sp, ByteArray.size_extract, show min 128 x.size - 0 = 128 from by omega]
            have h9 := cutS_full (s := S.getD i.toNat .empty) hx
            rw [cutS] at h9
            rw [h9]
          repeat' (first | refine Cd.seq ?_ | refine Cd.reg ?_ | refine Ops.mv rfl rfl rfl rfl ?_ | refine Ops.nilP rfl rfl rfl rfl ?_ | refine Ops.fa0 rfl rfl rfl rfl ?_ | refine Ops.ld1 rfl rfl rfl rfl rfl ?_ | refine Ops.bld rfl rfl rfl rfl ?_ | refine Ops.bs1 rfl rfl rfl rfl rfl rfl rfl (noPd rfl) (fun b => ?_))
          refine Ops.app1 hown (by omega) (by omega) rfl rfl rfl rfl (by rfl) (by rfl) rfl (noPd rfl) rfl (fun v' G' hG' => ?_)
          obtain ⟨a1, c1, rfl⟩ := hG'.form
          repeat' (first | refine Cd.seq ?_ | refine Cd.reg ?_ | refine Ops.nil ?_ | refine Ops.asg rfl rfl rfl rfl ?_ | refine Ops.nilP rfl rfl rfl rfl ?_ | refine Ops.fa0 rfl rfl rfl rfl ?_ | refine Ops.st1 rfl rfl rfl rfl rfl (noPd rfl) ?_)
          refine Cd.ret (ret1 (A' := DkB db g c S.length _ (max 0 (ar - 1)) bd false :: SeB g (S.set i.toNat x) sp :: G') rfl (Res.tmp rfl) (fun _ h => h.split) ⟨rfl, g, c, sp, _, _, G', by rw [List.length_set], hG', by simp; omega, by rw [List.length_set]; exact hc, fun s hm => ?_⟩)
          rcases List.mem_or_eq_of_mem_set hm with hm | rfl
          · exact hs s hm
          · exact hx
      · rw [if_pos hx]
        have hx' : ¬ (x.size : Int) = 128 := by omega
        repeat' (first | refine Cd.seq ?_ | refine Cd.reg ?_ | refine Ops.nil ?_ | refine Ops.mv rfl rfl rfl rfl ?_ | refine Ops.asg rfl rfl rfl rfl ?_ | refine Ops.lenStr rfl rfl rfl rfl ?_ | refine Ops.bin rfl rfl rfl rfl rfl ?_ | refine Ops.un rfl rfl rfl rfl ?_ | refine Cd.condF rfl rfl ?_ | refine Cd.condT rfl (by first | rfl | assumption | (simp only [decide_eq_true_eq, decide_eq_false_iff_not, Bool.not_eq_true', Bool.not_eq_false', Bool.not_eq_eq_eq_not, Bool.not_true, Bool.not_false, beq_iff_eq, beq_eq_false_iff_ne, ne_eq, decide_eq_decide, eq_self, true_iff, iff_true, not_true_eq_false, not_false_eq_true]; first | done | omega)) ?_)
        exact Cd.ret (ret1 (A' := DkB db g c S.length rv ar bd false :: SeB g S sp :: H) rfl (Res.tmp rfl) (fun _ h => h.split) ⟨rfl, hD1⟩)
    · rw [decide_eq_false hin, if_pos hin]
      repeat' (first | refine Cd.seq ?_ | refine Cd.reg ?_ | refine Ops.nil ?_ | refine Ops.asg rfl rfl rfl rfl ?_ | refine Ops.un rfl rfl rfl rfl ?_ | refine Cd.condT rfl rfl ?_)
      exact Cd.ret (ret1 (A' := DkB db g c S.length rv ar bd false :: SeB g S sp :: H) rfl (Res.tmp rfl) (fun _ h => h.split) ⟨rfl, hD1⟩)
end Go.Proofs.YtnmjdoaogdaehaaGreat
