import Derived.Test.YtkcmjgjfodipfaaGreatA17
namespace Go.Proofs.YtkcmjgjfodipfaaGreat
open Go Go.Sep Go.Proofs
set_option maxRecDepth 10000
set_option maxHeartbeats 40000000
set_option synthInstance.maxSize 2000
set_option linter.unusedSimpArgs false
set_option linter.unusedVariables false
/-! the head that stands in a sector -/
theorem foundF_bad1 {S : List ByteArray} {at_ : Nat} (h : ofF ((S.getD at_ .empty).extract 0 8) < 1 ∨ 1099511627776 < ofF ((S.getD at_ .empty).extract 0 8) ∨ ofF ((S.getD at_ .empty).extract 0 8) % 2 ≠ (at_ : Int) ∨ 1 < bat (S.getD at_ .empty) 8) : foundF S at_ = none := by
  unfold foundF
  exact if_pos h
theorem foundF_bad2 {S : List ByteArray} {at_ : Nat} (h : ¬ (ofF ((S.getD at_ .empty).extract 0 8) < 1 ∨ 1099511627776 < ofF ((S.getD at_ .empty).extract 0 8) ∨ ofF ((S.getD at_ .empty).extract 0 8) % 2 ≠ (at_ : Int) ∨ 1 < bat (S.getD at_ .empty) 8))
    (h2 : sectorF ⟨(ofF ((S.getD at_ .empty).extract 0 8)).toNat, bat (S.getD at_ .empty) 8, rdN (S.getD at_ .empty) 9 13, rdN (S.getD at_ .empty) 13 17⟩ ≠ S.getD at_ .empty ∨ 17000 < rdN (S.getD at_ .empty) 9 13 ∨ roomF S.length < rdN (S.getD at_ .empty) 9 13 + rdN (S.getD at_ .empty) 13 17) : foundF S at_ = none := by
  unfold foundF
  exact (if_neg h).trans (if_pos h2)
theorem foundF_go {S : List ByteArray} {at_ : Nat} (h : ¬ (ofF ((S.getD at_ .empty).extract 0 8) < 1 ∨ 1099511627776 < ofF ((S.getD at_ .empty).extract 0 8) ∨ ofF ((S.getD at_ .empty).extract 0 8) % 2 ≠ (at_ : Int) ∨ 1 < bat (S.getD at_ .empty) 8))
    (h2 : ¬ (sectorF ⟨(ofF ((S.getD at_ .empty).extract 0 8)).toNat, bat (S.getD at_ .empty) 8, rdN (S.getD at_ .empty) 9 13, rdN (S.getD at_ .empty) 13 17⟩ ≠ S.getD at_ .empty ∨ 17000 < rdN (S.getD at_ .empty) 9 13 ∨ roomF S.length < rdN (S.getD at_ .empty) 9 13 + rdN (S.getD at_ .empty) 13 17)) :
    foundF S at_ = (framesG ((bytesF S (bat (S.getD at_ .empty) 8) (rdN (S.getD at_ .empty) 9 13 + rdN (S.getD at_ .empty) 13 17)).extract (rdN (S.getD at_ .empty) 9 13) (rdN (S.getD at_ .empty) 9 13 + rdN (S.getD at_ .empty) 13 17)) 0).map fun l => (⟨(ofF ((S.getD at_ .empty).extract 0 8)).toNat, bat (S.getD at_ .empty) 8, rdN (S.getD at_ .empty) 9 13, rdN (S.getD at_ .empty) 13 17⟩, (bytesF S (bat (S.getD at_ .empty) 8) (rdN (S.getD at_ .empty) 9 13 + rdN (S.getD at_ .empty) 13 17)).extract 0 (rdN (S.getD at_ .empty) 9 13), l) := by
  unfold foundF
  exact (if_neg h).trans (if_neg h2)
theorem rdN_lt (s : ByteArray) (i : Nat) : rdN s i (i + 4) < 4294967296 := by
  unfold rdN
  rw [show i + 4 - i = 4 from by omega]
  exact ofn_lt _ 4
theorem readD_in1 {S : List ByteArray} {i : Nat} (h : i < S.length) : (readD S false (i : Int)).1 = S.getD i .empty := by rw [readD_in h]
theorem readD_in2 {S : List ByteArray} {i : Nat} (h : i < S.length) : (readD S false (i : Int)).2 = 0 := by rw [readD_in h]
theorem bytesF_size {S : List ByteArray} (hs : ∀ s ∈ S, s.size = 128) {half n : Nat} (hh : half ≤ 1) (hr : n ≤ roomF S.length) : (bytesF S half n).size = n := by
  have hsz : (catS S (2 + half * roomF S.length / 128) ((n + 127) / 128)).size = (n + 127) / 128 * 128 := by
    by_cases h0 : (n + 127) / 128 = 0
    · rw [h0]; rfl
    · refine catS_size hs _ ?_
      obtain ⟨hf, h1, h2, h3, h4⟩ := roomF_form (n := S.length) (by omega)
      rw [h4, half_at hh]
      rw [h4] at hr
      rcases Nat.le_one_iff_eq_zero_or_eq_one.1 hh with rfl | rfl <;> omega
  rw [bytesF, ByteArray.size_extract]
  omega
/-- What is told of a head: it, the snapshot, the records; or nothing. -/
def FoundR (o : Option (Hd × ByteArray × List ByteArray)) (D : List Blk) (v : Value) (A : List Blk) : Prop :=
  (o = none ∧ ∃ (n0 n1 n2 n3 : Int) (s : ByteArray), v = .tuple #[.agg [.int .i64 n0, .int .i64 n1, .int .i64 n2, .int .i64 n3].toArray, .string s, .slice none 0 0, .bool false] ∧ A = D) ∨
  (∃ h s l sv G, o = some (h, s, l) ∧ v = .tuple #[.agg h.row.toArray, .string s, sv, .bool true] ∧ A = G ++ D ∧ RsT sv l G)
theorem found_spec (B0 : Base) (db : Nat) (x : Dk) (k : Nat) (D : List Blk) (hD : DkA db x k D) (at_ : Nat) (hde : x.de = false) (hat : at_ ≤ 1) (hrm : roomF x.S.length ≠ 0) : ConB Tryz.prog B0 111 #[ptr db, .int .i64 at_] D (FoundR (foundF x.S at_) D) := by
  have hrl := roomF_le x.S.length
  have hA := hD.a
  have hin : at_ < x.S.length := by
    obtain ⟨hf, h1, h2, h3, h4⟩ := roomF_form hrm
    omega
  have hs : ∀ s ∈ x.S, s.size = 128 := by obtain ⟨_, _, _, _, _, _, _, _, _, _, h⟩ := hA; exact h
  obtain ⟨s, hx⟩ : ∃ s, s = x.S.getD at_ .empty := ⟨_, rfl⟩
  have hsz : s.size = 128 := by
    rw [hx, List.getD_eq_getElem?_getD, List.getElem?_eq_getElem hin]
    exact hs _ (List.getElem_mem _)
  have hf9 : ofF (s.extract 9 13) = (rdN s 9 13 : Nat) := by rw [of_four (by rw [ByteArray.size_extract]; omega), ByteArray.size_extract, hsz]; rfl
  have hf13 : ofF (s.extract 13 17) = (rdN s 13 17 : Nat) := by rw [of_four (by rw [ByteArray.size_extract]; omega), ByteArray.size_extract, hsz]; rfl
  have h8 : s[(8 : Int).toNat]? = some (s[8]'(by omega)) := getElem?_pos s 8 (by omega)
  have hb8 : ((s[8]'(by omega)).toNat) = bat s 8 := (bat_some (getElem?_pos s 8 (by omega))).symm
  have hbl := bat_lt s 8
  have hw8 : IntKind.wrap .i64 (((s[8]'(by omega)).toNat : Nat) : Int) = ((bat s 8 : Nat) : Int) := by rw [hb8]; simp [IntKind.wrap, IntKind.bits, IntKind.signed]; omega
  have hn9 : rdN s 9 13 < 4294967296 := rdN_lt s 9
  have hn13 : rdN s 13 17 < 4294967296 := rdN_lt s 13
  refine ConB.intro (vs := [_, _]) Tryz.func111 rfl Tryz.ntmps111 rfl (fun B hB => ?_)
  generalize hc2 : Code.seq (Code.region 2 _ _) _ = c2
  repeat' (first | refine Cd.seq ?_ | refine Cd.reg ?_ | refine Ops.mv rfl rfl rfl rfl ?_ | refine Ops.asg rfl rfl rfl rfl ?_ | refine Ops.alloc rfl rfl rfl (noPd rfl) (fun b => ?_))
  rename Nat => b4
  refine Ops.call (dread_spec db x.S x.ar x.bd x.de k D hA _) rfl (noPd rfl) rfl rfl rfl (fun v A' hR => ?_)
  obtain ⟨rfl, e⟩ := hR
  subst A'
  rw [hde, readD_in1 hin, readD_in2 hin, ← hx]
  repeat' (first | refine Ops.nil ?_ | refine Ops.mv rfl rfl rfl rfl ?_ | refine Ops.asg rfl rfl rfl rfl ?_ | refine Ops.ext rfl rfl rfl rfl rfl ?_)
  subst hc2
  refine Cd.cut (σ := Nat) (fun _ => True) (fun hb => [(0, ptr db), (1, .int .i64 at_), (4, ptr b4), (5, .string ⟨#[]⟩), (6, .slice none 0 0), (7, .bool false), (8, .string s), (10, ptr hb)])
    (fun hb => (hb, cl [.int .i64 (ofF (s.extract 0 8)), .int .i64 (bat s 8 : Nat), .int .i64 (rdN s 9 13 : Nat), .int .i64 (rdN s 13 17 : Nat)] 142) :: (b4, cl [.int .i64 0, .int .i64 0, .int .i64 0, .int .i64 0] 142) :: D) ?_ (fun hb _ => ?_)
  · refine Cd.draw [(0, 0, []), (1, 0, []), (3, 0, []), (4, 0, []), (5, 0, []), (6, 0, []), (7, 0, []), (9, 0, []), (10, 0, []), (2, 4, []), (8, 4, []), (11, 4, []), (12, 0, []), (13, 2, []), (14, 2, [])] (by kernel_rfl) (by kernel_rfl) (by simp only [picked, nth]; exact rfl) ?_
    repeat' (first | refine Ops.mv rfl rfl rfl rfl ?_)
    refine Ops.slSHi rfl rfl rfl rfl (by omega) (by omega) rfl ?_
    rw [show ((8 : Int)).toNat = 8 from rfl]
    repeat' (first | refine Ops.mv rfl rfl rfl rfl ?_)
    refine Ops.ixS rfl rfl rfl rfl (by decide) h8 rfl ?_
    refine Ops.cvI rfl rfl rfl rfl ?_
    rw [hw8]
    repeat' (first | refine Ops.mv rfl rfl rfl rfl ?_)
    refine Ops.slS rfl rfl rfl rfl rfl (by omega) (by omega) (by omega) rfl ?_
    repeat' (first | refine Ops.mv rfl rfl rfl rfl ?_)
    refine Ops.slS rfl rfl rfl rfl rfl (by omega) (by omega) (by omega) rfl ?_
    rw [show ((9 : Int)).toNat = 9 from rfl, show ((13 : Int)).toNat = 13 from rfl, show ((17 : Int)).toNat = 17 from rfl]
    skip
    refine Ops.fork' [(0, 0, []), (1, 0, []), (3, 0, []), (4, 0, []), (5, 0, []), (6, 0, []), (7, 0, []), (9, 0, []), (10, 0, []), (13, 4, []), (2, 2, []), (8, 2, []), (11, 2, []), (12, 0, []), (14, 2, [])] (by kernel_rfl) rfl (by simp only [picked, nth]; exact rfl) ?_ ?_
    · skip
      refine Ops.call (of_spec (s.extract 0 8) (by rw [ByteArray.size_extract]; omega)) rfl (noPd rfl) rfl rfl rfl (fun v A' hR => ?_)
      obtain ⟨rfl, rfl⟩ := hR
      skip
      refine Ops.fork' [(0, 0, []), (1, 0, []), (3, 0, []), (4, 0, []), (5, 0, []), (6, 0, []), (7, 0, []), (9, 0, []), (10, 0, []), (2, 4, []), (13, 4, []), (8, 2, []), (11, 2, []), (12, 0, []), (14, 2, [])] (by kernel_rfl) rfl (by simp only [picked, nth]; exact rfl) ?_ ?_
      · skip
        refine Ops.call (of_spec (s.extract 9 13) (by rw [ByteArray.size_extract]; omega)) rfl (noPd rfl) rfl rfl rfl (fun v A' hR => ?_)
        obtain ⟨rfl, rfl⟩ := hR
        skip
        refine Ops.fork' [(0, 0, []), (1, 0, []), (3, 0, []), (4, 0, []), (5, 0, []), (6, 0, []), (7, 0, []), (9, 0, []), (10, 0, []), (2, 4, []), (8, 4, []), (13, 4, []), (11, 2, []), (12, 0, []), (14, 2, [])] (by kernel_rfl) rfl (by simp only [picked, nth]; exact rfl) ?_ ?_
        · skip
          refine Ops.call (of_spec (s.extract 13 17) (by rw [ByteArray.size_extract]; omega)) rfl (noPd rfl) rfl rfl rfl (fun v A' hR => ?_)
          obtain ⟨rfl, rfl⟩ := hR
          repeat' (first | refine Ops.bld rfl rfl rfl rfl ?_ | refine Ops.alloc rfl rfl rfl (by first | exact noPd rfl | (intro v A' hR i hi; obtain ⟨b, rfl, rfl⟩ := hR; (repeat (rcases List.mem_cons.1 hi with rfl | hi; · (first | exact Still.ld1 rfl rfl rfl rfl rfl | exact Still.ldN rfl rfl rfl rfl | exact Still.len rfl rfl rfl rfl rfl | exact Still.skip rfl rfl rfl | exact Still.ldRow1 rfl rfl rfl (by assumption) (by assumption) rfl rfl | exact Still.ldR rfl rfl rfl (by apply_assumption) rfl))); cases hi)) (fun b => ?_) | refine Ops.stN rfl rfl rfl rfl rfl rfl (by first | exact noPd rfl | (intro v A' hR i hi; obtain rfl := hR; (repeat (rcases List.mem_cons.1 hi with rfl | hi; · (first | exact Still.ld1 rfl rfl rfl rfl rfl | exact Still.ldN rfl rfl rfl rfl | exact Still.len rfl rfl rfl rfl rfl | exact Still.skip rfl rfl rfl | exact Still.ldRow1 rfl rfl rfl (by assumption) (by assumption) rfl rfl | exact Still.ldR rfl rfl rfl (by apply_assumption) rfl))); cases hi)) ?_)
          rename Nat => hb
          skip
          rw [hf9, hf13]
          exact Ops.nilN (meet_end (Q := fun _ _ _ => True) hb trivial ⟨rfl, rfl, rfl, rfl, rfl, rfl, rfl, rfl, trivial⟩ (fun w h => h.split))
        · repeat' (first | refine Ops.alloc rfl rfl rfl (by first | exact noPd rfl | (intro v A' hR i hi; obtain ⟨b, rfl, rfl⟩ := hR; (repeat (rcases List.mem_cons.1 hi with rfl | hi; · (first | exact Still.ld1 rfl rfl rfl rfl rfl | exact Still.ldN rfl rfl rfl rfl | exact Still.len rfl rfl rfl rfl rfl | exact Still.skip rfl rfl rfl | exact Still.ldRow1 rfl rfl rfl (by assumption) (by assumption) rfl rfl | exact Still.ldR rfl rfl rfl (by apply_assumption) rfl))); cases hi)) (fun b => ?_))
          rename Nat => hb
          skip
          refine Ops.call (of_spec (s.extract 13 17) (by rw [ByteArray.size_extract]; omega)) rfl (noPd rfl) rfl rfl rfl (fun v A' hR => ?_)
          obtain ⟨rfl, rfl⟩ := hR
          repeat' (first | refine Ops.bld rfl rfl rfl rfl ?_ | refine Ops.stN rfl rfl rfl rfl rfl rfl (by first | exact noPd rfl | (intro v A' hR i hi; obtain rfl := hR; (repeat (rcases List.mem_cons.1 hi with rfl | hi; · (first | exact Still.ld1 rfl rfl rfl rfl rfl | exact Still.ldN rfl rfl rfl rfl | exact Still.len rfl rfl rfl rfl rfl | exact Still.skip rfl rfl rfl | exact Still.ldRow1 rfl rfl rfl (by assumption) (by assumption) rfl rfl | exact Still.ldR rfl rfl rfl (by apply_assumption) rfl))); cases hi)) ?_)
          rw [hf9, hf13]
          exact Ops.nilN (meet_end (Q := fun _ _ _ => True) hb trivial ⟨rfl, rfl, rfl, rfl, rfl, rfl, rfl, rfl, trivial⟩ (fun w h => h.split))
      · repeat' (first | refine Ops.alloc rfl rfl rfl (by first | exact noPd rfl | (intro v A' hR i hi; obtain ⟨b, rfl, rfl⟩ := hR; (repeat (rcases List.mem_cons.1 hi with rfl | hi; · (first | exact Still.ld1 rfl rfl rfl rfl rfl | exact Still.ldN rfl rfl rfl rfl | exact Still.len rfl rfl rfl rfl rfl | exact Still.skip rfl rfl rfl | exact Still.ldRow1 rfl rfl rfl (by assumption) (by assumption) rfl rfl | exact Still.ldR rfl rfl rfl (by apply_assumption) rfl))); cases hi)) (fun b => ?_))
        rename Nat => hb
        skip
        refine Ops.call (of_spec (s.extract 9 13) (by rw [ByteArray.size_extract]; omega)) rfl (noPd rfl) rfl rfl rfl (fun v A' hR => ?_)
        obtain ⟨rfl, rfl⟩ := hR
        skip
        refine Ops.call (of_spec (s.extract 13 17) (by rw [ByteArray.size_extract]; omega)) rfl (noPd rfl) rfl rfl rfl (fun v A' hR => ?_)
        obtain ⟨rfl, rfl⟩ := hR
        repeat' (first | refine Ops.bld rfl rfl rfl rfl ?_ | refine Ops.stN rfl rfl rfl rfl rfl rfl (by first | exact noPd rfl | (intro v A' hR i hi; obtain rfl := hR; (repeat (rcases List.mem_cons.1 hi with rfl | hi; · (first | exact Still.ld1 rfl rfl rfl rfl rfl | exact Still.ldN rfl rfl rfl rfl | exact Still.len rfl rfl rfl rfl rfl | exact Still.skip rfl rfl rfl | exact Still.ldRow1 rfl rfl rfl (by assumption) (by assumption) rfl rfl | exact Still.ldR rfl rfl rfl (by apply_assumption) rfl))); cases hi)) ?_)
        rw [hf9, hf13]
        exact Ops.nilN (meet_end (Q := fun _ _ _ => True) hb trivial ⟨rfl, rfl, rfl, rfl, rfl, rfl, rfl, rfl, trivial⟩ (fun w h => h.split))
    · repeat' (first | refine Ops.alloc rfl rfl rfl (by first | exact noPd rfl | (intro v A' hR i hi; obtain ⟨b, rfl, rfl⟩ := hR; (repeat (rcases List.mem_cons.1 hi with rfl | hi; · (first | exact Still.ld1 rfl rfl rfl rfl rfl | exact Still.ldN rfl rfl rfl rfl | exact Still.len rfl rfl rfl rfl rfl | exact Still.skip rfl rfl rfl | exact Still.ldRow1 rfl rfl rfl (by assumption) (by assumption) rfl rfl | exact Still.ldR rfl rfl rfl (by apply_assumption) rfl))); cases hi)) (fun b => ?_))
      rename Nat => hb
      skip
      refine Ops.call (of_spec (s.extract 0 8) (by rw [ByteArray.size_extract]; omega)) rfl (noPd rfl) rfl rfl rfl (fun v A' hR => ?_)
      obtain ⟨rfl, rfl⟩ := hR
      skip
      refine Ops.call (of_spec (s.extract 9 13) (by rw [ByteArray.size_extract]; omega)) rfl (noPd rfl) rfl rfl rfl (fun v A' hR => ?_)
      obtain ⟨rfl, rfl⟩ := hR
      skip
      refine Ops.call (of_spec (s.extract 13 17) (by rw [ByteArray.size_extract]; omega)) rfl (noPd rfl) rfl rfl rfl (fun v A' hR => ?_)
      obtain ⟨rfl, rfl⟩ := hR
      repeat' (first | refine Ops.bld rfl rfl rfl rfl ?_ | refine Ops.stN rfl rfl rfl rfl rfl rfl (by first | exact noPd rfl | (intro v A' hR i hi; obtain rfl := hR; (repeat (rcases List.mem_cons.1 hi with rfl | hi; · (first | exact Still.ld1 rfl rfl rfl rfl rfl | exact Still.ldN rfl rfl rfl rfl | exact Still.len rfl rfl rfl rfl rfl | exact Still.skip rfl rfl rfl | exact Still.ldRow1 rfl rfl rfl (by assumption) (by assumption) rfl rfl | exact Still.ldR rfl rfl rfl (by apply_assumption) rfl))); cases hi)) ?_)
      rw [hf9, hf13]
      exact Ops.nilN (meet_end (Q := fun _ _ _ => True) hb trivial ⟨rfl, rfl, rfl, rfl, rfl, rfl, rfl, rfl, trivial⟩ (fun w h => h.split))
  · have hw : ∀ a b : Nat, (a : Int) + (b : Int) = ((a + b : Nat) : Int) := fun a b => by push_cast; rfl
    obtain ⟨nm, hnm⟩ : ∃ n, n = ofF (s.extract 0 8) := ⟨_, rfl⟩
    obtain ⟨bt, hbt⟩ : ∃ n, n = bat s 8 := ⟨_, rfl⟩
    obtain ⟨sn, hsn⟩ : ∃ n, n = rdN s 9 13 := ⟨_, rfl⟩
    obtain ⟨lg, hlg⟩ : ∃ n, n = rdN s 13 17 := ⟨_, rfl⟩
    obtain ⟨rm, hrme⟩ : ∃ n, n = roomF x.S.length := ⟨_, rfl⟩
    have hbad1 := foundF_bad1 (S := x.S) (at_ := at_)
    have hbad2 := foundF_bad2 (S := x.S) (at_ := at_)
    have hgo0 := foundF_go (S := x.S) (at_ := at_)
    rw [← hx, ← hnm, ← hbt] at hbad1
    rw [← hx, ← hnm, ← hbt, ← hsn, ← hlg, ← hrme] at hbad2 hgo0
    rw [← hsn] at hn9
    rw [← hlg] at hn13
    rw [← hbt] at hbl
    rw [← hnm, ← hbt, ← hsn, ← hlg]
    rw [← hrme] at hrl
    clear hf9 hf13 h8 hb8 hw8
    repeat' (first | refine Cd.seq ?_)
    refine Cd.draw [(0, 0, []), (1, 1, []), (2, 0, []), (3, 0, []), (4, 0, []), (5, 1, []), (6, 0, []), (7, 0, []), (8, 0, []), (9, 0, []), (10, 1, []), (11, 0, []), (12, 0, []), (13, 0, []), (14, 0, []), (15, 0, []), (16, 0, []), (17, 1, []), (18, 0, []), (19, 0, []), (20, 0, []), (21, 1, []), (23, 0, []), (22, 2, []), (24, 0, []), (25, 0, []), (26, 0, []), (27, 0, []), (28, 1, []), (29, 0, []), (30, 0, []), (31, 0, []), (32, 0, []), (33, 1, []), (34, 0, []), (35, 1, []), (36, 0, []), (37, 0, []), (38, 2, [33, 35]), (39, 0, []), (40, 0, [])] (by kernel_rfl) (by kernel_rfl) (by simp only [picked, nth]; exact rfl) ?_
    by_cases c1 : nm < 1
    · skip
      repeat' (first | refine Cd.seq ?_ | refine Cd.reg ?_ | refine Ops.nil ?_ | refine Ops.mv rfl rfl rfl rfl ?_ | refine Ops.asg rfl rfl rfl rfl ?_ | refine Ops.fa0 rfl rfl rfl rfl ?_ | refine Ops.ld1 rfl rfl rfl rfl rfl ?_ | refine Ops.bin rfl rfl rfl rfl rfl ?_ | refine Ops.pickT rfl rfl rfl rfl rfl ?_ | refine Ops.bld rfl rfl rfl rfl ?_ | refine Ops.stN rfl rfl rfl rfl rfl rfl (by first | exact noPd rfl | (intro v A' hR i hi; obtain rfl := hR; (repeat (rcases List.mem_cons.1 hi with rfl | hi; · (first | exact Still.ld1 rfl rfl rfl rfl rfl | exact Still.ldN rfl rfl rfl rfl | exact Still.len rfl rfl rfl rfl rfl | exact Still.skip rfl rfl rfl | exact Still.ldRow1 rfl rfl rfl (by assumption) (by assumption) rfl rfl | exact Still.ldR rfl rfl rfl (by apply_assumption) rfl))); cases hi)) ?_ | refine Ops.gSkip rfl rfl rfl ?_ | refine Ops.gSkipE rfl (by first | exact noPd rfl | (intro v A' hR i hi; obtain ⟨rfl, rfl⟩ := hR; (repeat (rcases List.mem_cons.1 hi with rfl | hi; · (first | exact Still.ld1 rfl rfl rfl rfl rfl | exact Still.ldN rfl rfl rfl rfl | exact Still.len rfl rfl rfl rfl rfl | exact Still.skip rfl rfl rfl | exact Still.ldRow1 rfl rfl rfl (by assumption) (by assumption) rfl rfl | exact Still.ldR rfl rfl rfl (by apply_assumption) rfl))); cases hi)) rfl rfl ?_ | refine Cd.condT rfl rfl ?_ | ((fail_if_success refine Ops.probe rfl ?_); refine Ops.gT rfl rfl (by first | rfl | assumption | (simp only [decide_eq_true_eq, decide_eq_false_iff_not, Bool.not_eq_true', Bool.not_eq_false', Bool.not_eq_eq_eq_not, Bool.not_true, Bool.not_false, beq_iff_eq, beq_eq_false_iff_ne, ne_eq, decide_eq_decide, eq_self, true_iff, iff_true, not_true_eq_false, not_false_eq_true]; first | done | omega)) ?_))
      exact Cd.ret (ret4 (A' := D) rfl (Res.cellN rfl) (Res.tmp rfl) (Res.tmp rfl) (Res.tmp rfl) (fun _ h => h.split) (.inl ⟨hbad1 (.inl c1), 0, 0, 0, 0, _, rfl, rfl⟩))
    obtain ⟨N, hN⟩ : ∃ N : Nat, nm = N := ⟨_, (Int.toNat_of_nonneg (by omega)).symm⟩
    subst hN
    have em : (N : Int).tmod 2 = ((N % 2 : Nat) : Int) := by
      rw [show (2 : Int) = ((2 : Nat) : Int) from rfl, ← Int.ofNat_tmod]
    rw [Int.toNat_natCast] at hbad2 hgo0
    by_cases c2 : 1099511627776 < (N : Int)
    · skip
      repeat' (first | refine Cd.seq ?_ | refine Cd.reg ?_ | refine Ops.nil ?_ | refine Ops.mv rfl rfl rfl rfl ?_ | refine Ops.asg rfl rfl rfl rfl ?_ | refine Ops.fa0 rfl rfl rfl rfl ?_ | refine Ops.ld1 rfl rfl rfl rfl rfl ?_ | refine Ops.bin rfl rfl rfl rfl rfl ?_ | refine Ops.pickT rfl rfl rfl rfl rfl ?_ | refine Ops.pickF rfl rfl rfl rfl rfl ?_ | refine Ops.bld rfl rfl rfl rfl ?_ | refine Ops.stN rfl rfl rfl rfl rfl rfl (by first | exact noPd rfl | (intro v A' hR i hi; obtain rfl := hR; (repeat (rcases List.mem_cons.1 hi with rfl | hi; · (first | exact Still.ld1 rfl rfl rfl rfl rfl | exact Still.ldN rfl rfl rfl rfl | exact Still.len rfl rfl rfl rfl rfl | exact Still.skip rfl rfl rfl | exact Still.ldRow1 rfl rfl rfl (by assumption) (by assumption) rfl rfl | exact Still.ldR rfl rfl rfl (by apply_assumption) rfl))); cases hi)) ?_ | refine Ops.gSkip rfl rfl rfl ?_ | refine Ops.gSkipE rfl (by first | exact noPd rfl | (intro v A' hR i hi; obtain ⟨rfl, rfl⟩ := hR; (repeat (rcases List.mem_cons.1 hi with rfl | hi; · (first | exact Still.ld1 rfl rfl rfl rfl rfl | exact Still.ldN rfl rfl rfl rfl | exact Still.len rfl rfl rfl rfl rfl | exact Still.skip rfl rfl rfl | exact Still.ldRow1 rfl rfl rfl (by assumption) (by assumption) rfl rfl | exact Still.ldR rfl rfl rfl (by apply_assumption) rfl))); cases hi)) rfl rfl ?_ | refine Cd.condT rfl rfl ?_ | ((fail_if_success refine Ops.probe rfl ?_); refine Ops.gT rfl rfl (by first | rfl | assumption | (simp only [decide_eq_true_eq, decide_eq_false_iff_not, Bool.not_eq_true', Bool.not_eq_false', Bool.not_eq_eq_eq_not, Bool.not_true, Bool.not_false, beq_iff_eq, beq_eq_false_iff_ne, ne_eq, decide_eq_decide, eq_self, true_iff, iff_true, not_true_eq_false, not_false_eq_true]; first | done | omega)) ?_) | ((fail_if_success refine Ops.probe rfl ?_); refine Ops.gF rfl rfl (by first | rfl | assumption | (simp only [decide_eq_true_eq, decide_eq_false_iff_not, Bool.not_eq_true', Bool.not_eq_false', Bool.not_eq_eq_eq_not, Bool.not_true, Bool.not_false, beq_iff_eq, beq_eq_false_iff_ne, ne_eq, decide_eq_decide, eq_self, true_iff, iff_true, not_true_eq_false, not_false_eq_true]; first | done | omega)) ?_))
      exact Cd.ret (ret4 (A' := D) rfl (Res.cellN rfl) (Res.tmp rfl) (Res.tmp rfl) (Res.tmp rfl) (fun _ h => h.split) (.inl ⟨hbad1 (.inr (.inl c2)), 0, 0, 0, 0, _, rfl, rfl⟩))
    by_cases c3 : N % 2 = at_
    case neg =>
      have c3' : ¬ ((N % 2 : Nat) : Int) = at_ := by omega
      repeat' (first | refine Ops.mv rfl rfl rfl rfl ?_ | refine Ops.fa0 rfl rfl rfl rfl ?_ | refine Ops.ld1 rfl rfl rfl rfl rfl ?_ | refine Ops.bin rfl rfl rfl rfl rfl ?_ | refine Ops.pickF rfl rfl rfl rfl rfl ?_ | ((fail_if_success refine Ops.probe rfl ?_); refine Ops.gF rfl rfl (by first | rfl | assumption | (simp only [decide_eq_true_eq, decide_eq_false_iff_not, Bool.not_eq_true', Bool.not_eq_false', Bool.not_eq_eq_eq_not, Bool.not_true, Bool.not_false, beq_iff_eq, beq_eq_false_iff_ne, ne_eq, decide_eq_decide, eq_self, true_iff, iff_true, not_true_eq_false, not_false_eq_true]; first | done | omega)) ?_))
      refine Ops.remI rfl rfl rfl rfl (by decide) rfl ?_
      rw [em]
      repeat' (first | refine Cd.seq ?_ | refine Cd.reg ?_ | refine Ops.nil ?_ | refine Ops.mv rfl rfl rfl rfl ?_ | refine Ops.asg rfl rfl rfl rfl ?_ | refine Ops.bin rfl rfl rfl rfl rfl ?_ | refine Ops.pickT rfl rfl rfl rfl rfl ?_ | refine Ops.pickF rfl rfl rfl rfl rfl ?_ | refine Ops.bld rfl rfl rfl rfl ?_ | refine Ops.stN rfl rfl rfl rfl rfl rfl (by first | exact noPd rfl | (intro v A' hR i hi; obtain rfl := hR; (repeat (rcases List.mem_cons.1 hi with rfl | hi; · (first | exact Still.ld1 rfl rfl rfl rfl rfl | exact Still.ldN rfl rfl rfl rfl | exact Still.len rfl rfl rfl rfl rfl | exact Still.skip rfl rfl rfl | exact Still.ldRow1 rfl rfl rfl (by assumption) (by assumption) rfl rfl | exact Still.ldR rfl rfl rfl (by apply_assumption) rfl))); cases hi)) ?_ | refine Ops.gSkip rfl rfl rfl ?_ | refine Ops.gSkipE rfl (by first | exact noPd rfl | (intro v A' hR i hi; obtain ⟨rfl, rfl⟩ := hR; (repeat (rcases List.mem_cons.1 hi with rfl | hi; · (first | exact Still.ld1 rfl rfl rfl rfl rfl | exact Still.ldN rfl rfl rfl rfl | exact Still.len rfl rfl rfl rfl rfl | exact Still.skip rfl rfl rfl | exact Still.ldRow1 rfl rfl rfl (by assumption) (by assumption) rfl rfl | exact Still.ldR rfl rfl rfl (by apply_assumption) rfl))); cases hi)) rfl rfl ?_ | refine Cd.condT rfl rfl ?_ | ((fail_if_success refine Ops.probe rfl ?_); refine Ops.gT rfl rfl (by first | rfl | assumption | (simp only [decide_eq_true_eq, decide_eq_false_iff_not, Bool.not_eq_true', Bool.not_eq_false', Bool.not_eq_eq_eq_not, Bool.not_true, Bool.not_false, beq_iff_eq, beq_eq_false_iff_ne, ne_eq, decide_eq_decide, eq_self, true_iff, iff_true, not_true_eq_false, not_false_eq_true]; first | done | omega)) ?_))
      exact Cd.ret (ret4 (A' := D) rfl (Res.cellN rfl) (Res.tmp rfl) (Res.tmp rfl) (Res.tmp rfl) (fun _ h => h.split) (.inl ⟨hbad1 (.inr (.inr (.inl (by omega)))), 0, 0, 0, 0, _, rfl, rfl⟩))
    have c3' : ((N % 2 : Nat) : Int) = at_ := by omega
    by_cases c4 : 1 < bt
    · have c4' : (1 : Int) < (bt : Nat) := by omega
      repeat' (first | refine Ops.mv rfl rfl rfl rfl ?_ | refine Ops.fa0 rfl rfl rfl rfl ?_ | refine Ops.ld1 rfl rfl rfl rfl rfl ?_ | refine Ops.bin rfl rfl rfl rfl rfl ?_ | refine Ops.pickF rfl rfl rfl rfl rfl ?_ | ((fail_if_success refine Ops.probe rfl ?_); refine Ops.gF rfl rfl (by first | rfl | assumption | (simp only [decide_eq_true_eq, decide_eq_false_iff_not, Bool.not_eq_true', Bool.not_eq_false', Bool.not_eq_eq_eq_not, Bool.not_true, Bool.not_false, beq_iff_eq, beq_eq_false_iff_ne, ne_eq, decide_eq_decide, eq_self, true_iff, iff_true, not_true_eq_false, not_false_eq_true]; first | done | omega)) ?_))
      refine Ops.remI rfl rfl rfl rfl (by decide) rfl ?_
      rw [em]
      repeat' (first | refine Cd.seq ?_ | refine Cd.reg ?_ | refine Ops.nil ?_ | refine Ops.mv rfl rfl rfl rfl ?_ | refine Ops.asg rfl rfl rfl rfl ?_ | refine Ops.fa0 rfl rfl rfl rfl ?_ | refine Ops.ld1 rfl rfl rfl rfl rfl ?_ | refine Ops.bin rfl rfl rfl rfl rfl ?_ | refine Ops.pickT rfl rfl rfl rfl rfl ?_ | refine Ops.pickF rfl rfl rfl rfl rfl ?_ | refine Ops.bld rfl rfl rfl rfl ?_ | refine Ops.stN rfl rfl rfl rfl rfl rfl (by first | exact noPd rfl | (intro v A' hR i hi; obtain rfl := hR; (repeat (rcases List.mem_cons.1 hi with rfl | hi; · (first | exact Still.ld1 rfl rfl rfl rfl rfl | exact Still.ldN rfl rfl rfl rfl | exact Still.len rfl rfl rfl rfl rfl | exact Still.skip rfl rfl rfl | exact Still.ldRow1 rfl rfl rfl (by assumption) (by assumption) rfl rfl | exact Still.ldR rfl rfl rfl (by apply_assumption) rfl))); cases hi)) ?_ | refine Ops.gSkip rfl rfl rfl ?_ | refine Ops.gSkipE rfl (by first | exact noPd rfl | (intro v A' hR i hi; obtain ⟨rfl, rfl⟩ := hR; (repeat (rcases List.mem_cons.1 hi with rfl | hi; · (first | exact Still.ld1 rfl rfl rfl rfl rfl | exact Still.ldN rfl rfl rfl rfl | exact Still.len rfl rfl rfl rfl rfl | exact Still.skip rfl rfl rfl | exact Still.ldRow1 rfl rfl rfl (by assumption) (by assumption) rfl rfl | exact Still.ldR rfl rfl rfl (by apply_assumption) rfl))); cases hi)) rfl rfl ?_ | refine Cd.condT rfl rfl ?_ | ((fail_if_success refine Ops.probe rfl ?_); refine Ops.gT rfl rfl (by first | rfl | assumption | (simp only [decide_eq_true_eq, decide_eq_false_iff_not, Bool.not_eq_true', Bool.not_eq_false', Bool.not_eq_eq_eq_not, Bool.not_true, Bool.not_false, beq_iff_eq, beq_eq_false_iff_ne, ne_eq, decide_eq_decide, eq_self, true_iff, iff_true, not_true_eq_false, not_false_eq_true]; first | done | omega)) ?_) | ((fail_if_success refine Ops.probe rfl ?_); refine Ops.gF rfl rfl (by first | rfl | assumption | (simp only [decide_eq_true_eq, decide_eq_false_iff_not, Bool.not_eq_true', Bool.not_eq_false', Bool.not_eq_eq_eq_not, Bool.not_true, Bool.not_false, beq_iff_eq, beq_eq_false_iff_ne, ne_eq, decide_eq_decide, eq_self, true_iff, iff_true, not_true_eq_false, not_false_eq_true]; first | done | omega)) ?_))
      exact Cd.ret (ret4 (A' := D) rfl (Res.cellN rfl) (Res.tmp rfl) (Res.tmp rfl) (Res.tmp rfl) (fun _ h => h.split) (.inl ⟨hbad1 (.inr (.inr (.inr c4))), 0, 0, 0, 0, _, rfl, rfl⟩))
    have c4' : ¬ (1 : Int) < (bt : Nat) := by omega
    have hbad2 := hbad2 (by omega)
    have hgo0 := hgo0 (by omega)
    obtain ⟨se, hse⟩ : ∃ se, se = sectorF ⟨N, bt, sn, lg⟩ := ⟨_, rfl⟩
    rw [← hse] at hbad2 hgo0
    by_cases c5 : se = s
    case neg =>
      repeat' (first | refine Ops.mv rfl rfl rfl rfl ?_ | refine Ops.fa0 rfl rfl rfl rfl ?_ | refine Ops.ld1 rfl rfl rfl rfl rfl ?_ | refine Ops.bin rfl rfl rfl rfl rfl ?_ | refine Ops.pickF rfl rfl rfl rfl rfl ?_ | ((fail_if_success refine Ops.probe rfl ?_); refine Ops.gF rfl rfl (by first | rfl | assumption | (simp only [decide_eq_true_eq, decide_eq_false_iff_not, Bool.not_eq_true', Bool.not_eq_false', Bool.not_eq_eq_eq_not, Bool.not_true, Bool.not_false, beq_iff_eq, beq_eq_false_iff_ne, ne_eq, decide_eq_decide, eq_self, true_iff, iff_true, not_true_eq_false, not_false_eq_true]; first | done | omega)) ?_))
      refine Ops.remI rfl rfl rfl rfl (by decide) rfl ?_
      rw [em]
      repeat' (first | refine Ops.mv rfl rfl rfl rfl ?_ | refine Ops.fa0 rfl rfl rfl rfl ?_ | refine Ops.ld1 rfl rfl rfl rfl rfl ?_ | refine Ops.ldN rfl rfl rfl rfl ?_ | refine Ops.bin rfl rfl rfl rfl rfl ?_ | refine Ops.pickF rfl rfl rfl rfl rfl ?_ | ((fail_if_success refine Ops.probe rfl ?_); refine Ops.gF rfl rfl (by first | rfl | assumption | (simp only [decide_eq_true_eq, decide_eq_false_iff_not, Bool.not_eq_true', Bool.not_eq_false', Bool.not_eq_eq_eq_not, Bool.not_true, Bool.not_false, beq_iff_eq, beq_eq_false_iff_ne, ne_eq, decide_eq_decide, eq_self, true_iff, iff_true, not_true_eq_false, not_false_eq_true]; first | done | omega)) ?_))
      refine Ops.call (sector_spec ⟨N, bt, sn, lg⟩ ⟨by show N < _; omega, by show bt < _; omega, by show sn < _; omega, by show lg < _; omega⟩) rfl (noPd rfl) rfl rfl rfl (fun v A' hR => ?_)
      obtain ⟨rfl, rfl⟩ := hR
      rw [← hse]
      repeat' (first | refine Cd.seq ?_ | refine Cd.reg ?_ | refine Ops.nil ?_ | refine Ops.mv rfl rfl rfl rfl ?_ | refine Ops.asg rfl rfl rfl rfl ?_ | refine Ops.bin rfl rfl rfl rfl rfl ?_ | refine Ops.pickT rfl rfl rfl rfl rfl ?_ | refine Ops.pickF rfl rfl rfl rfl rfl ?_ | refine Ops.bld rfl rfl rfl rfl ?_ | refine Ops.stN rfl rfl rfl rfl rfl rfl (by first | exact noPd rfl | (intro v A' hR i hi; obtain rfl := hR; (repeat (rcases List.mem_cons.1 hi with rfl | hi; · (first | exact Still.ld1 rfl rfl rfl rfl rfl | exact Still.ldN rfl rfl rfl rfl | exact Still.len rfl rfl rfl rfl rfl | exact Still.skip rfl rfl rfl | exact Still.ldRow1 rfl rfl rfl (by assumption) (by assumption) rfl rfl | exact Still.ldR rfl rfl rfl (by apply_assumption) rfl))); cases hi)) ?_ | refine Ops.gSkip rfl rfl rfl ?_ | refine Ops.gSkipE rfl (by first | exact noPd rfl | (intro v A' hR i hi; obtain ⟨rfl, rfl⟩ := hR; (repeat (rcases List.mem_cons.1 hi with rfl | hi; · (first | exact Still.ld1 rfl rfl rfl rfl rfl | exact Still.ldN rfl rfl rfl rfl | exact Still.len rfl rfl rfl rfl rfl | exact Still.skip rfl rfl rfl | exact Still.ldRow1 rfl rfl rfl (by assumption) (by assumption) rfl rfl | exact Still.ldR rfl rfl rfl (by apply_assumption) rfl))); cases hi)) rfl rfl ?_ | refine Cd.condT rfl rfl ?_ | ((fail_if_success refine Ops.probe rfl ?_); refine Ops.gT rfl rfl (by first | rfl | assumption | (simp only [decide_eq_true_eq, decide_eq_false_iff_not, Bool.not_eq_true', Bool.not_eq_false', Bool.not_eq_eq_eq_not, Bool.not_true, Bool.not_false, beq_iff_eq, beq_eq_false_iff_ne, ne_eq, decide_eq_decide, eq_self, true_iff, iff_true, not_true_eq_false, not_false_eq_true]; first | done | omega)) ?_))
      exact Cd.ret (ret4 (A' := D) rfl (Res.cellN rfl) (Res.tmp rfl) (Res.tmp rfl) (Res.tmp rfl) (fun _ h => h.split) (.inl ⟨hbad2 (.inl c5), 0, 0, 0, 0, _, rfl, rfl⟩))
    by_cases c6 : 17000 < sn
    · have c6' : (17000 : Int) < (sn : Nat) := by omega
      repeat' (first | refine Ops.mv rfl rfl rfl rfl ?_ | refine Ops.fa0 rfl rfl rfl rfl ?_ | refine Ops.ld1 rfl rfl rfl rfl rfl ?_ | refine Ops.bin rfl rfl rfl rfl rfl ?_ | refine Ops.pickF rfl rfl rfl rfl rfl ?_ | ((fail_if_success refine Ops.probe rfl ?_); refine Ops.gF rfl rfl (by first | rfl | assumption | (simp only [decide_eq_true_eq, decide_eq_false_iff_not, Bool.not_eq_true', Bool.not_eq_false', Bool.not_eq_eq_eq_not, Bool.not_true, Bool.not_false, beq_iff_eq, beq_eq_false_iff_ne, ne_eq, decide_eq_decide, eq_self, true_iff, iff_true, not_true_eq_false, not_false_eq_true]; first | done | omega)) ?_))
      refine Ops.remI rfl rfl rfl rfl (by decide) rfl ?_
      rw [em]
      repeat' (first | refine Ops.mv rfl rfl rfl rfl ?_ | refine Ops.fa0 rfl rfl rfl rfl ?_ | refine Ops.ld1 rfl rfl rfl rfl rfl ?_ | refine Ops.ldN rfl rfl rfl rfl ?_ | refine Ops.bin rfl rfl rfl rfl rfl ?_ | refine Ops.pickF rfl rfl rfl rfl rfl ?_ | ((fail_if_success refine Ops.probe rfl ?_); refine Ops.gF rfl rfl (by first | rfl | assumption | (simp only [decide_eq_true_eq, decide_eq_false_iff_not, Bool.not_eq_true', Bool.not_eq_false', Bool.not_eq_eq_eq_not, Bool.not_true, Bool.not_false, beq_iff_eq, beq_eq_false_iff_ne, ne_eq, decide_eq_decide, eq_self, true_iff, iff_true, not_true_eq_false, not_false_eq_true]; first | done | omega)) ?_))
      refine Ops.call (sector_spec ⟨N, bt, sn, lg⟩ ⟨by show N < _; omega, by show bt < _; omega, by show sn < _; omega, by show lg < _; omega⟩) rfl (noPd rfl) rfl rfl rfl (fun v A' hR => ?_)
      obtain ⟨rfl, rfl⟩ := hR
      rw [← hse]
      repeat' (first | refine Cd.seq ?_ | refine Cd.reg ?_ | refine Ops.nil ?_ | refine Ops.mv rfl rfl rfl rfl ?_ | refine Ops.asg rfl rfl rfl rfl ?_ | refine Ops.fa0 rfl rfl rfl rfl ?_ | refine Ops.ld1 rfl rfl rfl rfl rfl ?_ | refine Ops.bin rfl rfl rfl rfl rfl ?_ | refine Ops.pickT rfl rfl rfl rfl rfl ?_ | refine Ops.pickF rfl rfl rfl rfl rfl ?_ | refine Ops.bld rfl rfl rfl rfl ?_ | refine Ops.stN rfl rfl rfl rfl rfl rfl (by first | exact noPd rfl | (intro v A' hR i hi; obtain rfl := hR; (repeat (rcases List.mem_cons.1 hi with rfl | hi; · (first | exact Still.ld1 rfl rfl rfl rfl rfl | exact Still.ldN rfl rfl rfl rfl | exact Still.len rfl rfl rfl rfl rfl | exact Still.skip rfl rfl rfl | exact Still.ldRow1 rfl rfl rfl (by assumption) (by assumption) rfl rfl | exact Still.ldR rfl rfl rfl (by apply_assumption) rfl))); cases hi)) ?_ | refine Ops.gSkip rfl rfl rfl ?_ | refine Ops.gSkipE rfl (by first | exact noPd rfl | (intro v A' hR i hi; obtain ⟨rfl, rfl⟩ := hR; (repeat (rcases List.mem_cons.1 hi with rfl | hi; · (first | exact Still.ld1 rfl rfl rfl rfl rfl | exact Still.ldN rfl rfl rfl rfl | exact Still.len rfl rfl rfl rfl rfl | exact Still.skip rfl rfl rfl | exact Still.ldRow1 rfl rfl rfl (by assumption) (by assumption) rfl rfl | exact Still.ldR rfl rfl rfl (by apply_assumption) rfl))); cases hi)) rfl rfl ?_ | refine Cd.condT rfl rfl ?_ | ((fail_if_success refine Ops.probe rfl ?_); refine Ops.gT rfl rfl (by first | rfl | assumption | (simp only [decide_eq_true_eq, decide_eq_false_iff_not, Bool.not_eq_true', Bool.not_eq_false', Bool.not_eq_eq_eq_not, Bool.not_true, Bool.not_false, beq_iff_eq, beq_eq_false_iff_ne, ne_eq, decide_eq_decide, eq_self, true_iff, iff_true, not_true_eq_false, not_false_eq_true]; first | done | omega)) ?_) | ((fail_if_success refine Ops.probe rfl ?_); refine Ops.gF rfl rfl (by first | rfl | assumption | (simp only [decide_eq_true_eq, decide_eq_false_iff_not, Bool.not_eq_true', Bool.not_eq_false', Bool.not_eq_eq_eq_not, Bool.not_true, Bool.not_false, beq_iff_eq, beq_eq_false_iff_ne, ne_eq, decide_eq_decide, eq_self, true_iff, iff_true, not_true_eq_false, not_false_eq_true]; first | done | omega)) ?_))
      exact Cd.ret (ret4 (A' := D) rfl (Res.cellN rfl) (Res.tmp rfl) (Res.tmp rfl) (Res.tmp rfl) (fun _ h => h.split) (.inl ⟨hbad2 (.inr (.inl c6)), 0, 0, 0, 0, _, rfl, rfl⟩))
    have c6' : ¬ (17000 : Int) < (sn : Nat) := by omega
    by_cases c7 : rm < sn + lg
    · have c7' : ((rm : Nat) : Int) < (sn : Nat) + (lg : Nat) := by omega
      repeat' (first | refine Ops.mv rfl rfl rfl rfl ?_ | refine Ops.fa0 rfl rfl rfl rfl ?_ | refine Ops.ld1 rfl rfl rfl rfl rfl ?_ | refine Ops.bin rfl rfl rfl rfl rfl ?_ | refine Ops.pickF rfl rfl rfl rfl rfl ?_ | ((fail_if_success refine Ops.probe rfl ?_); refine Ops.gF rfl rfl (by first | rfl | assumption | (simp only [decide_eq_true_eq, decide_eq_false_iff_not, Bool.not_eq_true', Bool.not_eq_false', Bool.not_eq_eq_eq_not, Bool.not_true, Bool.not_false, beq_iff_eq, beq_eq_false_iff_ne, ne_eq, decide_eq_decide, eq_self, true_iff, iff_true, not_true_eq_false, not_false_eq_true]; first | done | omega)) ?_))
      refine Ops.remI rfl rfl rfl rfl (by decide) rfl ?_
      rw [em]
      repeat' (first | refine Ops.mv rfl rfl rfl rfl ?_ | refine Ops.fa0 rfl rfl rfl rfl ?_ | refine Ops.ld1 rfl rfl rfl rfl rfl ?_ | refine Ops.ldN rfl rfl rfl rfl ?_ | refine Ops.bin rfl rfl rfl rfl rfl ?_ | refine Ops.pickF rfl rfl rfl rfl rfl ?_ | ((fail_if_success refine Ops.probe rfl ?_); refine Ops.gF rfl rfl (by first | rfl | assumption | (simp only [decide_eq_true_eq, decide_eq_false_iff_not, Bool.not_eq_true', Bool.not_eq_false', Bool.not_eq_eq_eq_not, Bool.not_true, Bool.not_false, beq_iff_eq, beq_eq_false_iff_ne, ne_eq, decide_eq_decide, eq_self, true_iff, iff_true, not_true_eq_false, not_false_eq_true]; first | done | omega)) ?_))
      refine Ops.call (sector_spec ⟨N, bt, sn, lg⟩ ⟨by show N < _; omega, by show bt < _; omega, by show sn < _; omega, by show lg < _; omega⟩) rfl (noPd rfl) rfl rfl rfl (fun v A' hR => ?_)
      obtain ⟨rfl, rfl⟩ := hR
      rw [← hse]
      repeat' (first | refine Ops.mv rfl rfl rfl rfl ?_ | refine Ops.fa0 rfl rfl rfl rfl ?_ | refine Ops.ld1 rfl rfl rfl rfl rfl ?_ | refine Ops.addI rfl rfl rfl rfl (by omega) (by omega) rfl ?_ | refine Ops.bin rfl rfl rfl rfl rfl ?_ | refine Ops.pickF rfl rfl rfl rfl rfl ?_ | ((fail_if_success refine Ops.probe rfl ?_); refine Ops.gF rfl rfl (by first | rfl | assumption | (simp only [decide_eq_true_eq, decide_eq_false_iff_not, Bool.not_eq_true', Bool.not_eq_false', Bool.not_eq_eq_eq_not, Bool.not_true, Bool.not_false, beq_iff_eq, beq_eq_false_iff_ne, ne_eq, decide_eq_decide, eq_self, true_iff, iff_true, not_true_eq_false, not_false_eq_true]; first | done | omega)) ?_))
      refine Ops.call (room_spec db x k D hD) rfl (by intro v A' hR i hi; obtain ⟨A2, hR, rfl⟩ := hR; obtain ⟨rfl, rfl⟩ := hR; (repeat (rcases List.mem_cons.1 hi with rfl | hi; · (first | exact Still.ld1 rfl rfl rfl rfl rfl | exact Still.ldN rfl rfl rfl rfl | exact Still.len rfl rfl rfl rfl rfl | exact Still.skip rfl rfl rfl | exact Still.ldRow1 rfl rfl rfl (by assumption) (by assumption) rfl rfl | exact Still.ldR rfl rfl rfl (by apply_assumption) rfl))); cases hi) rfl rfl rfl (fun v A' hR => ?_)
      obtain ⟨rfl, e⟩ := hR
      subst A'
      rw [← hrme]
      repeat' (first | refine Cd.seq ?_ | refine Cd.reg ?_ | refine Ops.nil ?_ | refine Ops.asg rfl rfl rfl rfl ?_ | refine Ops.bin rfl rfl rfl rfl rfl ?_ | refine Ops.pickF rfl rfl rfl rfl rfl ?_ | refine Ops.bld rfl rfl rfl rfl ?_ | refine Ops.stN rfl rfl rfl rfl rfl rfl (by first | exact noPd rfl | (intro v A' hR i hi; obtain rfl := hR; (repeat (rcases List.mem_cons.1 hi with rfl | hi; · (first | exact Still.ld1 rfl rfl rfl rfl rfl | exact Still.ldN rfl rfl rfl rfl | exact Still.len rfl rfl rfl rfl rfl | exact Still.skip rfl rfl rfl | exact Still.ldRow1 rfl rfl rfl (by assumption) (by assumption) rfl rfl | exact Still.ldR rfl rfl rfl (by apply_assumption) rfl))); cases hi)) ?_ | refine Cd.condT rfl (by first | rfl | assumption | (simp only [decide_eq_true_eq, decide_eq_false_iff_not, Bool.not_eq_true', Bool.not_eq_false', Bool.not_eq_eq_eq_not, Bool.not_true, Bool.not_false, beq_iff_eq, beq_eq_false_iff_ne, ne_eq, decide_eq_decide, eq_self, true_iff, iff_true, not_true_eq_false, not_false_eq_true]; first | done | omega)) ?_)
      exact Cd.ret (ret4 (A' := D) rfl (Res.cellN rfl) (Res.tmp rfl) (Res.tmp rfl) (Res.tmp rfl) (fun _ h => h.split) (.inl ⟨hbad2 (.inr (.inr c7)), 0, 0, 0, 0, _, rfl, rfl⟩))
    have c7' : ¬ ((rm : Nat) : Int) < (sn : Nat) + (lg : Nat) := by omega
    have hgo := hgo0 (by rintro (h | h | h); exact h c5; exact c6 h; exact c7 h)
    have hbz := bytesF_size hs (half := bt) (n := sn + lg) (by omega) (by omega)
    repeat' (first | refine Ops.mv rfl rfl rfl rfl ?_ | refine Ops.fa0 rfl rfl rfl rfl ?_ | refine Ops.ld1 rfl rfl rfl rfl rfl ?_ | refine Ops.bin rfl rfl rfl rfl rfl ?_ | refine Ops.pickF rfl rfl rfl rfl rfl ?_ | ((fail_if_success refine Ops.probe rfl ?_); refine Ops.gF rfl rfl (by first | rfl | assumption | (simp only [decide_eq_true_eq, decide_eq_false_iff_not, Bool.not_eq_true', Bool.not_eq_false', Bool.not_eq_eq_eq_not, Bool.not_true, Bool.not_false, beq_iff_eq, beq_eq_false_iff_ne, ne_eq, decide_eq_decide, eq_self, true_iff, iff_true, not_true_eq_false, not_false_eq_true]; first | done | omega)) ?_))
    refine Ops.remI rfl rfl rfl rfl (by decide) rfl ?_
    rw [em]
    repeat' (first | refine Ops.mv rfl rfl rfl rfl ?_ | refine Ops.fa0 rfl rfl rfl rfl ?_ | refine Ops.ld1 rfl rfl rfl rfl rfl ?_ | refine Ops.ldN rfl rfl rfl rfl ?_ | refine Ops.bin rfl rfl rfl rfl rfl ?_ | refine Ops.pickF rfl rfl rfl rfl rfl ?_ | ((fail_if_success refine Ops.probe rfl ?_); refine Ops.gF rfl rfl (by first | rfl | assumption | (simp only [decide_eq_true_eq, decide_eq_false_iff_not, Bool.not_eq_true', Bool.not_eq_false', Bool.not_eq_eq_eq_not, Bool.not_true, Bool.not_false, beq_iff_eq, beq_eq_false_iff_ne, ne_eq, decide_eq_decide, eq_self, true_iff, iff_true, not_true_eq_false, not_false_eq_true]; first | done | omega)) ?_))
    refine Ops.call (sector_spec ⟨N, bt, sn, lg⟩ ⟨by show N < _; omega, by show bt < _; omega, by show sn < _; omega, by show lg < _; omega⟩) rfl (noPd rfl) rfl rfl rfl (fun v A' hR => ?_)
    obtain ⟨rfl, rfl⟩ := hR
    rw [← hse]
    repeat' (first | refine Ops.mv rfl rfl rfl rfl ?_ | refine Ops.fa0 rfl rfl rfl rfl ?_ | refine Ops.ld1 rfl rfl rfl rfl rfl ?_ | refine Ops.addI rfl rfl rfl rfl (by omega) (by omega) rfl ?_ | refine Ops.bin rfl rfl rfl rfl rfl ?_ | refine Ops.pickF rfl rfl rfl rfl rfl ?_ | ((fail_if_success refine Ops.probe rfl ?_); refine Ops.gF rfl rfl (by first | rfl | assumption | (simp only [decide_eq_true_eq, decide_eq_false_iff_not, Bool.not_eq_true', Bool.not_eq_false', Bool.not_eq_eq_eq_not, Bool.not_true, Bool.not_false, beq_iff_eq, beq_eq_false_iff_ne, ne_eq, decide_eq_decide, eq_self, true_iff, iff_true, not_true_eq_false, not_false_eq_true]; first | done | omega)) ?_))
    refine Ops.call (room_spec db x k D hD) rfl (by intro v A' hR i hi; obtain ⟨A2, hR, rfl⟩ := hR; obtain ⟨rfl, rfl⟩ := hR; (repeat (rcases List.mem_cons.1 hi with rfl | hi; · (first | exact Still.ld1 rfl rfl rfl rfl rfl | exact Still.ldN rfl rfl rfl rfl | exact Still.len rfl rfl rfl rfl rfl | exact Still.skip rfl rfl rfl | exact Still.ldRow1 rfl rfl rfl (by assumption) (by assumption) rfl rfl | exact Still.ldR rfl rfl rfl (by apply_assumption) rfl))); cases hi) rfl rfl rfl (fun v A' hR => ?_)
    obtain ⟨rfl, e⟩ := hR
    subst A'
    rw [← hrme]
    repeat' (first | refine Cd.seq ?_ | refine Cd.reg ?_ | refine Ops.nil ?_ | refine Ops.mv rfl rfl rfl rfl ?_ | refine Ops.fa0 rfl rfl rfl rfl ?_ | refine Ops.ld1 rfl rfl rfl rfl rfl ?_ | refine Ops.addI rfl rfl rfl rfl (by omega) (by omega) rfl ?_ | refine Ops.bin rfl rfl rfl rfl rfl ?_ | refine Ops.pickF rfl rfl rfl rfl rfl ?_ | refine Cd.skip (Cd.next ?_) | refine Cd.condF rfl (by first | rfl | assumption | (simp only [decide_eq_true_eq, decide_eq_false_iff_not, Bool.not_eq_true', Bool.not_eq_false', Bool.not_eq_eq_eq_not, Bool.not_true, Bool.not_false, beq_iff_eq, beq_eq_false_iff_ne, ne_eq, decide_eq_decide, eq_self, true_iff, iff_true, not_true_eq_false, not_false_eq_true]; first | done | omega)) ?_)
    rw [hw]
    refine Ops.call (bytes_spec db x k D hD bt (sn + lg) hde (by omega) (by omega)) rfl (noPd rfl) rfl rfl rfl (fun v A' hR => ?_)
    obtain ⟨rfl, e⟩ := hR
    subst A'
    generalize bytesF x.S bt (sn + lg) = b at hgo hbz ⊢
    repeat' (first | refine Cd.seq ?_ | refine Cd.reg ?_ | refine Ops.mv rfl rfl rfl rfl ?_ | refine Ops.asg rfl rfl rfl rfl ?_ | refine Ops.fa0 rfl rfl rfl rfl ?_ | refine Ops.ld1 rfl rfl rfl rfl rfl ?_)
    refine Ops.slSLo rfl rfl rfl rfl (by omega) (by omega) rfl ?_
    rw [Int.toNat_natCast, hbz]
    refine Ops.callB (frames_spec B0 (b.extract sn (sn + lg)) (by rw [ByteArray.size_extract]; omega)) hB rfl (noPd rfl) rfl rfl rfl (fun v A' hR => ?_)
    rcases hR with ⟨hfr, rfl, rfl⟩ | ⟨l, sv, G, hfr, rfl, e, hsv⟩
    · rw [hfr] at hgo
      repeat' (first | refine Cd.seq ?_ | refine Ops.mv rfl rfl rfl rfl ?_ | refine Ops.asg rfl rfl rfl rfl ?_ | refine Ops.ext rfl rfl rfl rfl rfl ?_)
      refine Cd.draw [(0, 1, []), (1, 0, []), (2, 0, []), (3, 1, []), (4, 0, []), (5, 0, []), (6, 0, []), (7, 2, [3]), (8, 0, []), (9, 0, []), (10, 0, [])] (by kernel_rfl) (by kernel_rfl) (by simp only [picked, nth]; exact rfl) ?_
      repeat' (first | refine Ops.mv rfl rfl rfl rfl ?_ | refine Ops.fa0 rfl rfl rfl rfl ?_ | refine Ops.ld1 rfl rfl rfl rfl rfl ?_ | refine Ops.ldN rfl rfl rfl rfl ?_ | fail)
      refine Ops.slSHi rfl rfl rfl rfl (by omega) (by omega) rfl ?_
      repeat' (first | refine Ops.nil ?_ | refine Ops.mv rfl rfl rfl rfl ?_ | refine Ops.asg rfl rfl rfl rfl ?_ | refine Ops.stN rfl rfl rfl rfl rfl rfl (by first | exact noPd rfl | (intro v A' hR i hi; obtain rfl := hR; (repeat (rcases List.mem_cons.1 hi with rfl | hi; · (first | exact Still.ld1 rfl rfl rfl rfl rfl | exact Still.ldN rfl rfl rfl rfl | exact Still.len rfl rfl rfl rfl rfl | exact Still.skip rfl rfl rfl | exact Still.ldRow1 rfl rfl rfl (by assumption) (by assumption) rfl rfl | exact Still.ldR rfl rfl rfl (by apply_assumption) rfl))); cases hi)) ?_)
      exact Cd.ret (ret4 (A' := D) rfl (Res.cellN rfl) (Res.tmp rfl) (Res.tmp rfl) (Res.tmp rfl) (fun _ h => h.split) (.inl ⟨hgo, _, _, _, _, _, rfl, rfl⟩))
    · rw [hfr] at hgo
      subst A'
      repeat' (first | refine Cd.seq ?_ | refine Ops.mv rfl rfl rfl rfl ?_ | refine Ops.asg rfl rfl rfl rfl ?_ | refine Ops.ext rfl rfl rfl rfl rfl ?_)
      refine Cd.draw [(0, 1, []), (1, 0, []), (2, 0, []), (3, 1, []), (4, 0, []), (5, 0, []), (6, 0, []), (7, 2, [3]), (8, 0, []), (9, 0, []), (10, 0, [])] (by kernel_rfl) (by kernel_rfl) (by simp only [picked, nth]; exact rfl) ?_
      repeat' (first | refine Ops.mv rfl rfl rfl rfl ?_ | refine Ops.fa0 rfl rfl rfl rfl ?_ | refine Ops.ld1 rfl rfl rfl rfl rfl ?_ | refine Ops.ldN rfl rfl rfl rfl ?_ | fail)
      refine Ops.slSHi rfl rfl rfl rfl (by omega) (by omega) rfl ?_
      repeat' (first | refine Ops.nil ?_ | refine Ops.mv rfl rfl rfl rfl ?_ | refine Ops.asg rfl rfl rfl rfl ?_ | refine Ops.stN rfl rfl rfl rfl rfl rfl (by first | exact noPd rfl | (intro v A' hR i hi; obtain rfl := hR; (repeat (rcases List.mem_cons.1 hi with rfl | hi; · (first | exact Still.ld1 rfl rfl rfl rfl rfl | exact Still.ldN rfl rfl rfl rfl | exact Still.len rfl rfl rfl rfl rfl | exact Still.skip rfl rfl rfl | exact Still.ldRow1 rfl rfl rfl (by assumption) (by assumption) rfl rfl | exact Still.ldR rfl rfl rfl (by apply_assumption) rfl))); cases hi)) ?_)
      exact Cd.ret (ret4 (A' := G ++ D) rfl (Res.cellN rfl) (Res.tmp rfl) (Res.tmp rfl) (Res.tmp rfl) (fun _ h => h.split) (.inr ⟨_, _, l, sv, G, hgo, rfl, rfl, hsv⟩))
end Go.Proofs.YtkcmjgjfodipfaaGreat
