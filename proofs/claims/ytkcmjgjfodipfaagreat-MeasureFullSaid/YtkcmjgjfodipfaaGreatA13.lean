import Derived.Test.YtkcmjgjfodipfaaGreatA12
import Derived.Lib.Builder
import Derived.Lib.MakeNoZero
import Derived.Laws.Externs
namespace Go.Proofs.YtkcmjgjfodipfaaGreat
open Go Go.Sep Go.Proofs
set_option maxRecDepth 10000
set_option maxHeartbeats 4000000
set_option synthInstance.maxSize 2000
set_option linter.unusedSimpArgs false
set_option linter.unusedVariables false
/-! a disk is written -/
/-- What stands in a sector that was written so far. -/
def cutS (x s : ByteArray) (n : Nat) : ByteArray := x.extract 0 n ++ s.extract n 128
theorem cutS_size {x s : ByteArray} {n : Nat} (hx : x.size = 128) (hs : s.size = 128) (hn : n ≤ 128) : (cutS x s n).size = 128 := by simp [cutS, hx, hs]; omega
theorem cutS_full {x s : ByteArray} (hx : x.size = 128) : cutS x s 128 = x := by
  have h1 : x.extract 0 128 = x := by rw [← hx]; exact ByteArray.extract_zero_size
  have h2 : s.extract 128 128 = .empty := by simp
  rw [cutS, h1, h2, ByteArray.append_empty]
/-- The sectors, how it is armed, is it dead; the fault. -/
def writeD (S : List ByteArray) (ar bd : Int) (de : Bool) (i : Int) (x : ByteArray) : (List ByteArray × Int × Bool) × Int :=
  if de then ((S, ar, de), 2)
  else if ¬ (0 ≤ i ∧ i < S.length) then ((S, ar, de), 40)
  else if x.size ≠ 128 then ((S, ar, de), 41)
  else if ar = 1 then ((S.set i.toNat (cutS x (S.getD i.toNat .empty) bd.toNat), ar, true), 2)
  else ((S.set i.toNat x, max 0 (ar - 1), de), 0)
theorem dwrite_spec (db : Nat) (S : List ByteArray) (ar bd : Int) (de : Bool) (k : Nat) (D : List Blk) (hD : DiskA db S ar bd de k D) (i : Int) (x : ByteArray) (hk : k ≤ 1000000000000) (hb0 : 0 ≤ bd) (hb1 : bd ≤ 128) (har : 0 ≤ ar) (har2 : ar ≤ 9223372036854775807) :
    Con Tryz.prog 56 #[ptr db, .int .i64 i, .string x] D fun v A => v = .int .i64 (writeD S ar bd de i x).2 ∧ DiskA db (writeD S ar bd de i x).1.1 (writeD S ar bd de i x).1.2.1 bd (writeD S ar bd de i x).1.2.2 (k + 1) A := by
  have hD0 := hD
  obtain ⟨g, c, sp, rv, rows, H, rfl, hown, hk1, hc, hs⟩ := hD
  have hD1 : DiskA db S ar bd de (k + 1) (DkB db g c S.length rv ar bd de :: SeB g S sp :: H) := ⟨g, c, sp, rv, rows, H, rfl, hown, by omega, hc, hs⟩
  refine Con.intro (vs := [_, _, _]) Tryz.func56 rfl Tryz.ntmps56 rfl (fun B => ?_)
  unfold writeD
  cases de with
  | true =>
    repeat' (first | refine Cd.seq ?_ | refine Cd.reg ?_ | refine Ops.nil ?_ | refine Ops.mv rfl rfl rfl rfl ?_ | refine Ops.asg rfl rfl rfl rfl ?_ | refine Ops.nilP rfl rfl rfl rfl ?_ | refine Ops.fa0 rfl rfl rfl rfl ?_ | refine Ops.ld1 rfl rfl rfl rfl rfl ?_ | refine Cd.condT rfl rfl ?_ | refine Cd.block ?_)
    exact Cd.ret (ret1 (A' := DkB db g c S.length rv ar bd true :: SeB g S sp :: H) rfl (Res.tmp rfl) (fun _ h => h.split) ⟨rfl, hD1⟩)
  | false =>
    simp only [Bool.false_eq_true, if_false]
    repeat' (first | refine Cd.seq ?_ | refine Cd.reg ?_ | refine Ops.nil ?_ | refine Ops.mv rfl rfl rfl rfl ?_ | refine Ops.asg rfl rfl rfl rfl ?_ | refine Ops.nilP rfl rfl rfl rfl ?_ | refine Ops.fa0 rfl rfl rfl rfl ?_ | refine Ops.ld1 rfl rfl rfl rfl rfl ?_ | refine Cd.condF rfl rfl ?_ | refine Cd.block ?_)
    refine Ops.call (dis_spec db S ar bd false k _ hD0 i) rfl (noPd rfl) rfl rfl rfl (fun v A' hR => ?_)
    obtain ⟨rfl, rfl⟩ := hR
    by_cases hin : 0 ≤ i ∧ i < S.length
    · rw [decide_eq_true hin, if_neg (not_not_intro hin)]
      obtain ⟨h0, h1⟩ := hin
      have hi : S[i.toNat]? = some (S.getD i.toNat .empty) := by
        rw [List.getD_eq_getElem?_getD, List.getElem?_eq_getElem (by omega)]; rfl
      have hss := hs _ (List.mem_of_getElem? hi)
      by_cases hx : x.size = 128
      · rw [if_neg (not_not_intro hx)]
        have hfit : ∀ n, n ≤ 128 → i.toNat * 128 + n ≤ ((S.map bv).flatten ++ sp).length := fun n hn => by
          rw [List.length_append, (bv_rows hs).len, List.length_map]
          have : (i.toNat + 1) * 128 ≤ S.length * 128 := Nat.mul_le_mul_right _ (by omega)
          omega
        have hx' : (x.size : Int) = 128 := by omega
        by_cases h1r : ar = 1
        · rw [if_pos h1r]
          repeat' (first | refine Cd.seq ?_ | refine Cd.reg ?_ | refine Ops.nil ?_ | refine Ops.mv rfl rfl rfl rfl ?_ | refine Ops.asg rfl rfl rfl rfl ?_ | refine Ops.nilP rfl rfl rfl rfl ?_ | refine Ops.fa0 rfl rfl rfl rfl ?_ | refine Ops.ld1 rfl rfl rfl rfl rfl ?_ | refine Ops.lenStr rfl rfl rfl rfl ?_ | refine Ops.bin rfl rfl rfl rfl rfl ?_ | refine Ops.un rfl rfl rfl rfl ?_ | refine Cd.condF rfl rfl ?_ | refine Cd.condT rfl (by first | rfl | assumption | (simp only [decide_eq_true_eq, decide_eq_false_iff_not, Bool.not_eq_true', Bool.not_eq_false', Bool.not_eq_eq_eq_not, Bool.not_true, Bool.not_false, beq_iff_eq, beq_eq_false_iff_ne, ne_eq, decide_eq_decide, eq_self, true_iff, iff_true, not_true_eq_false, not_false_eq_true]; first | done | omega)) ?_ | refine Cd.condF rfl (by first | rfl | assumption | (simp only [decide_eq_true_eq, decide_eq_false_iff_not, Bool.not_eq_true', Bool.not_eq_false', Bool.not_eq_eq_eq_not, Bool.not_true, Bool.not_false, beq_iff_eq, beq_eq_false_iff_ne, ne_eq, decide_eq_decide, eq_self, true_iff, iff_true, not_true_eq_false, not_false_eq_true]; first | done | omega)) ?_)
          refine Cd.draw [(0, 0, []), (1, 0, []), (2, 0, []), (3, 1, []), (4, 0, []), (5, 0, []), (6, 0, []), (7, 0, []), (8, 0, []), (9, 1, []), (10, 0, []), (11, 0, []), (12, 2, [])] (by kernel_rfl) (by kernel_rfl) (by simp only [picked, nth]; exact rfl) ?_
          repeat' (first | refine Ops.mv rfl rfl rfl rfl ?_ | refine Ops.nilP rfl rfl rfl rfl ?_ | refine Ops.fa0 rfl rfl rfl rfl ?_ | refine Ops.ld1 rfl rfl rfl rfl rfl ?_ | refine Ops.ixa0 rfl rfl rfl rfl (by omega) (by omega) rfl ?_)
          refine Ops.slArHi rfl rfl rfl rfl hb0 hb1 rfl ?_
          repeat' (first | refine Ops.mv rfl rfl rfl rfl ?_)
          have hmin : min x.size bd.toNat = bd.toNat := by omega
          refine Ops.cpS (L' := ((S.set i.toNat (cutS x (S.getD i.toNat .empty) bd.toNat)).map bv).flatten ++ sp) rfl rfl rfl rfl (by rw [hmin]; exact hfit _ (by omega)) ?_ rfl (noPd rfl) ?_
          · rw [hmin, sec_set hs hi (by simp; omega) sp]
            simp only [cutS, ByteArray.size_extract, show min bd.toNat x.size - 0 = bd.toNat from by omega]
          repeat' (first | refine Cd.seq ?_ | refine Cd.reg ?_ | refine Ops.nil ?_ | refine Ops.mv rfl rfl rfl rfl ?_ | refine Ops.asg rfl rfl rfl rfl ?_ | refine Ops.nilP rfl rfl rfl rfl ?_ | refine Ops.fa0 rfl rfl rfl rfl ?_ | refine Ops.st1 rfl rfl rfl rfl rfl (noPd rfl) ?_)
          refine Cd.ret (ret1 (A' := DkB db g c S.length rv ar bd true :: SeB g (S.set i.toNat (cutS x (S.getD i.toNat .empty) bd.toNat)) sp :: H) rfl (Res.tmp rfl) (fun _ h => h.split) ⟨rfl, g, c, sp, rv, rows, H, by rw [List.length_set], hown, by omega, by rw [List.length_set]; exact hc, fun s hm => ?_⟩)
          rcases List.mem_or_eq_of_mem_set hm with hm | rfl
          · exact hs s hm
          · exact cutS_size hx hss (by omega)
        · rw [if_neg h1r]
          obtain ⟨a0, c0, hsv⟩ := hown.form
          subst hsv
          repeat' (first | refine Cd.seq ?_ | refine Cd.reg ?_ | refine Ops.nil ?_ | refine Ops.mv rfl rfl rfl rfl ?_ | refine Ops.asg rfl rfl rfl rfl ?_ | refine Ops.nilP rfl rfl rfl rfl ?_ | refine Ops.fa0 rfl rfl rfl rfl ?_ | refine Ops.ld1 rfl rfl rfl rfl rfl ?_ | refine Ops.lenStr rfl rfl rfl rfl ?_ | refine Ops.subI rfl rfl rfl rfl (by omega) (by omega) rfl ?_ | refine Ops.maxI rfl rfl rfl rfl rfl ?_ | refine Ops.bin rfl rfl rfl rfl rfl ?_ | refine Ops.un rfl rfl rfl rfl ?_ | refine Ops.st1 rfl rfl rfl rfl rfl (noPd rfl) ?_ | refine Cd.condF rfl rfl ?_ | refine Cd.skip (Cd.next (Q' := fun _ _ _ => True) ?_) | refine Ops.ixa0 rfl rfl rfl rfl (by omega) (by omega) rfl ?_ | refine Cd.condF rfl (by first | rfl | assumption | (simp only [decide_eq_true_eq, decide_eq_false_iff_not, Bool.not_eq_true', Bool.not_eq_false', Bool.not_eq_eq_eq_not, Bool.not_true, Bool.not_false, beq_iff_eq, beq_eq_false_iff_ne, ne_eq, decide_eq_decide, eq_self, true_iff, iff_true, not_true_eq_false, not_false_eq_true]; first | done | omega)) ?_)
          have hmin : min x.size 128 = 128 := by omega
          refine Ops.slAr rfl rfl rfl rfl ?_
          repeat' (first | refine Ops.mv rfl rfl rfl rfl ?_)
          refine Ops.cpS (L' := ((S.set i.toNat x).map bv).flatten ++ sp) rfl rfl rfl rfl (by rw [hmin]; exact hfit _ (by omega)) ?_ rfl (noPd rfl) ?_
          · rw [hmin, sec_set hs hi (by simp; omega) sp, ByteArray.size_extract, show min 128 x.size - 0 = 128 from by omega]
            have h9 := cutS_full (s := S.getD i.toNat .empty) hx
            rw [cutS] at h9
            rw [h9]
          repeat' (first | refine Cd.seq ?_ | refine Cd.reg ?_ | refine Ops.mv rfl rfl rfl rfl ?_ | refine Ops.nilP rfl rfl rfl rfl ?_ | refine Ops.fa0 rfl rfl rfl rfl ?_ | refine Ops.ld1 rfl rfl rfl rfl rfl ?_ | refine Ops.bld rfl rfl rfl rfl ?_ | refine Ops.bs1 rfl rfl rfl rfl rfl rfl rfl (noPd rfl) (fun b => ?_))
          refine Ops.app1 hown (by omega) (by omega) rfl rfl rfl rfl (by rfl) (by rfl) rfl (noPd rfl) rfl (fun v' G' hG' => ?_)
          obtain ⟨a1, c1, rfl⟩ := hG'.form
          repeat' (first | refine Cd.seq ?_ | refine Cd.reg ?_ | refine Ops.nil ?_ | refine Ops.asg rfl rfl rfl rfl ?_ | refine Ops.nilP rfl rfl rfl rfl ?_ | refine Ops.fa0 rfl rfl rfl rfl ?_ | refine Ops.st1 rfl rfl rfl rfl rfl (noPd rfl) ?_)
          refine Cd.ret (ret1 (A' := DkB db g c S.length _ (max 0 (ar - 1)) bd false :: SeB g (S.set i.toNat x) sp :: G') rfl (Res.tmp rfl) (fun _ h => h.split) ⟨rfl, g, c, sp, _, _, G', by rw [List.length_set], hG', by simp; omega, by rw [List.length_set]; exact hc, fun s hm => ?_⟩)
          rcases List.mem_or_eq_of_mem_set hm with hm | rfl
          · exact hs s hm
          · exact hx
      · rw [if_pos hx]
        have hx' : ¬ (x.size : Int) = 128 := by omega
        repeat' (first | refine Cd.seq ?_ | refine Cd.reg ?_ | refine Ops.nil ?_ | refine Ops.mv rfl rfl rfl rfl ?_ | refine Ops.asg rfl rfl rfl rfl ?_ | refine Ops.lenStr rfl rfl rfl rfl ?_ | refine Ops.bin rfl rfl rfl rfl rfl ?_ | refine Ops.un rfl rfl rfl rfl ?_ | refine Cd.condF rfl rfl ?_ | refine Cd.condT rfl (by first | rfl | assumption | (simp only [decide_eq_true_eq, decide_eq_false_iff_not, Bool.not_eq_true', Bool.not_eq_false', Bool.not_eq_eq_eq_not, Bool.not_true, Bool.not_false, beq_iff_eq, beq_eq_false_iff_ne, ne_eq, decide_eq_decide, eq_self, true_iff, iff_true, not_true_eq_false, not_false_eq_true]; first | done | omega)) ?_)
        exact Cd.ret (ret1 (A' := DkB db g c S.length rv ar bd false :: SeB g S sp :: H) rfl (Res.tmp rfl) (fun _ h => h.split) ⟨rfl, hD1⟩)
    · rw [decide_eq_false hin, if_pos hin]
      repeat' (first | refine Cd.seq ?_ | refine Cd.reg ?_ | refine Ops.nil ?_ | refine Ops.asg rfl rfl rfl rfl ?_ | refine Ops.un rfl rfl rfl rfl ?_ | refine Cd.condT rfl rfl ?_)
      exact Cd.ret (ret1 (A' := DkB db g c S.length rv ar bd false :: SeB g S sp :: H) rfl (Res.tmp rfl) (fun _ h => h.split) ⟨rfl, hD1⟩)
end Go.Proofs.YtkcmjgjfodipfaaGreat
/- What a builder of texts has: a row of bytes, whose beginning a text may share; functions without a body. -/
namespace Go.Sep
open Go
set_option linter.unusedSimpArgs false
/-- A row of cells whose first f a text shares. -/
def clF (l : List Value) (E : TypeId) (f : Nat) : Obj := .cells l.toArray E (0, f)
/-- The bytes that a slice value has; its blocks. -/
def BG (E : TypeId) (sv : Value) (s : ByteArray) (G : List Blk) : Prop :=
  (sv = .slice none 0 0 ∧ s = .empty ∧ G = []) ∨ ∃ g c sp f, sv = .slice (some ⟨g, 0, none⟩) s.size c ∧ G = [(g, clF (bv s ++ sp) E f)] ∧ f ≤ s.size ∧ s.size + sp.length = c ∧ 0 < c
theorem BG.none {E : TypeId} : BG E (.slice none 0 0) .empty [] := .inl ⟨rfl, rfl, rfl⟩
theorem BG.form {E : TypeId} {sv : Value} {s : ByteArray} {G : List Blk} (h : BG E sv s G) : ∃ a c, sv = .slice a s.size c := by
  rcases h with ⟨rfl, rfl, _⟩ | ⟨g, c, sp, f, rfl, _⟩
  · exact ⟨_, _, rfl⟩
  · exact ⟨_, _, rfl⟩
section
variable {P : Program} {B : Base}
theorem clF_cell {w : World} {b : Nat} {l : List Value} {E : TypeId} {f : Nat} (h : w.heap[b]? = some (clF l E f)) (off : Nat) : w.cell? ⟨b, off, none⟩ = l[off]? := by
  simp [World.cell?, h, clF]
theorem run_storeF {A1 A2 : List Blk} {b : Nat} {E : TypeId} {off f : Nat} (hf : f ≤ off) (vs : List Value) : ∀ (i : Nat) (l : List Value) (w : World), Sat B (A1 ++ (b, clF l E f) :: A2) w →
    (∀ u ∈ vs, u.oneCell' = true) → off + i + vs.length ≤ l.length →
    ∃ w', (storeCells ⟨b, off, none⟩ vs i).run P w = .ok () w' ∧ Sat B (A1 ++ (b, clF (ins l (off + i) vs) E f) :: A2) w' := by
  induction vs with
  | nil => intro i l w h _ _; exact ⟨w, by simp [storeCells], by rw [ins_nil]; exact h⟩
  | cons v vs ih =>
    intro i l w h h1 hlen
    simp only [List.length_cons] at hlen
    have hb := h.here (b, clF l E f) (List.mem_append_right _ (List.mem_cons_self ..))
    have hst : Sat B (A1 ++ (b, clF (l.set (off + i) v) E f) :: A2) (w.setCell ⟨b, off + i, Option.none⟩ v) := by
      refine h.put rfl rfl rfl ?_ fun n hn => ?_
      · simp only [clF] at hb ⊢
        simp [World.setCell, Array.getElem?_modify, hb]
      · simp [World.setCell, Array.getElem?_modify, Ne.symm hn]
    obtain ⟨w', hr, hS⟩ := ih (i + 1) (l.set (off + i) v) _ hst (fun u hu => h1 u (List.mem_cons_of_mem _ hu)) (by simp; omega)
    refine ⟨w', ?_, ?_⟩
    · simp only [storeCells, Sem.run_bind, add_none]
      have hfr : w.frozen? ⟨b, off + i, Option.none⟩ = false := by
        simp only [World.frozen?, hb, clF]
        simp; omega
      rw [run_store P w _ v .plain (h1 v (List.mem_cons_self ..)), clF_cell hb, hfr, List.getElem?_eq_getElem (by omega)]
      simpa using hr
    · rw [ins_cons (by omega)]; exact hS
/-- append of a text. -/
theorem run_appendS {w : World} {t ts ty e bs : Nat} {zc : List Value} (ht : TyD P t (.slice e)) (hts : TyD P ts .string) (he : Ty P e false 1 bs zc) (hzc : zc.length = 1) (hbs : bs ≤ 8) {sv : Value} {s x : ByteArray} {G F : List Blk} (hS : Sat B (G ++ F) w) (hb : BG e sv s G) (hsz : s.size + x.size ≤ 1000000000000) :
    effPost P B (fun v X => ∃ G', BG e v (s ++ x) G' ∧ X = G' ++ F) ((do pure (Next.value (← Builtin.append_ #[t, ts] ty #[sv, .string x])) : Sem Next).run P w) := by
  obtain ⟨a, c, hsv⟩ := hb.form
  obtain ⟨i, hi, his, hib⟩ := he.run_info (w := w)
  have hfc : ∀ w' : World, (Builtin.firstCells 1 x.size (.string x)).run P w' = .ok (bv x).toArray w' := fun w' => by
    have := bv_arr x x.size
    simp only [ByteArray.extract_zero_size] at this
    simp only [Builtin.firstCells, ByteArray.extract_zero_size, this, Sem.run_pure]
  by_cases hcap : s.size + x.size ≤ c
  · rcases hb with ⟨h1, h2, h3⟩ | ⟨g, c', sp, f, h1, h2, h3, h4, h5⟩
    · subst h2; subst h3
      rw [hsv] at h1
      injection h1 with h1 h1' h1''
      subst h1
      have hx0 : x.size = 0 := by simp at hcap; omega
      have hxe : x = .empty := ByteArray.size_eq_zero_iff.1 hx0
      subst hxe
      have : (Builtin.append_ #[t, ts] ty #[sv, .string .empty]).run P w = .ok sv w := by
        have := hfc w
        simp only [ByteArray.size_empty] at this
        simp [Builtin.append_, ht.run_und, hts.run_und, he.run_size, hsv, h1'', Builtin.lenOf, this, bv_empty]
      simp only [Sem.run_bind, this, Result.andThen_ok, Sem.run_pure, effPost]
      exact ⟨F, ⟨[], by rw [hsv]; simpa [h1''] using (BG.none (E := e)), rfl⟩, by simpa using hS⟩
    · rw [hsv] at h1
      injection h1 with h1 h1' h1''
      subst h1; subst h1''; subst h2
      obtain ⟨w', hr, hS'⟩ := run_storeF (P := P) (A1 := []) (A2 := F) (b := g) (E := e) (off := s.size) h3 (bv x) 0 (bv s ++ sp) w (by simpa using hS) (oneAll_bv x) (by rw [List.length_append, bv_len, bv_len]; omega)
      have : (Builtin.append_ #[t, ts] ty #[sv, .string x]).run P w = .ok (.slice (some ⟨g, 0, Option.none⟩) (s.size + x.size) c) w' := by
        simp [Builtin.append_, ht.run_und, hts.run_und, he.run_size, hsv, Builtin.lenOf, hcap, hfc, add_none, hr]
      simp only [Sem.run_bind, this, Result.andThen_ok, Sem.run_pure, effPost]
      refine ⟨_, ⟨[(g, clF (ins (bv s ++ sp) (s.size + 0) (bv x)) e f)], .inr ⟨g, c, sp.drop x.size, f, by rw [ByteArray.size_append], ?_, by rw [ByteArray.size_append]; omega, by rw [ByteArray.size_append, List.length_drop]; omega, h5⟩, rfl⟩, by simpa using hS'⟩
      have e1 : ins (bv s ++ sp) (s.size + 0) (bv x) = bv s ++ bv x ++ sp.drop (bv x).length := by rw [Nat.add_zero, ← bv_len]; exact ins_app _ _ _
      rw [e1, bv_len, bv_app]
  · have hle := nextcap_le (need := s.size + x.size) (c := c) (by omega)
    have hb2 : ¬ (Builtin.nextslicecap (s.size + x.size) c * bs > 2 ^ 48) := by
      have h1 := Nat.mul_le_mul_right bs hle
      have h2 := Nat.mul_le_mul_left (s.size + x.size + (s.size + x.size) / 4 + 512) hbs
      rw [show (2:Nat) ^ 48 = 281474976710656 from rfl]
      omega
    have hm2 : ¬ (IntKind.i64.max < (s.size : Int) + (x.size : Int)) := by
      rw [show IntKind.i64.max = 9223372036854775807 from rfl]
      omega
    obtain ⟨z, hz, hzcell⟩ := he.run_zero (w := w.drew)
    have hold : ∀ w', Sat B (G ++ F) w' → (Builtin.firstCells 1 s.size sv).run P w' = .ok (bv s).toArray w' := by
      intro w' hS'
      rcases hb with ⟨h1, h2, h3⟩ | ⟨g, c', sp, f, h1, h2, h3, h4, h5⟩
      · subst h1; subst h2
        simp [Builtin.firstCells, bv_empty]
      · subst h2; subst h1
        simp only [Builtin.firstCells, Nat.mul_one]
        exact run_loadCells (bv_len s) fun j u hu => by
          rw [Nat.zero_add, clF_cell (hS'.here (g, clF (bv s ++ sp) e f) (by simp)), List.getElem?_append_left (List.getElem?_eq_some_iff.1 hu).1, hu]
    generalize hq : Question.appendCap (s.size + x.size) c e = q
    have hfo : q.forced = false := by subst hq; rfl
    have hcut : s.size + x.size ≤ q.cut (w.tape w.drawn q) := by
      subst hq
      simp only [Question.cut]
      omega
    have hS2 : Sat B (G ++ F) w.drew := hS.drew
    obtain ⟨i3, hi3, his3, hib3⟩ := he.run_info (w := w.drew)
    generalize hnce : q.cut (w.tape w.drawn q) = nc at hcut
    have hrest : (Builtin.zeroCells zc.toArray (nc - (s.size + x.size))).size = nc - (s.size + x.size) := by
      simp [Builtin.zeroCells, hzc]
    have : (Builtin.append_ #[t, ts] ty #[sv, .string x]).run P w =
        .ok (.slice (some ⟨w.heap.size, 0, Option.none⟩) (s.size + x.size) nc) (w.drew.alloc (.cells ((bv s).toArray ++ (bv x).toArray ++ Builtin.zeroCells zc.toArray (nc - (s.size + x.size))) e)) := by
      unfold Builtin.append_
      clear hle
      generalize (2:Nat) ^ 48 = M at hb2 ⊢
      generalize IntKind.i64.max = M2 at hm2 ⊢
      have hold2 := hold _ hS2
      have hx2 := hfc w.drew
      rw [hsv] at hold2
      simp [ht.run_und, hts.run_und, he.run_size, hsv, Builtin.lenOf, hcap, hi, hib, hm2, hb2, hq, hfo, hnce, hi3, hold2, hx2, hz, hzcell, newRow]
      simp only [← List.append_toArray, Array.append_assoc]
    simp only [Sem.run_bind, this, Result.andThen_ok, Sem.run_pure, effPost]
    have hnc : 0 < nc := by
      rcases Nat.eq_zero_or_pos nc with h | h
      · omega
      · exact h
    refine ⟨_, ⟨[(w.heap.size, clF (bv (s ++ x) ++ (Builtin.zeroCells zc.toArray (nc - (s.size + x.size))).toList) e 0)], .inr ⟨w.heap.size, nc, _, 0, by rw [ByteArray.size_append], rfl, Nat.zero_le _, by rw [ByteArray.size_append, Array.length_toList, hrest]; omega, hnc⟩, rfl⟩, ?_⟩
    have h9 := hS2.right.alloc (.cells ((bv s).toArray ++ (bv x).toArray ++ Builtin.zeroCells zc.toArray (nc - (s.size + x.size))) e)
    have e9 : (Obj.cells ((bv s).toArray ++ (bv x).toArray ++ Builtin.zeroCells zc.toArray (nc - (s.size + x.size))) e) = clF (bv (s ++ x) ++ (Builtin.zeroCells zc.toArray (nc - (s.size + x.size))).toList) e 0 := by
      simp [clF, bv_app]
    rw [e9] at h9 ⊢
    exact h9
/-- The bytes of a row, as a text that shares them. -/
theorem run_us {w : World} {pt it ty e : Nat} (hp : TyD P pt (.pointer e)) (hc : P.cellsOf e = 1) {A1 A2 : List Blk} {g f n : Nat} {s : ByteArray} {L : List Value} (hS : Sat B (A1 ++ (g, clF L e f) :: A2) w) (hn : s.size = n) (hL : ∀ (j : Nat) (u : Value), (bv s)[j]? = some u → L[j]? = some u) (hle : s.size ≤ L.length) (h0 : 0 < n) (hf : f ≤ n) (h63 : n ≤ 9223372036854775807) :
    ∃ w', (Builtin.unsafeString_ #[pt, it] ty #[.pointer (some ⟨g, 0, none⟩), .int .i64 n]).run P w = .ok (.string s) w' ∧ Sat B (A1 ++ (g, clF L e n) :: A2) w' := by
  have hb := hS.here (g, clF L e f) (List.mem_append_right _ (List.mem_cons_self ..))
  have hsl : s.data.toList.length = n := by rw [← hn]; rfl
  have h1 := Lib.run_unsafeString_row (P := P) (w := w) pt it ty e hp.und hc g L.length (by simp [World.shape?, hb, clF]) s.data.toList (fun h => by rw [h] at hsl; simp at hsl; omega) (by rw [hsl]; omega) (by rw [hsl]; omega) (fun j x hx => by
    rw [add_none, Nat.zero_add, clF_cell hb]
    exact hL j _ (by simp only [bv, List.getElem?_map, hx, Option.map_some]))
  refine ⟨w.freeze ⟨g, 0, none⟩ n, ?_, ?_⟩
  · rw [hsl] at h1
    exact h1
  · have hn0 : ¬ n = 0 := by omega
    refine hS.put (by simp [World.freeze, hn0]) (by simp [World.freeze, hn0]) (by simp [World.freeze, hn0]) ?_ fun m hm => ?_
    · simp only [World.freeze, hn0, if_false, Array.getElem?_modify, if_true, hb, Option.map_some, clF]
      congr 2
      by_cases hz : f = 0
      · subst hz; simp
      · have : ¬ (0 = f) := fun h => hz h.symm
        simp [this]; omega
    · simp [World.freeze, hn0, Array.getElem?_modify, Ne.symm hm]
end
/-- A function without a body. -/
class ExtOk (P : Program) (f : FuncId) (e : outParam (Array Value → Sem Value)) : Prop where
  ok : ∃ fn, P.funcs[f]? = some fn ∧ (fn.name == "runtime.NumGoroutine") = false ∧ fn.body.isNone = true ∧ Extern.findNext fn = none ∧ Extern.find fn = some e
section
variable {P : Program} {N : Fi} {B : Base} {Q : Exit → Act → World → Prop} {T : Tm} {A : List Blk} {ops : Array Oper} {l : List Oper}
variable {d : Nat} {ty : TypeId} {pos : String} {af : Array Edge} {m : Md} {gd : Option (Nat × Bool)}
theorem ExtOk.run {f : FuncId} {e : Array Value → Sem Value} (h : ExtOk P f e) {a : Act} {w : World} {xs : List Operand} {vs : List Value} {ats : Array TypeId} (hF : Fr N T a) (hx : evs T xs = some vs) :
    (execOp a.eval ⟨some d, .call { callee := .value (.func f), args := xs.toArray, argTypes := ats }, ty, pos, af, gd⟩).run P w = ((e vs.toArray).run P w).andThen fun v w' => .ok (.value v) w' := by
  obtain ⟨fn, h1, h2, h3, h4, h5⟩ := h.ok
  simp [execOp, resolve, Act.eval, Deferred.ofValue, invoke, hF.evals hx, run_callFunc_extern h1 h2 h3 h4 h5]
/-- A call of one, in the text's order or not: its value. -/
theorem Ops.extR {f : FuncId} {e : Array Value → Sem Value} {xs : List Operand} {vs : List Value} {ats : Array TypeId} {v : Value} (hm : m.eff = true) (hg : gst ops T gd = some true) [h : ExtOk P f e] (hx : evs T xs = some vs) (hr : ∀ w : World, (e vs.toArray).run P w = .ok v w) (hd : Nat.blt d N.n = true)
    (hp : Pd P N B ops m T (some d) (fun u X => u = v ∧ X = A)) (k : Ops P N B Q ops m.tl l ((d, v) :: T) A) : Ops P N B Q ops m (⟨some d, .call { callee := .value (.func f), args := xs.toArray, argTypes := ats }, ty, pos, af, gd⟩ :: l) T A :=
  Ops.effV hm hp hg hd (fun a w hF hS => by
    rw [h.run hF hx, hr w]
    exact ⟨A, ⟨rfl, rfl⟩, hS⟩) fun u X ⟨h1, h2⟩ => by rw [h1, h2]; exact k
/-- bytealg.MakeNoZero. -/
theorem Ops.mkNZ {f : FuncId} {ps : Array TypeId} {t e : TypeId} {n : Nat} {xs : List Operand} {ats : Array TypeId} (hm : m.eff = true) (hg : gst ops T gd = some true) [h : ExtOk P f (Extern.BytealgMakeNoZero.makeNoZero ps #[t])] [ht : TyD P t (.slice e)] (hx : evs T xs = some [.int .i64 n]) (h1 : n ≤ 1000000000) (hd : Nat.blt d N.n = true)
    (hp : Pd P N B ops m T (some d) (fun v X => ∃ b cs, v = .slice (some ⟨b, 0, none⟩) n cs.length ∧ n ≤ cs.length ∧ X = (b, cl cs e) :: A)) (k : ∀ b cs, n ≤ cs.length → Ops P N B Q ops m.tl l ((d, .slice (some ⟨b, 0, none⟩) n cs.length) :: T) ((b, cl cs e) :: A)) :
    Ops P N B Q ops m (⟨some d, .call { callee := .value (.func f), args := xs.toArray, argTypes := ats }, ty, pos, af, gd⟩ :: l) T A :=
  Ops.effV hm hp hg hd (fun a w hF hS => by
    obtain ⟨cs, hr, hc, _⟩ := Lib.run_makeNoZero (P := P) w ps t e ht.und n (by omega)
    rw [h.run hF hx, hr]
    have := (hS.drew.drew).alloc (.cells cs e)
    exact ⟨_, ⟨w.heap.size, cs.toList, by rw [Array.length_toList], by rw [Array.length_toList]; exact hc, rfl⟩, this⟩) fun v X ⟨b, cs, h1, h2, h3⟩ => by rw [h1, h3]; exact k b cs h2
/-- append of a text to a builder's bytes. -/
theorem Ops.appG {t ts e bs : Nat} {x y : Operand} {sv : Value} {s u : ByteArray} {G F : List Blk} {zc : List Value} (hown : BG e sv s G) (hsz : s.size + u.size ≤ 1000000000000) (hm : m.eff = true) (hg : gst ops T gd = some true) [ht : TyD P t (.slice e)] [hts : TyD P ts .string] [he : Ty P e false 1 bs zc] (hzc : zc.length = 1) (hbs : bs ≤ 8)
    (hx : ev T x = some sv) (hy : ev T y = some (.string u)) [hs : Split A G F] (hd : Nat.blt d N.n = true) (hp : Pd P N B ops m T (some d) (fun v X => ∃ G', BG e v (s ++ u) G' ∧ X = G' ++ F))
    (k : ∀ v G', BG e v (s ++ u) G' → Ops P N B Q ops m.tl l ((d, v) :: T) (G' ++ F)) : Ops P N B Q ops m (⟨some d, .call { callee := .builtin .append, args := #[x, y], argTypes := #[t, ts] }, ty, pos, af, gd⟩ :: l) T A :=
  Ops.effV hm hp hg hd (fun a w hF hS => by
    have := run_appendS (P := P) (w := w) (ty := ty) (ts := ts) (x := u) ht hts he hzc hbs (hS.perm hs.perm) hown hsz
    simp only [execOp, resolve, invoke, builtin, Sem.run_bind, Sem.run_pure, Result.andThen_ok, List.map_toArray, List.map_cons, List.map_nil, hF.eval hx, hF.eval hy] at this ⊢
    exact this) fun v X ⟨G', h1, h2⟩ => by rw [h2]; exact k v G' h1
/-- unsafe.SliceData. -/
theorem Ops.usd {t : TypeId} {x : Operand} {a0 : Option Addr} {n c : Nat} (hm : m.eff = true) (hg : gst ops T gd = some true) (hx : ev T x = some (.slice a0 n c)) (hc : a0 = none ∨ 0 < c) (hd : Nat.blt d N.n = true) (hp : Pd P N B ops m T (some d) (fun u X => u = .pointer a0 ∧ X = A)) (k : Ops P N B Q ops m.tl l ((d, .pointer a0) :: T) A) :
    Ops P N B Q ops m (⟨some d, .call { callee := .builtin .unsafeSliceData, args := #[x], argTypes := #[t] }, ty, pos, af, gd⟩ :: l) T A :=
  Ops.effV hm hp hg hd (fun a w hF hS => by
    have : ∀ tt, (Builtin.unsafeSliceData_ #[t] tt #[.slice a0 n c]).run P w = .ok (.pointer a0) w := fun tt => by
      cases a0 with
      | none => exact Lib.run_unsafeSliceData_nil w _ _ _ _
      | some a => exact Lib.run_unsafeSliceData_row w _ _ _ _ _ (by rcases hc with h | h <;> first | omega | cases h)
    simp only [execOp, resolve, invoke, builtin, Sem.run_bind, Sem.run_pure, Result.andThen_ok, List.map_toArray, List.map_cons, List.map_nil, hF.eval hx, this, effPost]
    exact ⟨A, ⟨trivial, rfl⟩, hS⟩) fun u X ⟨h1, h2⟩ => by rw [h1, h2]; exact k
/-- unsafe.String of a builder's bytes. -/
theorem Ops.us {pt it e : TypeId} {x y : Operand} {a0 : Option Addr} {n c : Nat} {s : ByteArray} {G F : List Blk} (hb : BG e (.slice a0 n c) s G) (hm : m.eff = true) (hg : gst ops T gd = some true) [hp' : TyD P pt (.pointer e)] (hc : P.cellsOf e = 1) (hx : ev T x = some (.pointer a0)) (hy : ev T y = some (.int .i64 n)) (h63 : n ≤ 9223372036854775807) [hs : Split A G F] (hd : Nat.blt d N.n = true)
    (hp : Pd P N B ops m T (some d) (fun u X => ∃ G', u = .string s ∧ BG e (.slice a0 n c) s G' ∧ X = G' ++ F)) (k : ∀ G', BG e (.slice a0 n c) s G' → Ops P N B Q ops m.tl l ((d, .string s) :: T) (G' ++ F)) :
    Ops P N B Q ops m (⟨some d, .call { callee := .builtin .unsafeString, args := #[x, y], argTypes := #[pt, it] }, ty, pos, af, gd⟩ :: l) T A :=
  Ops.effV hm hp hg hd (fun a w hF hS => by
    have hn : n = s.size := by
      obtain ⟨a1, c1, h⟩ := hb.form
      injection h
    have hS' := hS.perm hs.perm
    have hr : ∃ (w' : World) (G' : List Blk), (Builtin.unsafeString_ #[pt, it] ty #[.pointer a0, .int .i64 n]).run P w = .ok (.string s) w' ∧ BG e (.slice a0 n c) s G' ∧ Sat B (G' ++ F) w' := by
      rcases Nat.eq_zero_or_pos n with h0 | h0
      · have hse : s = .empty := ByteArray.size_eq_zero_iff.1 (by omega)
        refine ⟨w, G, ?_, hb, hS'⟩
        rw [hse, h0]
        exact Lib.run_unsafeString_none w pt it ty a0
      · rcases hb with ⟨h1, h2, _⟩ | ⟨g, c', sp, f, h1, h2, h3, h4, h5⟩
        · subst h2; simp at hn; omega
        · injection h1 with h1 h1' h1''
          subst h1; subst h2; subst h1''
          obtain ⟨w', hr, hS2⟩ := run_us (P := P) (it := it) (ty := ty) hp' hc (A1 := []) (A2 := F) (n := n) (by simpa using hS') hn.symm (fun j u hu => by rw [List.getElem?_append_left (List.getElem?_eq_some_iff.1 hu).1, hu]) (by rw [List.length_append, bv_len]; omega) h0 (by omega) h63
          exact ⟨w', [(g, clF (bv s ++ sp) e n)], hr, .inr ⟨g, c, sp, n, by rw [hn], rfl, by omega, h4, h5⟩, by simpa using hS2⟩
    obtain ⟨w', G', hr, hB, hS2⟩ := hr
    simp only [execOp, resolve, invoke, builtin, Sem.run_bind, Sem.run_pure, Result.andThen_ok, List.map_toArray, List.map_cons, List.map_nil, hF.eval hx, hF.eval hy, hr, effPost]
    exact ⟨_, ⟨G', trivial, hB, rfl⟩, hS2⟩) fun u X ⟨G', h1, h2, h3⟩ => by rw [h1, h3]; exact k G' h2
/-- Pointers and unsafe pointers. -/
theorem Ops.toU {s t u : TypeId} {gu : Bool} {x : Operand} {b off sz bs : Nat} {zc L : List Value} {E : TypeId} (hm : m.rd false = true) (hg : gst ops T gd = some true) [hs : TyD P s (.pointer u)] [ht : TyD P t .unsafePointer] [hu : Ty P u gu sz bs zc] (hsz : sz ≠ 0) (hx : ev T x = some (.pointer (some ⟨b, off, none⟩))) [hb : Has A b (cl L E)] (hoff : off < L.length) (hd : Nat.blt d N.n = true)
    (k : Ops P N B Q ops m.tl l ((d, .pointer (some ⟨b, off, none⟩)) :: T) A) : Ops P N B Q ops m (⟨some d, .convert s t x, ty, pos, af, gd⟩ :: l) T A :=
  Ops.readV hm hg hd (fun a w hF hS => by
    obtain ⟨i, z, hi, _, _, hs', _⟩ := hu.get
    have := Lib.run_to_unsafe (P := P) (w := w) ⟨b, off, none⟩ hs.und ht.und hi (by rw [hs']; exact hsz) (e := E) (cells := L.length) (by simp [World.shape?, hS.here _ hb.mem, cl]) hoff
    simp [execOp, hF.eval hx, this]) k
theorem Ops.fromU {s t u : TypeId} {gu : Bool} {x : Operand} {b sz bs : Nat} {zc L : List Value} (hm : m.rd false = true) (hg : gst ops T gd = some true) [hs : TyD P s .unsafePointer] [ht : TyD P t (.pointer u)] [hu : Ty P u gu sz bs zc] (hl : liesAt P P.depth u (L.length / P.cellsOf u) 0 u 1 = true) (hx : ev T x = some (.pointer (some ⟨b, 0, none⟩))) [hb : Has A b (cl L u)] (hd : Nat.blt d N.n = true)
    (k : Ops P N B Q ops m.tl l ((d, .pointer (some ⟨b, 0, none⟩)) :: T) A) : Ops P N B Q ops m (⟨some d, .convert s t x, ty, pos, af, gd⟩ :: l) T A :=
  Ops.readV hm hg hd (fun a w hF hS => by
    obtain ⟨i, z, hi, _, _, hs', _⟩ := hu.get
    have := Lib.run_from_unsafe (P := P) (w := w) ⟨b, 0, none⟩ hs.und ht.und hi (e := u) (cells := L.length) (by simp [World.shape?, hS.here _ hb.mem, cl]) hl
    simp [execOp, hF.eval hx, this]) k
/-- The capacity of a slice. -/
theorem Ops.capS {t : TypeId} {x : Operand} {at' : Option Addr} {n c : Nat} {e : TypeId} (hm : m.rd true = true) (hg : gst ops T gd = some true) [ht : TyD P t (.slice e)] (hx : ev T x = some (.slice at' n c)) (hd : Nat.blt d N.n = true)
    (k : Ops P N B Q ops m.tl l ((d, .int .i64 c) :: T) A) : Ops P N B Q ops m (⟨some d, .call { callee := .builtin .cap, args := #[x], argTypes := #[t] }, ty, pos, af, gd⟩ :: l) T A :=
  Ops.pureV hm hg hd (fun a w hF => by simp [execOp, resolve, invoke, builtin, Builtin.cap_, hF.eval hx, ht.run_und, goInt]) k
end
section
variable {P : Program} {t : TypeId}
theorem eqIn_ptrSame {e : TypeId} [h : TyD P t (.pointer e)] {g : Bool} {sz bs : Nat} {zc : List Value} [he : Ty P e g sz bs zc] {a : Addr} {w : World} (hsz : sz ≠ 0) (d : Nat) : (Op.equalIn (d + 1) t (.pointer (some a)) (.pointer (some a))).run P w = .ok true w := by
  obtain ⟨i, z, hi, _, _, hs, _⟩ := he.get
  simp [Op.equalIn, h.run_und, he.run_size, hsz, samePointer, sameAddr]
class PtrSized (P : Program) (t : TypeId) : Prop where
  ok : ∃ e g sz bs zc, TyD P t (.pointer e) ∧ Ty P e g sz bs zc ∧ sz ≠ 0
instance (priority := 900) BinRun.nePtrSame [h : PtrSized P t] {a : Addr} : BinRun P .neq t (.pointer (some a)) (.pointer (some a)) (.bool false) := ⟨fun xo yo w => by
  obtain ⟨e, g, sz, bs, zc, h1, h2, h3⟩ := h.ok
  rw [Sem.run_bind, run_eqGuard_ptr, Result.andThen_ok]
  exact run_neq rfl fun d => eqIn_ptrSame (h := h1) (he := h2) h3 d⟩
end
end Go.Sep
