import Derived.Test.YtkcmjgjfodipfaaGreatA15
namespace Go.Proofs.YtkcmjgjfodipfaaGreat
open Go Go.Sep Go.Proofs
set_option maxRecDepth 10000
set_option maxHeartbeats 4000000
set_option synthInstance.maxSize 2000
set_option linter.unusedSimpArgs false
set_option linter.unusedVariables false
/-! what stands in a half; records out of bytes -/
theorem roomF_form {n : Nat} (h : roomF n ≠ 0) : ∃ hf, 1 ≤ hf ∧ hf ≤ 512 ∧ n = 2 + 2 * hf ∧ roomF n = hf * 128 := by
  unfold roomF at h ⊢
  split at h
  · exact absurd rfl h
  · rename_i hc
    rw [if_neg hc]
    exact ⟨(n - 2) / 2, by omega, by omega, by omega, rfl⟩
theorem half_at {half hf : Nat} (h : half ≤ 1) : half * (hf * 128) / 128 = half * hf := by
  rcases Nat.le_one_iff_eq_zero_or_eq_one.1 h with rfl | rfl <;> omega
theorem readD_in {S : List ByteArray} {i : Nat} (h : i < S.length) : readD S false (i : Int) = (S.getD i .empty, 0) := by
  unfold readD
  rw [if_neg (by simp), if_pos ⟨by omega, by omega⟩, Int.toNat_natCast]
structure BtS where
  i : Nat
  E : List Blk
theorem bytes_spec (db : Nat) (x : Dk) (k : Nat) (D : List Blk) (hD : DkA db x k D) (half n : Nat) (hde : x.de = false) (hh : half ≤ 1) (hr : n ≤ roomF x.S.length) : Con Tryz.prog 189 #[ptr db, .int .i64 half, .int .i64 n] D fun v A => v = .string (bytesF x.S half n) ∧ A = D := by
  have hrl := roomF_le x.S.length
  have hA := hD.a
  have hlast : ∀ i, i < (n + 127) / 128 → 2 + half * roomF x.S.length / 128 + i < x.S.length := fun i hi => by
    obtain ⟨hf, h1, h2, h3, h4⟩ := roomF_form (n := x.S.length) (by omega)
    rw [h4, half_at hh]
    rw [h4] at hr
    rcases Nat.le_one_iff_eq_zero_or_eq_one.1 hh with rfl | rfl <;> omega
  have hs : ∀ s ∈ x.S, s.size = 128 := by obtain ⟨_, _, _, _, _, _, _, _, _, _, h⟩ := hA; exact h
  have hsz : (catS x.S (2 + half * roomF x.S.length / 128) ((n + 127) / 128)).size = (n + 127) / 128 * 128 := by
    by_cases h0 : (n + 127) / 128 = 0
    · rw [h0]; rfl
    · exact catS_size hs _ (by have := hlast ((n + 127) / 128 - 1) (by omega); omega)
  have hcs : ∀ i, i ≤ (n + 127) / 128 → (catS x.S (2 + half * roomF x.S.length / 128) i).size = i * 128 := fun i hi => by
    by_cases h0 : i = 0
    · rw [h0]; rfl
    · exact catS_size hs _ (by have := hlast (i - 1) (by omega); omega)
  refine Con.intro (vs := [_, _, _]) Tryz.func189 rfl Tryz.ntmps189 rfl (fun B => ?_)
  repeat' (first | refine Cd.seq ?_ | refine Cd.reg ?_ | refine Ops.mv rfl rfl rfl rfl ?_ | refine Ops.asg rfl rfl rfl rfl ?_ | refine Ops.alloc rfl rfl rfl (noPd rfl) (fun b => ?_))
  rename Nat => bb
  refine Ops.call (room_spec db x k D hD) rfl (noPd rfl) rfl rfl rfl (fun v A' hR => ?_)
  obtain ⟨rfl, e⟩ := hR
  subst A'
  have hhr : (half : Int) * (roomF x.S.length : Nat) = ((half * roomF x.S.length : Nat) : Int) := by push_cast; rfl
  have hhr2 : half * roomF x.S.length ≤ 65536 := by
    rcases Nat.le_one_iff_eq_zero_or_eq_one.1 hh with rfl | rfl <;> omega
  repeat' (first | refine Ops.mulI rfl rfl rfl rfl (by omega) (by omega) rfl ?_)
  rw [hhr]
  refine Ops.quoI (b := 128) rfl rfl rfl rfl (by omega) (by decide) rfl ?_
  repeat' (first | refine Cd.seq ?_ | refine Cd.reg ?_ | refine Ops.nil ?_ | refine Ops.asg rfl rfl rfl rfl ?_ | refine Ops.addI rfl rfl rfl rfl (by omega) (by omega) rfl ?_ | refine Cd.block ?_)
  rw [show (2 : Int) + ((half * roomF x.S.length / 128 : Nat) : Int) = ((2 + half * roomF x.S.length / 128 : Nat) : Int) from by push_cast; rfl]
  generalize hF : 2 + half * roomF x.S.length / 128 = first at hlast hsz hcs ⊢
  refine Cd.loopK (σ := BtS) (fun s => s.i ≤ (n + 127) / 128 ∧ BuA bb (catS x.S first s.i) s.E) (fun s => [(0, ptr db), (2, .int .i64 n), (7, ptr bb), (8, .int .i64 first), (9, .int .i64 s.i)]) (fun s => s.E ++ D) (fun s => (n + 127) / 128 - s.i) ⟨0, [_]⟩ ⟨Nat.zero_le _, _, _, [], rfl, .inl rfl, BG.none⟩ ⟨rfl, rfl, rfl, rfl, rfl, trivial⟩ (fun w h => h.split) (fun s hs2 => ?_)
  obtain ⟨i, E⟩ := s
  obtain ⟨hi, hE⟩ := hs2
  dsimp only at hi hE ⊢
  by_cases hlt : i * 128 < n
  · have hlt' : (i : Int) * 128 < n := by omega
    have hin := hlast i (by omega)
    repeat' (first | refine Cd.seq ?_ | refine Cd.reg ?_ | refine Ops.nil ?_ | refine Ops.mv rfl rfl rfl rfl ?_ | refine Ops.addI rfl rfl rfl rfl (by omega) (by omega) rfl ?_ | refine Ops.mulI rfl rfl rfl rfl (by omega) (by omega) rfl ?_ | refine Ops.bin rfl rfl rfl rfl rfl ?_ | refine Cd.block ?_ | refine Cd.skip (Cd.next ?_) | refine Cd.condT rfl (by first | rfl | assumption | (simp only [decide_eq_true_eq, decide_eq_false_iff_not, Bool.not_eq_true', Bool.not_eq_false', Bool.not_eq_eq_eq_not, Bool.not_true, Bool.not_false, beq_iff_eq, beq_eq_false_iff_ne, ne_eq, decide_eq_decide, eq_self, true_iff, iff_true, not_true_eq_false, not_false_eq_true]; first | done | omega)) ?_)
    refine Ops.call (dread_spec db x.S x.ar x.bd x.de k D hA _) rfl (noPd rfl) rfl rfl rfl (fun v A' hR => ?_)
    obtain ⟨rfl, e⟩ := hR
    subst A'
    rw [hde, show (first : Int) + (i : Int) = ((first + i : Nat) : Int) from by push_cast; rfl, readD_in hin]
    repeat' (first | refine Cd.reg ?_ | refine Ops.mv rfl rfl rfl rfl ?_ | refine Ops.asg rfl rfl rfl rfl ?_ | refine Ops.ext rfl rfl rfl rfl rfl ?_)
    refine Ops.call (bwrite_spec bb (catS x.S first i) (x.S.getD (first + i) .empty) _ hE ?_) rfl (noPd rfl) rfl rfl rfl (fun v A' hR => ?_)
    · have h1 := hcs (i + 1) (by omega)
      rw [catS, ByteArray.size_append] at h1
      omega
    repeat' (first | refine Ops.nilN (inB (Cd.next ?_)) | refine Cd.reg ?_ | refine Ops.mv rfl rfl rfl rfl ?_ | refine Ops.asg rfl rfl rfl rfl ?_ | refine Ops.addI rfl rfl rfl rfl (by omega) (by omega) rfl ?_)
    exact Ops.nilN (round_end (⟨i + 1, _⟩ : BtS) ⟨by show i + 1 ≤ _; omega, hR⟩ (by show (n + 127) / 128 - (i + 1) < (n + 127) / 128 - i; omega) ⟨rfl, rfl, rfl, rfl, rfl, trivial⟩ (fun w h => h.split))
  · have hlt' : ¬ (i : Int) * 128 < n := by omega
    have he : i = (n + 127) / 128 := by omega
    have hc9 := hcs i (by omega)
    repeat' (first | refine Cd.seq ?_ | refine Cd.reg ?_ | refine Ops.nil ?_ | refine Ops.mv rfl rfl rfl rfl ?_ | refine Ops.mulI rfl rfl rfl rfl (by omega) (by omega) rfl ?_ | refine Ops.bin rfl rfl rfl rfl rfl ?_ | refine Cd.exit (Cd.next (Q' := fun _ _ _ => True) ?_) | refine Cd.condF rfl (by first | rfl | assumption | (simp only [decide_eq_true_eq, decide_eq_false_iff_not, Bool.not_eq_true', Bool.not_eq_false', Bool.not_eq_eq_eq_not, Bool.not_true, Bool.not_false, beq_iff_eq, beq_eq_false_iff_ne, ne_eq, decide_eq_decide, eq_self, true_iff, iff_true, not_true_eq_false, not_false_eq_true]; first | done | omega)) ?_)
    refine Ops.call (bstring_spec bb (catS x.S first i) _ hE (by omega)) rfl (noPd rfl) rfl rfl rfl (fun v A' hR => ?_)
    obtain ⟨rfl, hD2⟩ := hR
    repeat' (first | refine Ops.mv rfl rfl rfl rfl ?_)
    refine Ops.slSHi rfl rfl rfl rfl (by omega) (by omega) rfl ?_
    repeat' (first | refine Ops.nil ?_ | refine Ops.asg rfl rfl rfl rfl ?_)
    exact Cd.ret (ret1 (A' := D) rfl (Res.tmp rfl) (fun _ h => h.split) ⟨by rw [bytesF, hF, Int.toNat_natCast, he], rfl⟩)
@[reducible] def trow (t : ByteArray) : List Value := [.string t]
theorem trows_ok (ts : List ByteArray) : RowsOk 1 (ts.map trow) := rows_map (f := trow) (fun _ => ⟨rfl, rfl⟩) ts
def OwnT (sv : Value) (ts : List ByteArray) (G : List Blk) : Prop := Own 9 1 sv (ts.map trow) G
def RsT (sv : Value) (ts : List ByteArray) (G : List Blk) : Prop := Rs 9 1 sv (ts.map trow) G
theorem OwnT.form {sv : Value} {ts : List ByteArray} {G : List Blk} (h : OwnT sv ts G) : ∃ a c, sv = .slice a ts.length c := by
  obtain ⟨a, c, h⟩ := Own.form h
  exact ⟨a, c, by rw [h, List.length_map]⟩
theorem RsT.form {sv : Value} {ts : List ByteArray} {G : List Blk} (h : RsT sv ts G) : ∃ a c, sv = .slice a ts.length c := by
  obtain ⟨a, c, h⟩ := Rs.form h
  exact ⟨a, c, by rw [h, List.length_map]⟩
theorem RsT.none : RsT (.slice none 0 0) [] [] := ⟨RowsOk.nil, .inl ⟨rfl, rfl, rfl⟩⟩
/-- Cut to its length. -/
theorem OwnT.cut {a : Option Addr} {n c m : Nat} {ts : List ByteArray} {G : List Blk} (h : OwnT (.slice a n c) ts G) (hm : m = ts.length) : n ≤ c ∧ RsT (.slice a n m) ts G := by
  subst hm
  rcases h.2 with ⟨h1, h2, h3⟩ | ⟨g, c', sp, h1, h2, h3, h4⟩
  · injection h1 with h1 h4 h5
    subst h1; subst h4; subst h5
    have h2' : ts = [] := by simpa using h2
    subst h2'
    exact ⟨Nat.le_refl _, h.1, .inl ⟨rfl, h2, h3⟩⟩
  · injection h1 with h1 h5 h6
    subst h1; subst h5; subst h6
    exact ⟨h4, h.1, .inr ⟨g, ts.length, sp, rfl, h2⟩⟩
structure FrS where
  p : Nat
  l : List ByteArray
  sv : Value
  G : List Blk
theorem framesG_end {s : ByteArray} {p : Nat} (h : ¬ p < s.size) : framesG s p = some [] := by rw [framesG, dif_neg h]
theorem framesG_bad {s : ByteArray} {p : Nat} (h : p < s.size) (h2 : (rdText s 2048 p 0).2.2 ≠ 0 ∨ (rdText s 2048 p 0).1.size = 0) : framesG s p = none := by rw [framesG, dif_pos h, if_pos h2]
theorem numGo_gt {b : ByteArray} {most : Nat} {over : Int} : ∀ (k i p acc : Nat) {n q : Nat}, numGo b most over k i p acc = .good n q → p < q
  | 0, _, _, _, n, q, h => by cases h
  | k + 1, i, p, acc, n, q, h => by
    unfold numGo at h
    split at h
    · cases h
    · split at h
      · have := numGo_gt k _ _ _ h; omega
      · split at h
        · cases h
        · split at h
          · cases h
          · injection h with h1 h2; omega
theorem rdText_gt {b : ByteArray} {most p : Nat} (h : (rdText b most p 0).2.2 = 0) (h2 : ∀ er, numR b most 23 p = .bad er → er ≠ 0) : p < (rdText b most p 0).2.1 := by
  rw [rdText, if_neg (by simp)] at h ⊢
  unfold txR at h ⊢
  cases hn : numR b most 23 p with
  | bad er => rw [hn] at h; exact absurd h (h2 er hn)
  | good n q =>
    have := numGo_gt _ _ _ _ hn
    rw [hn] at h
    dsimp only at h ⊢
    by_cases hq : q + n ≤ b.size
    · rw [if_pos hq]; dsimp only; omega
    · rw [if_neg hq] at h; cases h
theorem numGo_er {b : ByteArray} {most : Nat} {over : Int} (ho : over ≠ 0) : ∀ (k i p acc : Nat) {er : Int}, numGo b most over k i p acc = .bad er → er ≠ 0
  | 0, _, _, _, er, h => by injection h with h; omega
  | k + 1, i, p, acc, er, h => by
    unfold numGo at h
    split at h
    · injection h with h; omega
    · split at h
      · exact numGo_er ho k _ _ _ h
      · split at h
        · injection h with h; omega
        · split at h
          · injection h with h; omega
          · cases h
theorem framesG_go {s : ByteArray} {p : Nat} (h : p < s.size) (h2 : (rdText s 2048 p 0).2.2 = 0) (h3 : (rdText s 2048 p 0).1.size ≠ 0) : p < (rdText s 2048 p 0).2.1 ∧ framesG s p = (framesG s (rdText s 2048 p 0).2.1).map ((rdText s 2048 p 0).1 :: ·) := by
  have hg := rdText_gt h2 (fun er he => numGo_er (by decide) _ _ _ _ he)
  refine ⟨hg, ?_⟩
  rw [framesG, dif_pos h, if_neg (by rintro (h | h); exact h h2; exact h3 h), dif_pos hg]
theorem frames_spec (B0 : Base) (s : ByteArray) (hs : s.size ≤ 1000000) : ConB Tryz.prog B0 190 #[.string s] [] fun v A =>
    (framesG s 0 = none ∧ v = .tuple #[.slice none 0 0, .bool false] ∧ A = []) ∨ (∃ l sv G, framesG s 0 = some l ∧ v = .tuple #[sv, .bool true] ∧ A = G ∧ RsT sv l G) := by
  refine ConB.intro (vs := [_]) Tryz.func190 rfl Tryz.ntmps190 rfl (fun B hB => ?_)
  repeat' (first | refine Cd.seq ?_ | refine Cd.reg ?_ | refine Ops.mv rfl rfl rfl rfl ?_ | refine Ops.asg rfl rfl rfl rfl ?_)
  refine Ops.call (read_spec s) rfl (noPd rfl) rfl rfl rfl (fun v A' hR => ?_)
  obtain ⟨rb, rfl, rfl⟩ := hR
  repeat' (first | refine Ops.nil ?_ | refine Ops.asg rfl rfl rfl rfl ?_ | refine Cd.block ?_)
  refine Cd.loopK (σ := FrS) (fun t => t.p ≤ s.size ∧ t.l.length ≤ t.p ∧ framesG s 0 = (framesG s t.p).map (t.l ++ ·) ∧ OwnT t.sv t.l t.G) (fun t => [(4, t.sv), (5, ptr rb)]) (fun t => RdB rb s t.p 0 :: t.G) (fun t => s.size - t.p) ⟨0, [], .slice none 0 0, []⟩ ⟨Nat.zero_le _, Nat.le_refl _, by cases framesG s 0 <;> rfl, Own.none⟩ ⟨rfl, rfl, trivial⟩ (fun w h => h.split) (fun t ht => ?_)
  obtain ⟨p, l, sv, G⟩ := t
  obtain ⟨hp, hlp, hfr, hO⟩ := ht
  dsimp only at hp hlp hfr hO ⊢
  obtain ⟨a, c, rfl⟩ := hO.form
  by_cases hlt : p < s.size
  · have hlt' : (0 : Int) < (s.size : Int) - (p : Int) := by omega
    repeat' (first | refine Cd.seq ?_ | refine Cd.reg ?_ | refine Ops.mv rfl rfl rfl rfl ?_)
    refine Ops.call (left_spec rb s p 0 hp hs) rfl (noPd rfl) rfl rfl rfl (fun v A' hR => ?_)
    obtain ⟨rfl, rfl⟩ := hR
    repeat' (first | refine Cd.seq ?_ | refine Cd.reg ?_ | refine Ops.nil ?_ | refine Ops.mv rfl rfl rfl rfl ?_ | refine Ops.bin rfl rfl rfl rfl rfl ?_ | refine Cd.block ?_ | refine Cd.skip (Cd.next ?_) | refine Cd.condT rfl (by first | rfl | assumption | (simp only [decide_eq_true_eq, decide_eq_false_iff_not, Bool.not_eq_true', Bool.not_eq_false', Bool.not_eq_eq_eq_not, Bool.not_true, Bool.not_false, beq_iff_eq, beq_eq_false_iff_ne, ne_eq, decide_eq_decide, eq_self, true_iff, iff_true, not_true_eq_false, not_false_eq_true]; first | done | omega)) ?_)
    refine Ops.callB (rtext_spec B0 rb s p 2048 0 hp hs (by decide)) hB rfl (noPd rfl) rfl rfl rfl (fun v A' hR => ?_)
    obtain ⟨rfl, rfl⟩ := hR
    repeat' (first | refine Cd.seq ?_ | refine Cd.reg ?_ | refine Ops.mv rfl rfl rfl rfl ?_ | refine Ops.asg rfl rfl rfl rfl ?_)
    refine Ops.call (fault_spec rb s (rdText s 2048 p 0).2.1 (rdText s 2048 p 0).2.2) rfl (noPd rfl) rfl rfl rfl (fun v A' hR => ?_)
    obtain ⟨rfl, rfl⟩ := hR
    have hg := framesG_go (s := s) (p := p) hlt
    have hb := framesG_bad (s := s) (p := p) hlt
    have hat := rdText_at (b := s) (most := 2048) (e := 0) hp
    generalize rdText s 2048 p 0 = r at hg hb hat ⊢
    obtain ⟨x, q, e⟩ := r
    dsimp only at hg hb hat ⊢
    by_cases he : e = 0
    · subst he
      rw [show faultF q 0 = (0, 0) from if_pos rfl]
      by_cases hx : x = ⟨#[]⟩
      · subst hx
        have hb := hb (.inr rfl)
        repeat' (first | refine Cd.seq ?_ | refine Cd.reg ?_ | refine Ops.nil ?_ | refine Ops.mv rfl rfl rfl rfl ?_ | refine Ops.asg rfl rfl rfl rfl ?_ | refine Ops.bin rfl rfl rfl rfl rfl ?_ | refine Ops.pickF rfl rfl rfl rfl rfl ?_ | refine Ops.ext rfl rfl rfl rfl rfl ?_ | refine Cd.condT rfl rfl ?_)
        exact Cd.ret (ret2 (A' := []) rfl (Res.tmp rfl) (Res.tmp rfl) (fun _ h => h.split) (.inl ⟨by rw [hfr, hb]; rfl, rfl, rfl⟩))
      · have hne : x.size ≠ 0 := fun h => hx (ByteArray.size_eq_zero_iff.1 h)
        obtain ⟨h1, h2⟩ := hg rfl hne
        repeat' (first | refine Cd.seq ?_ | refine Cd.reg ?_ | refine Ops.nil ?_ | refine Ops.mv rfl rfl rfl rfl ?_ | refine Ops.asg rfl rfl rfl rfl ?_ | refine Ops.bin rfl rfl rfl rfl rfl ?_ | refine Ops.pickF rfl rfl rfl rfl rfl ?_ | refine Ops.ext rfl rfl rfl rfl rfl ?_ | refine Ops.bs1 rfl rfl rfl rfl rfl rfl rfl (noPd rfl) (fun b => ?_) | refine Cd.skip (Cd.next ?_) | refine Cd.condF rfl (by first | rfl | assumption | (simp only [decide_eq_true_eq, decide_eq_false_iff_not, Bool.not_eq_true', Bool.not_eq_false', Bool.not_eq_eq_eq_not, Bool.not_true, Bool.not_false, beq_iff_eq, beq_eq_false_iff_ne, ne_eq, decide_eq_decide, eq_self, true_iff, iff_true, not_true_eq_false, not_false_eq_true]; first | done | omega)) ?_)
        have hll : (l.map trow).length = l.length := List.length_map _
        refine Ops.app1 (rows := l.map trow) hO (by rw [hll]; omega) (by rw [hll]; omega) rfl rfl rfl rfl (by rfl) (by rfl) rfl (noPd rfl) rfl (fun v G' hG' => ?_)
        have hG2 : OwnT v (l ++ [x]) G' := by unfold OwnT; rw [List.map_append]; exact hG'
        clear hG'
        repeat' (first | refine Ops.asg rfl rfl rfl rfl ?_)
        exact Ops.nilN (inB (round_end (⟨q, l ++ [x], v, G'⟩ : FrS) ⟨hat, by show (l ++ [x]).length ≤ q; rw [List.length_append, List.length_singleton]; omega, by show _ = (framesG s q).map ((l ++ [x]) ++ ·); rw [hfr, h2]; cases framesG s q <;> simp, hG2⟩ (by show s.size - q < s.size - p; omega) ⟨rfl, rfl, trivial⟩ (fun w h => h.split)))
    · rw [show faultF q e = (e, (q : Int)) from if_neg he]
      have hb := hb (.inl he)
      repeat' (first | refine Cd.seq ?_ | refine Cd.reg ?_ | refine Ops.nil ?_ | refine Ops.mv rfl rfl rfl rfl ?_ | refine Ops.asg rfl rfl rfl rfl ?_ | refine Ops.bin rfl rfl rfl rfl rfl ?_ | refine Ops.pickT rfl rfl rfl rfl rfl ?_ | refine Ops.ext rfl rfl rfl rfl rfl ?_ | refine Ops.gSkip rfl rfl rfl ?_ | refine Cd.condT rfl rfl ?_ | ((fail_if_success refine Ops.probe rfl ?_); refine Ops.gT rfl rfl (by first | rfl | assumption | (simp only [decide_eq_true_eq, decide_eq_false_iff_not, Bool.not_eq_true', Bool.not_eq_false', Bool.not_eq_eq_eq_not, Bool.not_true, Bool.not_false, beq_iff_eq, beq_eq_false_iff_ne, ne_eq, decide_eq_decide, eq_self, true_iff, iff_true, not_true_eq_false, not_false_eq_true]; first | done | omega)) ?_))
      exact Cd.ret (ret2 (A' := []) rfl (Res.tmp rfl) (Res.tmp rfl) (fun _ h => h.split) (.inl ⟨by rw [hfr, hb]; rfl, rfl, rfl⟩))
  · have hlt' : ¬ (0 : Int) < (s.size : Int) - (p : Int) := by omega
    obtain ⟨hc1, hc2⟩ := hO.cut rfl
    repeat' (first | refine Cd.seq ?_ | refine Cd.reg ?_ | refine Ops.mv rfl rfl rfl rfl ?_)
    refine Ops.call (left_spec rb s p 0 hp hs) rfl (noPd rfl) rfl rfl rfl (fun v A' hR => ?_)
    obtain ⟨rfl, rfl⟩ := hR
    repeat' (first | refine Cd.seq ?_ | refine Cd.reg ?_ | refine Ops.nil ?_ | refine Ops.mv rfl rfl rfl rfl ?_ | refine Ops.lenS rfl rfl rfl rfl ?_ | refine Ops.bin rfl rfl rfl rfl rfl ?_ | refine Cd.exit (Cd.next (Q' := fun _ _ _ => True) ?_) | refine Cd.condF rfl (by first | rfl | assumption | (simp only [decide_eq_true_eq, decide_eq_false_iff_not, Bool.not_eq_true', Bool.not_eq_false', Bool.not_eq_eq_eq_not, Bool.not_true, Bool.not_false, beq_iff_eq, beq_eq_false_iff_ne, ne_eq, decide_eq_decide, eq_self, true_iff, iff_true, not_true_eq_false, not_false_eq_true]; first | done | omega)) ?_)
    refine Ops.slHM rfl rfl rfl rfl rfl (by omega) (by omega) (by omega) rfl ?_
    rw [Int.toNat_natCast]
    repeat' (first | refine Ops.nil ?_ | refine Ops.asg rfl rfl rfl rfl ?_)
    exact Cd.ret (ret2 (A' := G) rfl (Res.tmp rfl) (Res.tmp rfl) (fun _ h => h.split) (.inr ⟨l, _, G, by rw [hfr, framesG_end hlt]; simp, rfl, rfl, hc2⟩))
end Go.Proofs.YtkcmjgjfodipfaaGreat
