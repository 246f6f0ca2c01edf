import Derived.Test.YtdfimjgbdipnjaaS20
namespace Go.Proofs.Ytdfimjgbdipnjaa
open Go Go.Sep Go.Proofs
set_option maxRecDepth 10000
set_option maxHeartbeats 8000000
set_option linter.unusedSimpArgs false
set_option linter.unusedVariables false

theorem ins_rows {sz : Nat} {rows : List (List Value)} (spare zs : List Value) {i : Nat} (hk : RowsOk sz rows) (hi : i ≤ rows.length) :
    ins (rows.flatten ++ spare) (i * sz) zs = (rows.take i).flatten ++ (zs ++ ((rows.drop i).flatten ++ spare).drop zs.length) := by
  have e1 : rows.flatten = (rows.take i).flatten ++ (rows.drop i).flatten := by rw [← List.flatten_append, List.take_append_drop]
  have e2 : (rows.take i).flatten.length = i * sz := by
    have : RowsOk sz (rows.take i) := fun r h => hk r (List.mem_of_mem_take h)
    rw [this.len, List.length_take, Nat.min_eq_left hi]
  rw [e1, ← e2, List.append_assoc, ins_app, List.append_assoc]

/-- The rows below i are left, the rest is cleared. -/
theorem OwnK.cut {g c : Nat} {L : List Dk} {spare zs : List Value} {i : Nat} (hsp : (dks L).flatten.length + spare.length = c * 5) (hle : L.length ≤ c) (hi : i ≤ L.length) (hz : zs.length = (L.length - i) * 5) :
    OwnK (.slice (some ⟨g, 0, none⟩) i c) (L.take i) [(g, cl (ins ((dks L).flatten ++ spare) (i * 5) zs) 98)] := by
  have hl : (dks L).length = L.length := dks_len L
  have hf : (dks L).flatten.length = L.length * 5 := by rw [(dks_ok L).len, hl]
  have e1 : ins ((dks L).flatten ++ spare) (i * 5) zs = (dks (L.take i)).flatten ++ (zs ++ (((dks L).drop i).flatten ++ spare).drop zs.length) := by
    rw [ins_rows spare zs (dks_ok L) (by rw [hl]; exact hi)]
    simp [dks, List.map_take]
  have hlen : (ins ((dks L).flatten ++ spare) (i * 5) zs).length = c * 5 := by
    rw [ins_length (by rw [List.length_append]; omega), List.length_append, hsp]
  refine ⟨dks_ok _, .inr ⟨g, c, _, ?_, by rw [e1], ?_, ?_⟩⟩
  · rw [dks_len, List.length_take, Nat.min_eq_left hi]
  · rw [← List.length_append, ← e1, hlen]
  · rw [dks_len, List.length_take]; omega

structure DS where
  i : Nat
  j : Nat
  L : List Dk
def DSI (rs : List Dk) (s : DS) : Prop := s.i < s.j ∧ s.j ≤ rs.length ∧ s.L.length = rs.length ∧ s.L.take s.i = (rs.take s.j).filter liveB ∧ s.L.drop s.j = rs.drop s.j

theorem take_succ_of {α : Type} {l : List α} {j : Nat} {x : α} (h : l[j]? = some x) : l.take (j + 1) = l.take j ++ [x] := by
  obtain ⟨hj, rfl⟩ := List.getElem?_eq_some_iff.1 h
  rw [List.take_succ_eq_append_getElem hj]

theorem del_no (sv : Value) (rs : List Dk) (G : List Blk) (h : OwnK sv rs G) (hlen : rs.length ≤ 1000) (ha : ∀ r ∈ rs, r.life ≠ 0) :
    Con Try.prog 63 #[sv, deadF] G fun v A => v = sv ∧ A = G := by
  obtain ⟨a, c, rfl⟩ := h.form
  refine Con.intro (vs := [_, _]) Try.func63 rfl Try.ntmps63 rfl (fun B => ?_)
  repeat' (first | refine Cd.seq ?_ | refine Cd.reg ?_ | refine Ops.mv rfl rfl rfl rfl ?_ | refine Ops.asg rfl rfl rfl rfl ?_)
  refine Ops.call (index_no _ rs G h hlen ha) rfl (noPd rfl) rfl rfl rfl (fun v A' hR => ?_)
  obtain ⟨rfl, rfl⟩ := hR
  repeat' (first | refine Cd.seq ?_ | refine Cd.reg ?_ | refine Ops.nil ?_ | refine Ops.mv rfl rfl rfl rfl ?_ | refine Ops.asg rfl rfl rfl rfl ?_ | refine Ops.bin rfl rfl rfl rfl rfl ?_ | refine Cd.condT rfl rfl ?_)
  exact Cd.ret (ret1 rfl (Res.tmp rfl) (fun _ h => h.split) ⟨rfl, rfl⟩)

theorem del_yes (sv : Value) (rs : List Dk) (G : List Blk) (k : Nat) (d : Dk) (h : OwnK sv rs G) (hlen : rs.length ≤ 1000) (ha : ∀ (i : Nat) r, rs[i]? = some r → i < k → r.life ≠ 0) (hk : rs[k]? = some d) (hd : d.life = 0) :
    Con Try.prog 63 #[sv, deadF] G fun v A => OwnK v (rs.filter liveB) A := by
  have hkl : k < rs.length := (List.getElem?_eq_some_iff.1 hk).1
  have hO := h
  obtain ⟨g, c, spare, rfl, rfl, hsp, hle⟩ := h.some_ (by omega)
  have hfl : (rs.take k).filter liveB = rs.take k := by
    refine List.filter_eq_self.2 fun r hr => ?_
    obtain ⟨i, hi⟩ := List.getElem?_of_mem hr
    have hik : i < k := by
      have := (List.getElem?_eq_some_iff.1 hi).1
      rw [List.length_take] at this; omega
    rw [List.getElem?_take_of_lt hik] at hi
    simp [liveB, ha i r hi hik]
  refine Con.intro (vs := [_, _]) Try.func63 rfl Try.ntmps63 rfl (fun B => ?_)
  repeat' (first | refine Cd.seq ?_ | refine Cd.reg ?_ | refine Ops.mv rfl rfl rfl rfl ?_ | refine Ops.asg rfl rfl rfl rfl ?_)
  refine Ops.call (index_yes _ rs _ k d hO hlen ha hk hd) rfl (noPd rfl) rfl rfl rfl (fun v A' hR => ?_)
  obtain ⟨rfl, rfl⟩ := hR
  repeat' (first | refine Cd.seq ?_ | refine Cd.reg ?_ | refine Ops.nil ?_ | refine Ops.mv rfl rfl rfl rfl ?_ | refine Ops.asg rfl rfl rfl rfl ?_ | refine Ops.addI rfl rfl rfl rfl (by omega) (by omega) rfl ?_ | refine Ops.bin rfl rfl rfl rfl rfl ?_ | refine Cd.condF rfl rfl ?_ | refine Cd.block ?_ | refine Cd.skip (Cd.next ?_))
  refine Cd.loopK (DSI rs) (fun s => [(0, .slice (some ⟨g, 0, none⟩) rs.length c), (1, deadF), (5, .int .i64 s.i), (6, .int .i64 s.j)]) (fun s => [(g, cl ((dks s.L).flatten ++ spare) 98)]) (fun s => rs.length - s.j) ⟨k, k + 1, rs⟩
    ⟨Nat.lt_succ_self k, by show k + 1 ≤ rs.length; omega, rfl, by
      show rs.take k = (rs.take (k + 1)).filter liveB
      rw [take_succ_of hk, List.filter_append, hfl]; simp [liveB, hd], rfl⟩ ⟨rfl, rfl, rfl, rfl, trivial⟩ (fun w h => h.split) (fun s hI => ?_)
  obtain ⟨i, j, L⟩ := s
  obtain ⟨hij, hj, hL, ht, hdr⟩ := hI
  dsimp only at hij hj hL ht hdr ⊢
  have hll : (dks L).length = L.length := dks_len L
  have hok := dks_ok L
  by_cases hjl : j < rs.length
  · have hjl' : (j : Int) < rs.length := by omega
    obtain ⟨r, hr⟩ : ∃ r, rs[j]? = some r := ⟨_, List.getElem?_eq_getElem hjl⟩
    have hrL : L[j]? = some r := by
      have := congrArg (fun l => l[0]?) hdr
      simp only [List.getElem?_drop, Nat.add_zero] at this
      rw [this]; exact hr
    have hx : (dks L)[(j : Int).toNat]? = some r.row := by simp [dks, hrL]
    have hdr2 : L.drop (j + 1) = rs.drop (j + 1) := by
      have := congrArg (List.drop 1) hdr
      rw [List.drop_drop, List.drop_drop] at this
      exact this
    repeat' (first | refine Cd.seq ?_ | refine Cd.reg ?_ | refine Ops.nil ?_ | refine Ops.mv rfl rfl rfl rfl ?_ | refine Ops.ldN rfl rfl rfl rfl ?_ | refine Ops.lenS rfl rfl rfl rfl ?_ | refine Ops.bin rfl rfl rfl rfl rfl ?_ | refine Ops.alloc rfl rfl rfl (noPd rfl) (fun b => ?_) | refine Ops.stN rfl rfl rfl rfl rfl rfl (noPd rfl) ?_ | refine Cd.block ?_ | refine Cd.skip (Cd.next ?_) | refine Ops.ixa0 rfl rfl rfl rfl (by omega) (by omega) rfl ?_ | refine Ops.ldRow rfl rfl rfl (by assumption) (by assumption) rfl ?_ | refine Cd.condT rfl (by first | rfl | assumption | (simp only [decide_eq_true_eq, decide_eq_false_iff_not, Bool.not_eq_true', Bool.not_eq_false', Bool.not_eq_eq_eq_not, Bool.not_true, Bool.not_false, beq_iff_eq, beq_eq_false_iff_ne, ne_eq, decide_eq_decide, eq_self, true_iff, iff_true, not_true_eq_false, not_false_eq_true]; first | done | omega)) ?_)
    refine Ops.callV (f := 64) (fi := []) (ca := []) (dead_spec r) rfl (noPd rfl) rfl rfl rfl rfl (fun v A' hR => ?_)
    obtain ⟨rfl, rfl⟩ := hR
    by_cases hl : r.life = 0
    · have e2 : (rs.take (j + 1)).filter liveB = (rs.take j).filter liveB := by
        rw [take_succ_of hr, List.filter_append]; simp [liveB, hl]
      repeat' (first | refine Cd.reg ?_ | refine Ops.nil ?_ | refine Ops.mv rfl rfl rfl rfl ?_ | refine Ops.asg rfl rfl rfl rfl ?_ | refine Ops.addI rfl rfl rfl rfl (by omega) (by omega) rfl ?_ | refine Ops.un rfl rfl rfl rfl ?_ | refine Cd.skip (Cd.next (Q' := fun _ _ _ => True) ?_) | refine Cd.condF rfl (by first | rfl | assumption | (simp only [decide_eq_true_eq, decide_eq_false_iff_not, Bool.not_eq_true', Bool.not_eq_false', Bool.not_eq_eq_eq_not, Bool.not_true, Bool.not_false, beq_iff_eq, beq_eq_false_iff_ne, ne_eq, decide_eq_decide, eq_self, true_iff, iff_true, not_true_eq_false, not_false_eq_true]; first | done | omega)) ?_)
      exact Ops.nilN (round_end (⟨i, j + 1, L⟩ : DS) ⟨by show i < j + 1; omega, by show j + 1 ≤ rs.length; omega, hL, by show L.take i = _; rw [ht, e2], hdr2⟩ (by show rs.length - (j + 1) < rs.length - j; omega) ⟨rfl, rfl, rfl, rfl, trivial⟩ (fun w h => h.split))
    · have e2 : (rs.take (j + 1)).filter liveB = (rs.take j).filter liveB ++ [r] := by
        rw [take_succ_of hr, List.filter_append]; simp [liveB, hl]
      repeat' (first | refine Cd.seq ?_ | refine Cd.reg ?_ | refine Ops.nil ?_ | refine Ops.mv rfl rfl rfl rfl ?_ | refine Ops.ldN rfl rfl rfl rfl ?_ | refine Ops.un rfl rfl rfl rfl ?_ | refine Ops.ixa0 rfl rfl rfl rfl (by omega) (by omega) rfl ?_ | refine Cd.condT rfl (by first | rfl | assumption | (simp only [decide_eq_true_eq, decide_eq_false_iff_not, Bool.not_eq_true', Bool.not_eq_false', Bool.not_eq_eq_eq_not, Bool.not_true, Bool.not_false, beq_iff_eq, beq_eq_false_iff_ne, ne_eq, decide_eq_decide, eq_self, true_iff, iff_true, not_true_eq_false, not_false_eq_true]; first | done | omega)) ?_)
      refine Ops.stRow (rows := dks L) (i := (i : Int).toNat) rfl rfl rfl rfl rfl rfl hok (by rw [hll]; omega) (noPd rfl) ?_
      repeat' (first | refine Cd.reg ?_ | refine Ops.mv rfl rfl rfl rfl ?_ | refine Ops.asg rfl rfl rfl rfl ?_ | refine Ops.addI rfl rfl rfl rfl (by omega) (by omega) rfl ?_)
      have e3 : (dks L).set (i : Int).toNat [.int .i64 r.slot, .int .i64 r.life, .int .i64 r.session, .int .i64 r.last, .string r.reply] = dks (L.set i r) := by
        rw [Int.toNat_natCast]; unfold dks; rw [List.map_set]
      exact Ops.nilN (round_end (⟨i + 1, j + 1, L.set i r⟩ : DS) ⟨by show i + 1 < j + 1; omega, by show j + 1 ≤ rs.length; omega, by show (L.set i r).length = _; rw [List.length_set]; exact hL, by
          show (L.set i r).take (i + 1) = _
          rw [take_succ_of (x := r) (by rw [List.getElem?_set_self (by omega)]), List.take_set_of_le (Nat.le_refl i), ht, e2], by
          show (L.set i r).drop (j + 1) = _
          rw [List.drop_set_of_lt (by omega)]; exact hdr2⟩ (by show rs.length - (j + 1) < rs.length - j; omega) ⟨rfl, rfl, rfl, rfl, trivial⟩ (fun w h => by rw [e3] at h; exact h.split))
  · obtain rfl : j = rs.length := by omega
    rw [List.take_length] at ht
    repeat' (first | refine Cd.seq ?_ | refine Cd.reg ?_ | refine Ops.nil ?_ | refine Ops.mv rfl rfl rfl rfl ?_ | refine Ops.lenS rfl rfl rfl rfl ?_ | refine Ops.bin rfl rfl rfl rfl rfl ?_ | refine Cd.exit (Cd.next (Q' := fun _ _ _ => True) ?_) | refine Ops.slLo rfl rfl rfl rfl (by omega) (by omega) rfl ?_ | refine Cd.condF rfl (by first | rfl | assumption | (simp only [decide_eq_true_eq, decide_eq_false_iff_not, Bool.not_eq_true', Bool.not_eq_false', Bool.not_eq_eq_eq_not, Bool.not_true, Bool.not_false, beq_iff_eq, beq_eq_false_iff_ne, ne_eq, decide_eq_decide, eq_self, true_iff, iff_true, not_true_eq_false, not_false_eq_true]; first | done | omega)) ?_)
    refine Ops.clr (L := (dks L).flatten ++ spare) rfl rfl rfl (by rw [List.length_append]; rw [(dks_ok L).len, hll, hL]; rw [(dks_ok rs).len, dks_len] at hsp; exact hsp) (by omega) (by omega) rfl rfl (noPd rfl) ?_
    repeat' (first | refine Cd.seq ?_ | refine Cd.reg ?_ | refine Ops.nil ?_ | refine Ops.mv rfl rfl rfl rfl ?_ | refine Ops.asg rfl rfl rfl rfl ?_ | refine Ops.slHi rfl rfl rfl rfl (by omega) (by omega) rfl ?_)
    refine Cd.ret (ret1 rfl (Res.tmp rfl) (fun _ h => h) ?_)
    have := OwnK.cut (g := g) (c := c) (L := L) (spare := spare) (i := i) (zs := (List.replicate (rs.length - (i : Int).toNat) [.int .i64 0, .int .i64 0, .int .i64 0, .int .i64 0, .string ⟨#[]⟩]).flatten) (by rw [(dks_ok L).len, hll, hL]; rw [(dks_ok rs).len, dks_len] at hsp; exact hsp) (by omega) (by omega) (by simp [hL])
    rw [ht] at this
    exact this

theorem del_spec (sv : Value) (rs : List Dk) (G : List Blk) (h : OwnK sv rs G) (hlen : rs.length ≤ 1000) :
    Con Try.prog 63 #[sv, deadF] G fun v A => OwnK v (rs.filter liveB) A := by
  cases hf : rs.findIdx? (fun d : Dk => decide (d.life = 0)) with
  | none =>
    rw [List.findIdx?_eq_none_iff] at hf
    have ha : ∀ r ∈ rs, r.life ≠ 0 := fun r hr => by simpa using hf r hr
    have e : rs.filter liveB = rs := List.filter_eq_self.2 fun r hr => by simp [liveB, ha r hr]
    rw [e]
    exact (del_no sv rs G h hlen ha).mono fun v A ⟨e1, e2⟩ => by subst e1; subst e2; exact h
  | some k =>
    rw [List.findIdx?_eq_some_iff_getElem] at hf
    obtain ⟨hk, h1, h2⟩ := hf
    exact del_yes sv rs G k rs[k] h hlen (fun i r hi hik => by
      obtain ⟨hi', rfl⟩ := List.getElem?_eq_some_iff.1 hi
      simpa using h2 i hik) (List.getElem?_eq_getElem hk) (by simpa using h1)

theorem rows_spec (n : Nat) (sv : Value) (rs : List Dk) (G : List Blk) (h : OwnK sv rs G) (hlen : rs.length ≤ 1000) :
    Con Try.prog 54 #[ptr n] (TabB n sv G) fun v A => ∃ G', A = G' ++ TabB n sv G ∧ OwnK v (rs.filter liveB) G' := by
  obtain ⟨a, c, rfl⟩ := h.form
  refine Con.intro (vs := [_]) Try.func54 rfl Try.ntmps54 rfl (fun B => ?_)
  repeat' (first | refine Cd.seq ?_ | refine Cd.reg ?_ | refine Ops.mv rfl rfl rfl rfl ?_ | refine Ops.asg rfl rfl rfl rfl ?_ | refine Ops.nilP rfl rfl rfl rfl ?_ | refine Ops.fa0 rfl rfl rfl rfl ?_ | refine Ops.ld1 rfl rfl rfl rfl rfl ?_)
  refine Ops.call (sclone_spec _ rs G h hlen) rfl (noPd rfl) rfl rfl rfl (fun v A' hR => ?_)
  obtain ⟨G', rfl, hG'⟩ := hR
  obtain ⟨a', c', rfl⟩ := hG'.form
  skip
  refine Ops.call (del_spec _ rs G' hG' hlen) rfl (noPd rfl) rfl rfl rfl (fun v A' hR => ?_)
  obtain ⟨a2, c2, rfl⟩ := hR.form
  repeat' (first | refine Ops.nil ?_ | refine Ops.asg rfl rfl rfl rfl ?_)
  exact Cd.ret (ret1 (A' := A' ++ TabB n (.slice a rs.length c) G) rfl (Res.tmp rfl) (fun _ h => h.split) ⟨A', rfl, hR⟩)

def toldB (d : Dk) : Bool := decide (0 < d.life)
structure TS where
  i : Nat
  tv : Value
  H : List Blk
theorem told_spec (n : Nat) (sv : Value) (rs : List Dk) (G : List Blk) (h : OwnK sv rs G) (hlen : rs.length ≤ 1000) :
    Con Try.prog 56 #[ptr n] (TabR n sv G) fun v A => ∃ G', A = G' ++ TabR n sv G ∧ OwnK v (rs.filter toldB) G' := by
  obtain ⟨a, c, rfl⟩ := h.form
  refine Con.intro (vs := [_]) Try.func56 rfl Try.ntmps56 rfl (fun B => ?_)
  repeat' (first | refine Cd.seq ?_ | refine Cd.reg ?_ | refine Ops.nil ?_ | refine Ops.asg rfl rfl rfl rfl ?_ | refine Ops.bs0 rfl rfl rfl (noPd rfl) (fun b => ?_) | refine Cd.block ?_)
  rename Nat => g0
  refine Cd.loopK (fun s : TS => s.i ≤ rs.length ∧ OwnK s.tv ((rs.take s.i).filter toldB) s.H) (fun s => [(0, ptr n), (3, s.tv), (4, .int .i64 s.i)]) (fun s => s.H ++ TabR n (.slice a rs.length c) G) (fun s => rs.length - s.i) ⟨0, .slice (some ⟨g0, 0, none⟩) 0 0, [(g0, cl [] 98)]⟩
    ⟨Nat.zero_le _, (Own.empty : OwnK _ [] _)⟩ ⟨rfl, rfl, rfl, trivial⟩ (fun w h => h) (fun s hI => ?_)
  obtain ⟨i, tv, H⟩ := s
  obtain ⟨hi, hH⟩ := hI
  dsimp only at hi hH ⊢
  obtain ⟨a3, c3, rfl⟩ := hH.form
  by_cases hil : i < rs.length
  · have hil' : (i : Int) < rs.length := by omega
    obtain ⟨g, c2, spare, e1, rfl, hsp, hle⟩ := h.some_ (by omega)
    injection e1 with q1 q2 q3
    subst q1; subst q3
    obtain ⟨r, hr⟩ : ∃ r, rs[i]? = some r := ⟨_, List.getElem?_eq_getElem hil⟩
    have hok := dks_ok rs
    have hx : (dks rs)[(i : Int).toNat]? = some r.row := by simp [dks, hr]
    have hfl : ((rs.take i).filter toldB).length ≤ rs.length := Nat.le_trans (List.length_filter_le _ _) (by rw [List.length_take]; omega)
    by_cases hl : 0 < r.life
    · have e2 : (rs.take (i + 1)).filter toldB = (rs.take i).filter toldB ++ [r] := by
        rw [take_succ_of hr, List.filter_append]; simp [toldB, hl]
      repeat' (first | refine Cd.seq ?_ | refine Cd.reg ?_ | refine Ops.nil ?_ | refine Ops.mv rfl rfl rfl rfl ?_ | refine Ops.nilP rfl rfl rfl rfl ?_ | refine Ops.fa0 rfl rfl rfl rfl ?_ | refine Ops.fa rfl rfl rfl rfl ?_ | refine Ops.ld1 rfl rfl rfl rfl rfl ?_ | refine Ops.lenS rfl rfl rfl rfl ?_ | refine Ops.bin rfl rfl rfl rfl rfl ?_ | refine Ops.bs1 rfl rfl rfl rfl rfl rfl rfl (noPd rfl) (fun b => ?_) | refine Cd.block ?_ | refine Cd.skip (Cd.next ?_) | refine Ops.ixa0 rfl rfl rfl rfl (by omega) (by omega) rfl ?_ | refine Ops.ldRow rfl rfl rfl (by assumption) (by assumption) rfl ?_ | refine Ops.ldRow1 rfl rfl rfl (by assumption) (by assumption) rfl rfl ?_ | refine Cd.condT rfl (by first | rfl | assumption | (simp only [decide_eq_true_eq, decide_eq_false_iff_not, Bool.not_eq_true', Bool.not_eq_false', Bool.not_eq_eq_eq_not, Bool.not_true, Bool.not_false, beq_iff_eq, beq_eq_false_iff_ne, ne_eq, decide_eq_decide, eq_self, true_iff, iff_true, not_true_eq_false, not_false_eq_true]; first | done | omega)) ?_)
      refine Ops.app1 (rows := dks ((rs.take i).filter toldB)) hH (by rw [dks_len]; omega) (by rw [dks_len]; omega) rfl rfl rfl rfl (by rfl) (by rfl) rfl (noPd rfl) rfl (fun v G' hG' => ?_)
      have hG2 : OwnK v ((rs.take (i + 1)).filter toldB) G' := by
        rw [e2]; unfold OwnK; rw [show dks ((rs.take i).filter toldB ++ [r]) = dks ((rs.take i).filter toldB) ++ [r.row] from by simp [dks]]; exact hG'
      clear hG'
      obtain ⟨a', c', rfl⟩ := hG2.form
      repeat' (first | refine Cd.reg ?_ | refine Ops.mv rfl rfl rfl rfl ?_ | refine Ops.asg rfl rfl rfl rfl ?_ | refine Ops.addI rfl rfl rfl rfl (by omega) (by omega) rfl ?_)
      exact Ops.nilN (round_end (⟨i + 1, _, G'⟩ : TS) ⟨by show i + 1 ≤ rs.length; omega, hG2⟩ (by show rs.length - (i + 1) < rs.length - i; omega) ⟨rfl, rfl, rfl, trivial⟩ (fun w h => h.split))
    · have e2 : (rs.take (i + 1)).filter toldB = (rs.take i).filter toldB := by
        rw [take_succ_of hr, List.filter_append]; simp [toldB, hl]
      repeat' (first | refine Cd.seq ?_ | refine Cd.reg ?_ | refine Ops.nil ?_ | refine Ops.mv rfl rfl rfl rfl ?_ | refine Ops.asg rfl rfl rfl rfl ?_ | refine Ops.nilP rfl rfl rfl rfl ?_ | refine Ops.fa0 rfl rfl rfl rfl ?_ | refine Ops.fa rfl rfl rfl rfl ?_ | refine Ops.ld1 rfl rfl rfl rfl rfl ?_ | refine Ops.lenS rfl rfl rfl rfl ?_ | refine Ops.addI rfl rfl rfl rfl (by omega) (by omega) rfl ?_ | refine Ops.bin rfl rfl rfl rfl rfl ?_ | refine Cd.block ?_ | refine Cd.skip (Cd.next ?_) | refine Cd.skip (Cd.next (Q' := fun _ _ _ => True) ?_) | refine Ops.ixa0 rfl rfl rfl rfl (by omega) (by omega) rfl ?_ | refine Ops.ldRow1 rfl rfl rfl (by assumption) (by assumption) rfl rfl ?_ | refine Cd.condT rfl (by first | rfl | assumption | (simp only [decide_eq_true_eq, decide_eq_false_iff_not, Bool.not_eq_true', Bool.not_eq_false', Bool.not_eq_eq_eq_not, Bool.not_true, Bool.not_false, beq_iff_eq, beq_eq_false_iff_ne, ne_eq, decide_eq_decide, eq_self, true_iff, iff_true, not_true_eq_false, not_false_eq_true]; first | done | omega)) ?_ | refine Cd.condF rfl (by first | rfl | assumption | (simp only [decide_eq_true_eq, decide_eq_false_iff_not, Bool.not_eq_true', Bool.not_eq_false', Bool.not_eq_eq_eq_not, Bool.not_true, Bool.not_false, beq_iff_eq, beq_eq_false_iff_ne, ne_eq, decide_eq_decide, eq_self, true_iff, iff_true, not_true_eq_false, not_false_eq_true]; first | done | omega)) ?_)
      exact Ops.nilN (round_end (⟨i + 1, _, H⟩ : TS) ⟨by show i + 1 ≤ rs.length; omega, by show OwnK _ ((rs.take (i + 1)).filter toldB) H; rw [e2]; exact hH⟩ (by show rs.length - (i + 1) < rs.length - i; omega) ⟨rfl, rfl, rfl, trivial⟩ (fun w h => h.split))
  · obtain rfl : i = rs.length := by omega
    rw [List.take_length] at hH ⊢
    repeat' (first | refine Cd.seq ?_ | refine Cd.reg ?_ | refine Ops.nil ?_ | refine Ops.mv rfl rfl rfl rfl ?_ | refine Ops.asg rfl rfl rfl rfl ?_ | refine Ops.nilP rfl rfl rfl rfl ?_ | refine Ops.fa0 rfl rfl rfl rfl ?_ | refine Ops.ld1 rfl rfl rfl rfl rfl ?_ | refine Ops.lenS rfl rfl rfl rfl ?_ | refine Ops.bin rfl rfl rfl rfl rfl ?_ | refine Cd.exit (Cd.next (Q' := fun _ _ _ => True) ?_) | refine Cd.condF rfl (by first | rfl | assumption | (simp only [decide_eq_true_eq, decide_eq_false_iff_not, Bool.not_eq_true', Bool.not_eq_false', Bool.not_eq_eq_eq_not, Bool.not_true, Bool.not_false, beq_iff_eq, beq_eq_false_iff_ne, ne_eq, decide_eq_decide, eq_self, true_iff, iff_true, not_true_eq_false, not_false_eq_true]; first | done | omega)) ?_)
    exact Cd.ret (ret1 (A' := H ++ TabR n (.slice a rs.length c) G) rfl (Res.tmp rfl) (fun _ h => h) ⟨H, rfl, hH⟩)

theorem same_eq (v1 v2 : Value) (l : List Dk) (G1 G2 : List Blk) (h1 : OwnK v1 l G1) (h2 : OwnK v2 l G2) (hlen : l.length ≤ 1000) :
    Con Try.prog 55 #[v1, v2] (G1 ++ G2) fun v A => v = .bool true ∧ A = G1 ++ G2 := by
  obtain ⟨a1, c1, rfl⟩ := h1.form
  obtain ⟨a2, c2, rfl⟩ := h2.form
  refine Con.intro (vs := [_, _]) Try.func55 rfl Try.ntmps55 rfl (fun B => ?_)
  repeat' (first | refine Cd.seq ?_ | refine Cd.reg ?_ | refine Ops.nil ?_ | refine Ops.mv rfl rfl rfl rfl ?_ | refine Ops.asg rfl rfl rfl rfl ?_ | refine Ops.lenS rfl rfl rfl rfl ?_ | refine Ops.bin rfl rfl rfl rfl rfl ?_ | refine Cd.block ?_ | refine Cd.skip (Cd.next ?_) | refine Cd.condF rfl (by first | rfl | assumption | (simp only [decide_eq_true_eq, decide_eq_false_iff_not, Bool.not_eq_true', Bool.not_eq_false', Bool.not_eq_eq_eq_not, Bool.not_true, Bool.not_false, beq_iff_eq, beq_eq_false_iff_ne, ne_eq, decide_eq_decide, eq_self, true_iff, iff_true, not_true_eq_false, not_false_eq_true]; first | done | omega)) ?_)
  refine Cd.loopK (fun i : Nat => i ≤ l.length) (fun i => [(0, .slice a1 l.length c1), (1, .slice a2 l.length c2), (5, .int .i64 i)]) (fun _ => G1 ++ G2) (fun i => l.length - i) 0 (Nat.zero_le _) ⟨rfl, rfl, rfl, trivial⟩ (fun w h => h) (fun i hi => ?_)
  by_cases hil : i < l.length
  · have hil' : (i : Int) < l.length := by omega
    obtain ⟨x, hx⟩ : ∃ x, l[i]? = some x := ⟨_, List.getElem?_eq_getElem hil⟩
    have hxr : (dks l)[(i : Int).toNat]? = some x.row := map_at hx
    have hk := dks_ok l
    obtain ⟨g1, d1, sp1, e1, rfl, _, _⟩ := h1.some_ (by omega)
    obtain ⟨g2, d2, sp2, e2, rfl, _, _⟩ := h2.some_ (by omega)
    injection e1 with q1 q2 q3
    injection e2 with q4 q5 q6
    subst q1; subst q3; subst q4; subst q6
    clear q2 q5
    repeat' (first | refine Cd.seq ?_ | refine Cd.reg ?_ | refine Ops.nil ?_ | refine Ops.mv rfl rfl rfl rfl ?_ | refine Ops.lenS rfl rfl rfl rfl ?_ | refine Ops.bin rfl rfl rfl rfl rfl ?_ | refine Cd.block ?_ | refine Cd.skip (Cd.next ?_) | refine Cd.condT rfl (by first | rfl | assumption | (simp only [decide_eq_true_eq, decide_eq_false_iff_not, Bool.not_eq_true', Bool.not_eq_false', Bool.not_eq_eq_eq_not, Bool.not_true, Bool.not_false, beq_iff_eq, beq_eq_false_iff_ne, ne_eq, decide_eq_decide, eq_self, true_iff, iff_true, not_true_eq_false, not_false_eq_true]; first | done | omega)) ?_)
    refine Cd.draw [(0, 0, []), (1, 0, []), (2, 0, []), (3, 1, []), (4, 0, []), (5, 0, []), (6, 0, []), (7, 1, []), (8, 0, [])] (by kernel_rfl) (by kernel_rfl) (by simp only [picked, nth]; exact rfl) ?_
    repeat' (first | refine Cd.reg ?_ | refine Ops.nil ?_ | refine Ops.mv rfl rfl rfl rfl ?_ | refine Ops.asg rfl rfl rfl rfl ?_ | refine Ops.addI rfl rfl rfl rfl (by omega) (by omega) rfl ?_ | refine Ops.bin rfl rfl rfl rfl rfl ?_ | refine Cd.condF rfl rfl ?_ | refine Cd.skip (Cd.next (Q' := fun _ _ _ => True) ?_) | refine Ops.ixa0 rfl rfl rfl rfl (by omega) (by omega) rfl ?_ | refine Ops.ldRow rfl rfl rfl (by assumption) (by assumption) rfl ?_)
    exact Ops.nilN (round_end (i + 1) (by show i + 1 ≤ l.length; omega) (by show l.length - (i + 1) < l.length - i; omega) ⟨rfl, rfl, rfl, trivial⟩ (fun w h => h))
  · repeat' (first | refine Cd.seq ?_ | refine Cd.reg ?_ | refine Ops.nil ?_ | refine Ops.mv rfl rfl rfl rfl ?_ | refine Ops.asg rfl rfl rfl rfl ?_ | refine Ops.lenS rfl rfl rfl rfl ?_ | refine Ops.bin rfl rfl rfl rfl rfl ?_ | refine Cd.exit (Cd.next (Q' := fun _ _ _ => True) ?_) | refine Cd.condF rfl (by first | rfl | assumption | (simp only [decide_eq_true_eq, decide_eq_false_iff_not, Bool.not_eq_true', Bool.not_eq_false', Bool.not_eq_eq_eq_not, Bool.not_true, Bool.not_false, beq_iff_eq, beq_eq_false_iff_ne, ne_eq, decide_eq_decide, eq_self, true_iff, iff_true, not_true_eq_false, not_false_eq_true]; first | done | omega)) ?_)
    exact Cd.ret (ret1 rfl (Res.tmp rfl) (fun w h => h) ⟨rfl, rfl⟩)
end Go.Proofs.Ytdfimjgbdipnjaa
