import Derived.Test.YtkcmjgjfodipfaaGreatA22
import Derived.Test.YtkcmjgjfodipfaaGreatA08
import Derived.Test.YtkcmjgjfodipfaaGreatA10
import Derived.Test.YtkcmjgjfodipfaaGreatA21
import Derived.Test.YtkcmjgjfodipfaaGreatA11
namespace Go.Proofs.YtkcmjgjfodipfaaGreat.Se
open Go Go.Sep Go.Proofs
set_option maxRecDepth 10000
set_option maxHeartbeats 8000000
set_option linter.unusedSimpArgs false
set_option linter.unusedVariables false
theorem sclone_spec (sv : Value) (rs : List Dk) (G : List Blk) (h : OwnK sv rs G) (hlen : rs.length ≤ 1000) :
    Con Tryz.prog 173 #[sv] G fun v A => ∃ G', A = G' ++ G ∧ OwnK v rs G' := by
  have h0 := h
  have hl : (dks rs).length = rs.length := dks_len rs
  rcases h.2 with ⟨rfl, hb, rfl⟩ | ⟨g, c, spare, rfl, rfl, hsp, hle⟩
  · obtain rfl : rs = [] := by simpa [dks] using hb
    refine Con.intro (vs := [_]) Tryz.func173 rfl Tryz.ntmps173 rfl (fun B => ?_)
    repeat' (first | refine Cd.seq ?_ | refine Cd.reg ?_ | refine Ops.nil ?_ | refine Ops.mv rfl rfl rfl rfl ?_ | refine Ops.asg rfl rfl rfl rfl ?_ | refine Ops.bin rfl rfl rfl rfl rfl ?_ | refine Cd.condT rfl rfl ?_)
    exact Cd.ret (ret1 (A' := []) rfl (Res.tmp rfl) (fun _ h => h) ⟨[], rfl, Own.none⟩)
  · rw [hl] at h hle ⊢
    refine Con.intro (vs := [_]) Tryz.func173 rfl Tryz.ntmps173 rfl (fun B => ?_)
    repeat' (first | refine Cd.seq ?_ | refine Cd.reg ?_ | refine Ops.nil ?_ | refine Ops.mv rfl rfl rfl rfl ?_ | refine Ops.asg rfl rfl rfl rfl ?_ | refine Ops.bin rfl rfl rfl rfl rfl ?_ | refine Ops.bs0 rfl rfl rfl (noPd rfl) (fun b => ?_) | refine Cd.condF rfl rfl ?_ | refine Cd.skip (Cd.next ?_))
    refine Ops.appS (rows := []) (news := dks rs) Own.empty (Reads.own h) (by simp; omega) (by simp; omega) rfl rfl rfl rfl rfl (noPd rfl) rfl (fun v G' hG' => ?_)
    obtain ⟨a', c', rfl⟩ := hG'.form
    repeat' (first | refine Ops.nil ?_ | refine Ops.asg rfl rfl rfl rfl ?_)
    exact Cd.ret (ret1 (A' := G' ++ [(g, cl ((dks rs).flatten ++ spare) 123)]) rfl (Res.tmp rfl) (fun _ h => h.split) ⟨G', rfl, by unfold OwnK; simpa using hG'⟩)
/-! all rows -/
theorem dead_spec (d : Dk) : Con Tryz.prog 215 #[.agg d.row.toArray] [] fun v A => v = .bool (decide (d.life = 0)) ∧ A = [] := by
  refine Con.intro (vs := [_]) Tryz.func215 rfl Tryz.ntmps215 rfl (fun B => ?_)
  repeat' (first | refine Cd.seq ?_ | refine Cd.reg ?_ | refine Ops.nil ?_ | refine Ops.asg rfl rfl rfl rfl ?_ | refine Ops.fa0 rfl rfl rfl rfl ?_ | refine Ops.ld1 rfl rfl rfl rfl rfl ?_ | refine Ops.bin rfl rfl rfl rfl rfl ?_ | refine Ops.box rfl rfl rfl rfl (noPd rfl) (fun b => ?_))
  exact Cd.ret (ret1 rfl (Res.tmp rfl) (fun _ h => h.tail) ⟨rfl, rfl⟩)
@[reducible] def deadF : Value := .func (.func 215) #[] #[]
def liveB (d : Dk) : Bool := !decide (d.life = 0)
theorem index_no (sv : Value) (rs : List Dk) (G : List Blk) (h : OwnK sv rs G) (hlen : rs.length ≤ 1000) (ha : ∀ r ∈ rs, r.life ≠ 0) :
    Con Tryz.prog 273 #[sv, deadF] G fun v A => v = .int .i64 (-1) ∧ A = G := by
  obtain ⟨a, c, rfl⟩ := h.form
  refine Con.intro (vs := [_, _]) Tryz.func273 rfl Tryz.ntmps273 rfl (fun B => ?_)
  repeat' (first | refine Cd.seq ?_ | refine Cd.reg ?_ | refine Ops.nil ?_ | refine Ops.mv rfl rfl rfl rfl ?_ | refine Ops.asg rfl rfl rfl rfl ?_ | refine Ops.lenS rfl rfl rfl rfl ?_ | refine Cd.block ?_)
  refine Cd.loopK (fun i : Nat => i ≤ rs.length) (fun i => [(0, .slice a rs.length c), (1, deadF), (7, .int .i64 rs.length), (8, .int .i64 i)]) (fun _ => G) (fun i => rs.length - i) 0 (Nat.zero_le _) ⟨rfl, rfl, rfl, rfl, trivial⟩ (fun w h => h) (fun i hi => ?_)
  by_cases hil : i < rs.length
  · have hil' : (i : Int) < rs.length := by omega
    obtain ⟨g, c2, spare, e1, rfl, hsp, hle⟩ := h.some_ (by omega)
    injection e1 with q1 q2 q3
    subst q1; subst q3
    obtain ⟨r, hr⟩ : ∃ r, rs[i]? = some r := ⟨_, List.getElem?_eq_getElem hil⟩
    have hok := dks_ok rs
    have hx : (dks rs)[(i : Int).toNat]? = some r.row := by simp [dks, hr]
    have hlf := ha r (List.mem_of_getElem? hr)
    repeat' (first | refine Cd.seq ?_ | refine Cd.reg ?_ | refine Ops.mv rfl rfl rfl rfl ?_ | refine Ops.asg rfl rfl rfl rfl ?_ | refine Ops.bin rfl rfl rfl rfl rfl ?_ | refine Cd.block ?_ | refine Cd.skip (Cd.next ?_) | refine Ops.ixa0 rfl rfl rfl rfl (by omega) (by omega) rfl ?_ | refine Ops.ldRow rfl rfl rfl (by assumption) (by assumption) rfl ?_ | refine Cd.condT rfl (by first | rfl | assumption | (simp only [decide_eq_true_eq, decide_eq_false_iff_not, Bool.not_eq_true', Bool.not_eq_false', Bool.not_eq_eq_eq_not, Bool.not_true, Bool.not_false, beq_iff_eq, beq_eq_false_iff_ne, ne_eq, decide_eq_decide, eq_self, true_iff, iff_true, not_true_eq_false, not_false_eq_true]; first | done | omega)) ?_)
    refine Ops.callV (f := 215) (fi := []) (ca := []) (dead_spec r) rfl (noPd rfl) rfl rfl rfl rfl (fun v A' hR => ?_)
    obtain ⟨rfl, rfl⟩ := hR
    repeat' (first | refine Cd.reg ?_ | refine Ops.nil ?_ | refine Ops.mv rfl rfl rfl rfl ?_ | refine Ops.addI rfl rfl rfl rfl (by omega) (by omega) rfl ?_ | refine Cd.skip (Cd.next (Q' := fun _ _ _ => True) ?_) | refine Cd.condF rfl (by first | rfl | assumption | (simp only [decide_eq_true_eq, decide_eq_false_iff_not, Bool.not_eq_true', Bool.not_eq_false', Bool.not_eq_eq_eq_not, Bool.not_true, Bool.not_false, beq_iff_eq, beq_eq_false_iff_ne, ne_eq, decide_eq_decide, eq_self, true_iff, iff_true, not_true_eq_false, not_false_eq_true]; first | done | omega)) ?_)
    exact Ops.nilN (round_end (i + 1) (by show i + 1 ≤ rs.length; omega) (by show rs.length - (i + 1) < rs.length - i; omega) ⟨rfl, rfl, rfl, rfl, trivial⟩ (fun w h => h.split))
  · obtain rfl : i = rs.length := by omega
    repeat' (first | refine Cd.seq ?_ | refine Cd.reg ?_ | refine Ops.nil ?_ | refine Ops.asg rfl rfl rfl rfl ?_ | refine Ops.bin rfl rfl rfl rfl rfl ?_ | refine Cd.exit (Cd.next (Q' := fun _ _ _ => True) ?_) | refine Cd.condF rfl (by first | rfl | assumption | (simp only [decide_eq_true_eq, decide_eq_false_iff_not, Bool.not_eq_true', Bool.not_eq_false', Bool.not_eq_eq_eq_not, Bool.not_true, Bool.not_false, beq_iff_eq, beq_eq_false_iff_ne, ne_eq, decide_eq_decide, eq_self, true_iff, iff_true, not_true_eq_false, not_false_eq_true]; first | done | omega)) ?_)
    exact Cd.ret (ret1 rfl (Res.tmp rfl) (fun _ h => h) ⟨rfl, rfl⟩)
theorem index_yes (sv : Value) (rs : List Dk) (G : List Blk) (k : Nat) (d : Dk) (h : OwnK sv rs G) (hlen : rs.length ≤ 1000) (ha : ∀ (i : Nat) r, rs[i]? = some r → i < k → r.life ≠ 0) (hk : rs[k]? = some d) (hd : d.life = 0) :
    Con Tryz.prog 273 #[sv, deadF] G fun v A => v = .int .i64 k ∧ A = G := by
  have hkl : k < rs.length := (List.getElem?_eq_some_iff.1 hk).1
  obtain ⟨g, c, spare, rfl, rfl, hsp, hle⟩ := h.some_ (by omega)
  have hok := dks_ok rs
  refine Con.intro (vs := [_, _]) Tryz.func273 rfl Tryz.ntmps273 rfl (fun B => ?_)
  repeat' (first | refine Cd.seq ?_ | refine Cd.reg ?_ | refine Ops.nil ?_ | refine Ops.mv rfl rfl rfl rfl ?_ | refine Ops.asg rfl rfl rfl rfl ?_ | refine Ops.lenS rfl rfl rfl rfl ?_ | refine Cd.block ?_)
  refine Cd.loopK (fun i : Nat => i ≤ k) (fun i => [(0, .slice (some ⟨g, 0, none⟩) rs.length c), (1, deadF), (7, .int .i64 rs.length), (8, .int .i64 i)]) (fun _ => [(g, cl ((dks rs).flatten ++ spare) 123)]) (fun i => k - i) 0 (Nat.zero_le _) ⟨rfl, rfl, rfl, rfl, trivial⟩ (fun w h => h) (fun i hi => ?_)
  have hil' : (i : Int) < rs.length := by omega
  obtain ⟨r, hr⟩ : ∃ r, rs[i]? = some r := ⟨_, List.getElem?_eq_getElem (by omega)⟩
  have hx : (dks rs)[(i : Int).toNat]? = some r.row := by simp [dks, hr]
  by_cases hik : i < k
  · have hlf := ha i r hr hik
    repeat' (first | refine Cd.seq ?_ | refine Cd.reg ?_ | refine Ops.mv rfl rfl rfl rfl ?_ | refine Ops.asg rfl rfl rfl rfl ?_ | refine Ops.bin rfl rfl rfl rfl rfl ?_ | refine Cd.block ?_ | refine Cd.skip (Cd.next ?_) | refine Ops.ixa0 rfl rfl rfl rfl (by omega) (by omega) rfl ?_ | refine Ops.ldRow rfl rfl rfl (by assumption) (by assumption) rfl ?_ | refine Cd.condT rfl (by first | rfl | assumption | (simp only [decide_eq_true_eq, decide_eq_false_iff_not, Bool.not_eq_true', Bool.not_eq_false', Bool.not_eq_eq_eq_not, Bool.not_true, Bool.not_false, beq_iff_eq, beq_eq_false_iff_ne, ne_eq, decide_eq_decide, eq_self, true_iff, iff_true, not_true_eq_false, not_false_eq_true]; first | done | omega)) ?_)
    refine Ops.callV (f := 215) (fi := []) (ca := []) (dead_spec r) rfl (noPd rfl) rfl rfl rfl rfl (fun v A' hR => ?_)
    obtain ⟨rfl, rfl⟩ := hR
    repeat' (first | refine Cd.reg ?_ | refine Ops.nil ?_ | refine Ops.mv rfl rfl rfl rfl ?_ | refine Ops.addI rfl rfl rfl rfl (by omega) (by omega) rfl ?_ | refine Cd.skip (Cd.next (Q' := fun _ _ _ => True) ?_) | refine Cd.condF rfl (by first | rfl | assumption | (simp only [decide_eq_true_eq, decide_eq_false_iff_not, Bool.not_eq_true', Bool.not_eq_false', Bool.not_eq_eq_eq_not, Bool.not_true, Bool.not_false, beq_iff_eq, beq_eq_false_iff_ne, ne_eq, decide_eq_decide, eq_self, true_iff, iff_true, not_true_eq_false, not_false_eq_true]; first | done | omega)) ?_)
    exact Ops.nilN (round_end (i + 1) (by show i + 1 ≤ k; omega) (by show k - (i + 1) < k - i; omega) ⟨rfl, rfl, rfl, rfl, trivial⟩ (fun w h => h.split))
  · obtain rfl : i = k := by omega
    obtain rfl : d = r := by rw [hk] at hr; exact Option.some.inj hr
    repeat' (first | refine Cd.seq ?_ | refine Cd.reg ?_ | refine Ops.mv rfl rfl rfl rfl ?_ | refine Ops.asg rfl rfl rfl rfl ?_ | refine Ops.bin rfl rfl rfl rfl rfl ?_ | refine Cd.block ?_ | refine Cd.skip (Cd.next ?_) | refine Ops.ixa0 rfl rfl rfl rfl (by omega) (by omega) rfl ?_ | refine Ops.ldRow rfl rfl rfl (by assumption) (by assumption) rfl ?_ | refine Cd.condT rfl (by first | rfl | assumption | (simp only [decide_eq_true_eq, decide_eq_false_iff_not, Bool.not_eq_true', Bool.not_eq_false', Bool.not_eq_eq_eq_not, Bool.not_true, Bool.not_false, beq_iff_eq, beq_eq_false_iff_ne, ne_eq, decide_eq_decide, eq_self, true_iff, iff_true, not_true_eq_false, not_false_eq_true]; first | done | omega)) ?_)
    refine Ops.callV (f := 215) (fi := []) (ca := []) (dead_spec d) rfl (noPd rfl) rfl rfl rfl rfl (fun v A' hR => ?_)
    obtain ⟨rfl, rfl⟩ := hR
    repeat' (first | refine Cd.seq ?_ | refine Cd.reg ?_ | refine Ops.nil ?_ | refine Ops.mv rfl rfl rfl rfl ?_ | refine Ops.asg rfl rfl rfl rfl ?_ | refine Cd.condT rfl (by first | rfl | assumption | (simp only [decide_eq_true_eq, decide_eq_false_iff_not, Bool.not_eq_true', Bool.not_eq_false', Bool.not_eq_eq_eq_not, Bool.not_true, Bool.not_false, beq_iff_eq, beq_eq_false_iff_ne, ne_eq, decide_eq_decide, eq_self, true_iff, iff_true, not_true_eq_false, not_false_eq_true]; first | done | omega)) ?_)
    exact Cd.ret (ret1 rfl (Res.tmp rfl) (fun _ h => h.split) ⟨rfl, rfl⟩)
theorem ins_rows {sz : Nat} {rows : List (List Value)} (spare zs : List Value) {i : Nat} (hk : RowsOk sz rows) (hi : i ≤ rows.length) :
    ins (rows.flatten ++ spare) (i * sz) zs = (rows.take i).flatten ++ (zs ++ ((rows.drop i).flatten ++ spare).drop zs.length) := by
  have e1 : rows.flatten = (rows.take i).flatten ++ (rows.drop i).flatten := by rw [← List.flatten_append, List.take_append_drop]
  have e2 : (rows.take i).flatten.length = i * sz := by
    have : RowsOk sz (rows.take i) := fun r h => hk r (List.mem_of_mem_take h)
    rw [this.len, List.length_take, Nat.min_eq_left hi]
  rw [e1, ← e2, List.append_assoc, ins_app, List.append_assoc]
/-- The rows below i are left, the rest is cleared. -/
theorem OwnK.cut {g c : Nat} {L : List Dk} {spare zs : List Value} {i : Nat} (hsp : (dks L).flatten.length + spare.length = c * 5) (hle : L.length ≤ c) (hi : i ≤ L.length) (hz : zs.length = (L.length - i) * 5) :
    OwnK (.slice (some ⟨g, 0, none⟩) i c) (L.take i) [(g, cl (ins ((dks L).flatten ++ spare) (i * 5) zs) 123)] := by
  have hl : (dks L).length = L.length := dks_len L
  have hf : (dks L).flatten.length = L.length * 5 := by rw [(dks_ok L).len, hl]
  have e1 : ins ((dks L).flatten ++ spare) (i * 5) zs = (dks (L.take i)).flatten ++ (zs ++ (((dks L).drop i).flatten ++ spare).drop zs.length) := by
    rw [ins_rows spare zs (dks_ok L) (by rw [hl]; exact hi)]
    simp [dks, List.map_take]
  have hlen : (ins ((dks L).flatten ++ spare) (i * 5) zs).length = c * 5 := by
    rw [ins_length (by rw [List.length_append]; omega), List.length_append, hsp]
  refine ⟨dks_ok _, .inr ⟨g, c, _, ?_, by rw [e1], ?_, ?_⟩⟩
  · rw [dks_len, List.length_take, Nat.min_eq_left hi]
  · rw [← List.length_append, ← e1, hlen]
  · rw [dks_len, List.length_take]; omega
structure DS where
  i : Nat
  j : Nat
  L : List Dk
def DSI (rs : List Dk) (s : DS) : Prop := s.i < s.j ∧ s.j ≤ rs.length ∧ s.L.length = rs.length ∧ s.L.take s.i = (rs.take s.j).filter liveB ∧ s.L.drop s.j = rs.drop s.j
theorem take_succ_of {α : Type} {l : List α} {j : Nat} {x : α} (h : l[j]? = some x) : l.take (j + 1) = l.take j ++ [x] := by
  obtain ⟨hj, rfl⟩ := List.getElem?_eq_some_iff.1 h
  rw [List.take_succ_eq_append_getElem hj]
theorem del_no (sv : Value) (rs : List Dk) (G : List Blk) (h : OwnK sv rs G) (hlen : rs.length ≤ 1000) (ha : ∀ r ∈ rs, r.life ≠ 0) :
    Con Tryz.prog 214 #[sv, deadF] G fun v A => v = sv ∧ A = G := by
  obtain ⟨a, c, rfl⟩ := h.form
  refine Con.intro (vs := [_, _]) Tryz.func214 rfl Tryz.ntmps214 rfl (fun B => ?_)
  repeat' (first | refine Cd.seq ?_ | refine Cd.reg ?_ | refine Ops.mv rfl rfl rfl rfl ?_ | refine Ops.asg rfl rfl rfl rfl ?_)
  refine Ops.call (index_no _ rs G h hlen ha) rfl (noPd rfl) rfl rfl rfl (fun v A' hR => ?_)
  obtain ⟨rfl, rfl⟩ := hR
  repeat' (first | refine Cd.seq ?_ | refine Cd.reg ?_ | refine Ops.nil ?_ | refine Ops.mv rfl rfl rfl rfl ?_ | refine Ops.asg rfl rfl rfl rfl ?_ | refine Ops.bin rfl rfl rfl rfl rfl ?_ | refine Cd.condT rfl rfl ?_)
  exact Cd.ret (ret1 rfl (Res.tmp rfl) (fun _ h => h.split) ⟨rfl, rfl⟩)
theorem del_yes (sv : Value) (rs : List Dk) (G : List Blk) (k : Nat) (d : Dk) (h : OwnK sv rs G) (hlen : rs.length ≤ 1000) (ha : ∀ (i : Nat) r, rs[i]? = some r → i < k → r.life ≠ 0) (hk : rs[k]? = some d) (hd : d.life = 0) :
    Con Tryz.prog 214 #[sv, deadF] G fun v A => OwnK v (rs.filter liveB) A := by
  have hkl : k < rs.length := (List.getElem?_eq_some_iff.1 hk).1
  have hO := h
  obtain ⟨g, c, spare, rfl, rfl, hsp, hle⟩ := h.some_ (by omega)
  have hfl : (rs.take k).filter liveB = rs.take k := by
    refine List.filter_eq_self.2 fun r hr => ?_
    obtain ⟨i, hi⟩ := List.getElem?_of_mem hr
    have hik : i < k := by
      have := (List.getElem?_eq_some_iff.1 hi).1
      rw [List.length_take] at this; omega
    rw [List.getElem?_take_of_lt hik] at hi
    simp [liveB, ha i r hi hik]
  refine Con.intro (vs := [_, _]) Tryz.func214 rfl Tryz.ntmps214 rfl (fun B => ?_)
  repeat' (first | refine Cd.seq ?_ | refine Cd.reg ?_ | refine Ops.mv rfl rfl rfl rfl ?_ | refine Ops.asg rfl rfl rfl rfl ?_)
  refine Ops.call (index_yes _ rs _ k d hO hlen ha hk hd) rfl (noPd rfl) rfl rfl rfl (fun v A' hR => ?_)
  obtain ⟨rfl, rfl⟩ := hR
  repeat' (first | refine Cd.seq ?_ | refine Cd.reg ?_ | refine Ops.nil ?_ | refine Ops.mv rfl rfl rfl rfl ?_ | refine Ops.asg rfl rfl rfl rfl ?_ | refine Ops.addI rfl rfl rfl rfl (by omega) (by omega) rfl ?_ | refine Ops.bin rfl rfl rfl rfl rfl ?_ | refine Cd.condF rfl rfl ?_ | refine Cd.block ?_ | refine Cd.skip (Cd.next ?_))
  refine Cd.loopK (DSI rs) (fun s => [(0, .slice (some ⟨g, 0, none⟩) rs.length c), (1, deadF), (5, .int .i64 s.i), (6, .int .i64 s.j)]) (fun s => [(g, cl ((dks s.L).flatten ++ spare) 123)]) (fun s => rs.length - s.j) ⟨k, k + 1, rs⟩
    ⟨Nat.lt_succ_self k, by show k + 1 ≤ rs.length; omega, rfl, by
      show rs.take k = (rs.take (k + 1)).filter liveB
      rw [take_succ_of hk, List.filter_append, hfl]; simp [liveB, hd], rfl⟩ ⟨rfl, rfl, rfl, rfl, trivial⟩ (fun w h => h.split) (fun s hI => ?_)
  obtain ⟨i, j, L⟩ := s
  obtain ⟨hij, hj, hL, ht, hdr⟩ := hI
  dsimp only at hij hj hL ht hdr ⊢
  have hll : (dks L).length = L.length := dks_len L
  have hok := dks_ok L
  by_cases hjl : j < rs.length
  · have hjl' : (j : Int) < rs.length := by omega
    obtain ⟨r, hr⟩ : ∃ r, rs[j]? = some r := ⟨_, List.getElem?_eq_getElem hjl⟩
    have hrL : L[j]? = some r := by
      have := congrArg (fun l => l[0]?) hdr
      simp only [List.getElem?_drop, Nat.add_zero] at this
      rw [this]; exact hr
    have hx : (dks L)[(j : Int).toNat]? = some r.row := by simp [dks, hrL]
    have hdr2 : L.drop (j + 1) = rs.drop (j + 1) := by
      have := congrArg (List.drop 1) hdr
      rw [List.drop_drop, List.drop_drop] at this
      exact this
    repeat' (first | refine Cd.seq ?_ | refine Cd.reg ?_ | refine Ops.nil ?_ | refine Ops.mv rfl rfl rfl rfl ?_ | refine Ops.ldN rfl rfl rfl rfl ?_ | refine Ops.lenS rfl rfl rfl rfl ?_ | refine Ops.bin rfl rfl rfl rfl rfl ?_ | refine Ops.alloc rfl rfl rfl (noPd rfl) (fun b => ?_) | refine Ops.stN rfl rfl rfl rfl rfl rfl (noPd rfl) ?_ | refine Cd.block ?_ | refine Cd.skip (Cd.next ?_) | refine Ops.ixa0 rfl rfl rfl rfl (by omega) (by omega) rfl ?_ | refine Ops.ldRow rfl rfl rfl (by assumption) (by assumption) rfl ?_ | refine Cd.condT rfl (by first | rfl | assumption | (simp only [decide_eq_true_eq, decide_eq_false_iff_not, Bool.not_eq_true', Bool.not_eq_false', Bool.not_eq_eq_eq_not, Bool.not_true, Bool.not_false, beq_iff_eq, beq_eq_false_iff_ne, ne_eq, decide_eq_decide, eq_self, true_iff, iff_true, not_true_eq_false, not_false_eq_true]; first | done | omega)) ?_)
    refine Ops.callV (f := 215) (fi := []) (ca := []) (dead_spec r) rfl (noPd rfl) rfl rfl rfl rfl (fun v A' hR => ?_)
    obtain ⟨rfl, rfl⟩ := hR
    by_cases hl : r.life = 0
    · have e2 : (rs.take (j + 1)).filter liveB = (rs.take j).filter liveB := by
        rw [take_succ_of hr, List.filter_append]; simp [liveB, hl]
      repeat' (first | refine Cd.reg ?_ | refine Ops.nil ?_ | refine Ops.mv rfl rfl rfl rfl ?_ | refine Ops.asg rfl rfl rfl rfl ?_ | refine Ops.addI rfl rfl rfl rfl (by omega) (by omega) rfl ?_ | refine Ops.un rfl rfl rfl rfl ?_ | refine Cd.skip (Cd.next (Q' := fun _ _ _ => True) ?_) | refine Cd.condF rfl (by first | rfl | assumption | (simp only [decide_eq_true_eq, decide_eq_false_iff_not, Bool.not_eq_true', Bool.not_eq_false', Bool.not_eq_eq_eq_not, Bool.not_true, Bool.not_false, beq_iff_eq, beq_eq_false_iff_ne, ne_eq, decide_eq_decide, eq_self, true_iff, iff_true, not_true_eq_false, not_false_eq_true]; first | done | omega)) ?_)
      exact Ops.nilN (round_end (⟨i, j + 1, L⟩ : DS) ⟨by show i < j + 1; omega, by show j + 1 ≤ rs.length; omega, hL, by show L.take i = _; rw [ht, e2], hdr2⟩ (by show rs.length - (j + 1) < rs.length - j; omega) ⟨rfl, rfl, rfl, rfl, trivial⟩ (fun w h => h.split))
    · have e2 : (rs.take (j + 1)).filter liveB = (rs.take j).filter liveB ++ [r] := by
        rw [take_succ_of hr, List.filter_append]; simp [liveB, hl]
      repeat' (first | refine Cd.seq ?_ | refine Cd.reg ?_ | refine Ops.nil ?_ | refine Ops.mv rfl rfl rfl rfl ?_ | refine Ops.ldN rfl rfl rfl rfl ?_ | refine Ops.un rfl rfl rfl rfl ?_ | refine Ops.ixa0 rfl rfl rfl rfl (by omega) (by omega) rfl ?_ | refine Cd.condT rfl (by first | rfl | assumption | (simp only [decide_eq_true_eq, decide_eq_false_iff_not, Bool.not_eq_true', Bool.not_eq_false', Bool.not_eq_eq_eq_not, Bool.not_true, Bool.not_false, beq_iff_eq, beq_eq_false_iff_ne, ne_eq, decide_eq_decide, eq_self, true_iff, iff_true, not_true_eq_false, not_false_eq_true]; first | done | omega)) ?_)
      refine Ops.stRow (rows := dks L) (i := (i : Int).toNat) rfl rfl rfl rfl rfl rfl hok (by rw [hll]; omega) (noPd rfl) ?_
      repeat' (first | refine Cd.reg ?_ | refine Ops.mv rfl rfl rfl rfl ?_ | refine Ops.asg rfl rfl rfl rfl ?_ | refine Ops.addI rfl rfl rfl rfl (by omega) (by omega) rfl ?_)
      have e3 : (dks L).set (i : Int).toNat [.int .i64 r.slot, .int .i64 r.life, .int .i64 r.session, .int .i64 r.last, .string r.reply] = dks (L.set i r) := by
        rw [Int.toNat_natCast]; unfold dks; rw [List.map_set]
      exact Ops.nilN (round_end (⟨i + 1, j + 1, L.set i r⟩ : DS) ⟨by show i + 1 < j + 1; omega, by show j + 1 ≤ rs.length; omega, by show (L.set i r).length = _; rw [List.length_set]; exact hL, by
          show (L.set i r).take (i + 1) = _
          rw [take_succ_of (x := r) (by rw [List.getElem?_set_self (by omega)]), List.take_set_of_le (Nat.le_refl i), ht, e2], by
          show (L.set i r).drop (j + 1) = _
          rw [List.drop_set_of_lt (by omega)]; exact hdr2⟩ (by show rs.length - (j + 1) < rs.length - j; omega) ⟨rfl, rfl, rfl, rfl, trivial⟩ (fun w h => by rw [e3] at h; exact h.split))
  · obtain rfl : j = rs.length := by omega
    rw [List.take_length] at ht
    repeat' (first | refine Cd.seq ?_ | refine Cd.reg ?_ | refine Ops.nil ?_ | refine Ops.mv rfl rfl rfl rfl ?_ | refine Ops.lenS rfl rfl rfl rfl ?_ | refine Ops.bin rfl rfl rfl rfl rfl ?_ | refine Cd.exit (Cd.next (Q' := fun _ _ _ => True) ?_) | refine Ops.slLo rfl rfl rfl rfl (by omega) (by omega) rfl ?_ | refine Cd.condF rfl (by first | rfl | assumption | (simp only [decide_eq_true_eq, decide_eq_false_iff_not, Bool.not_eq_true', Bool.not_eq_false', Bool.not_eq_eq_eq_not, Bool.not_true, Bool.not_false, beq_iff_eq, beq_eq_false_iff_ne, ne_eq, decide_eq_decide, eq_self, true_iff, iff_true, not_true_eq_false, not_false_eq_true]; first | done | omega)) ?_)
    refine Ops.clr (L := (dks L).flatten ++ spare) rfl rfl rfl (by rw [List.length_append]; rw [(dks_ok L).len, hll, hL]; rw [(dks_ok rs).len, dks_len] at hsp; exact hsp) (by omega) (by omega) rfl rfl (noPd rfl) ?_
    repeat' (first | refine Cd.seq ?_ | refine Cd.reg ?_ | refine Ops.nil ?_ | refine Ops.mv rfl rfl rfl rfl ?_ | refine Ops.asg rfl rfl rfl rfl ?_ | refine Ops.slHi rfl rfl rfl rfl (by omega) (by omega) rfl ?_)
    refine Cd.ret (ret1 rfl (Res.tmp rfl) (fun _ h => h) ?_)
    have := OwnK.cut (g := g) (c := c) (L := L) (spare := spare) (i := i) (zs := (List.replicate (rs.length - (i : Int).toNat) [.int .i64 0, .int .i64 0, .int .i64 0, .int .i64 0, .string ⟨#[]⟩]).flatten) (by rw [(dks_ok L).len, hll, hL]; rw [(dks_ok rs).len, dks_len] at hsp; exact hsp) (by omega) (by omega) (by simp [hL])
    rw [ht] at this
    exact this
theorem del_spec (sv : Value) (rs : List Dk) (G : List Blk) (h : OwnK sv rs G) (hlen : rs.length ≤ 1000) :
    Con Tryz.prog 214 #[sv, deadF] G fun v A => OwnK v (rs.filter liveB) A := by
  cases hf : rs.findIdx? (fun d : Dk => decide (d.life = 0)) with
  | none =>
    rw [List.findIdx?_eq_none_iff] at hf
    have ha : ∀ r ∈ rs, r.life ≠ 0 := fun r hr => by simpa using hf r hr
    have e : rs.filter liveB = rs := List.filter_eq_self.2 fun r hr => by simp [liveB, ha r hr]
    rw [e]
    exact (del_no sv rs G h hlen ha).mono fun v A ⟨e1, e2⟩ => by subst e1; subst e2; exact h
  | some k =>
    rw [List.findIdx?_eq_some_iff_getElem] at hf
    obtain ⟨hk, h1, h2⟩ := hf
    exact del_yes sv rs G k rs[k] h hlen (fun i r hi hik => by
      obtain ⟨hi', rfl⟩ := List.getElem?_eq_some_iff.1 hi
      simpa using h2 i hik) (List.getElem?_eq_getElem hk) (by simpa using h1)
theorem rows_spec (n : Nat) (sv : Value) (rs : List Dk) (G : List Blk) (h : OwnK sv rs G) (hlen : rs.length ≤ 1000) :
    Con Tryz.prog 137 #[ptr n] (TabB n sv G) fun v A => ∃ G', A = G' ++ TabB n sv G ∧ OwnK v (rs.filter liveB) G' := by
  obtain ⟨a, c, rfl⟩ := h.form
  refine Con.intro (vs := [_]) Tryz.func137 rfl Tryz.ntmps137 rfl (fun B => ?_)
  repeat' (first | refine Cd.seq ?_ | refine Cd.reg ?_ | refine Ops.mv rfl rfl rfl rfl ?_ | refine Ops.asg rfl rfl rfl rfl ?_ | refine Ops.nilP rfl rfl rfl rfl ?_ | refine Ops.fa0 rfl rfl rfl rfl ?_ | refine Ops.ld1 rfl rfl rfl rfl rfl ?_)
  refine Ops.call (sclone_spec _ rs G h hlen) rfl (noPd rfl) rfl rfl rfl (fun v A' hR => ?_)
  obtain ⟨G', rfl, hG'⟩ := hR
  obtain ⟨a', c', rfl⟩ := hG'.form
  skip
  refine Ops.call (del_spec _ rs G' hG' hlen) rfl (noPd rfl) rfl rfl rfl (fun v A' hR => ?_)
  obtain ⟨a2, c2, rfl⟩ := hR.form
  repeat' (first | refine Ops.nil ?_ | refine Ops.asg rfl rfl rfl rfl ?_)
  exact Cd.ret (ret1 (A' := A' ++ TabB n (.slice a rs.length c) G) rfl (Res.tmp rfl) (fun _ h => h.split) ⟨A', rfl, hR⟩)
end Go.Proofs.YtkcmjgjfodipfaaGreat.Se
namespace Go.Proofs.YtkcmjgjfodipfaaGreat
open Go Go.Sep Go.Proofs
set_option maxRecDepth 10000
set_option maxHeartbeats 40000000
set_option synthInstance.maxSize 2000
set_option linter.unusedSimpArgs false
set_option linter.unusedVariables false
/-! the parts of a fleet at its beginning -/
@[reducible] def Net0 (n : Nat) : Blk := (n, cl [.slice none 0 0, .int .i64 0] 68)
theorem nnew_spec : Con Tryz.prog 14 #[] [] fun v A => ∃ n, v = ptr n ∧ A = [Net0 n] := by
  refine Con.intro (vs := []) Tryz.func14 rfl Tryz.ntmps14 rfl (fun B => ?_)
  repeat' (first | refine Cd.seq ?_ | refine Cd.reg ?_ | refine Ops.nil ?_ | refine Ops.asg rfl rfl rfl rfl ?_ | refine Ops.bld rfl rfl rfl rfl ?_ | refine Ops.box rfl rfl rfl rfl (noPd rfl) (fun b => ?_))
  exact Cd.ret (ret1 rfl (Res.tmp rfl) (fun _ h => h) ⟨_, rfl, rfl⟩)
@[reducible] def Sink0 (n m : Nat) : List Blk := [(n, cl [.map (some m), .slice none 0 0] 77), (m, mpo [] 0)]
theorem knew_spec : Con Tryz.prog 17 #[] [] fun v A => ∃ n m, v = ptr n ∧ A = Sink0 n m := by
  refine Con.intro (vs := []) Tryz.func17 rfl Tryz.ntmps17 rfl (fun B => ?_)
  repeat' (first | refine Ops.mkM rfl rfl rfl (noPd rfl) (fun b => ?_) | refine Cd.seq ?_ | refine Cd.reg ?_ | refine Ops.nil ?_ | refine Ops.asg rfl rfl rfl rfl ?_ | refine Ops.bld rfl rfl rfl rfl ?_ | refine Ops.box rfl rfl rfl rfl (noPd rfl) (fun b => ?_))
  rename_i bm
  rename Nat => bn
  exact Cd.ret (ret1 (A' := Sink0 bn bm) rfl (Res.tmp rfl) (fun _ h => h.split) ⟨_, _, rfl, rfl⟩)
@[reducible] def Cal0 (n : Nat) (r : Int) : Blk := (n, cl [.int .i64 0, .int .i64 0, .int .i64 0, .int .i64 0, .int .i64 0, .int .i64 0, .int .i64 0, .int .i64 0, .int .u64 0, .string ⟨#[]⟩, .string ⟨#[]⟩, .int .i64 0, .int .i64 r, .int .i64 0, .int .i64 0, .int .i64 0] 277)
theorem ccnew_spec (r : Int) (h1 : 1 ≤ r) (h2 : r ≤ 16) : Con Tryz.prog 66 #[.int .i64 r] [] fun v A => ∃ b, v = .tuple #[ptr b, .int .i64 0] ∧ A = [Cal0 b r] := by
  refine Con.intro (vs := [_]) Tryz.func66 rfl Tryz.ntmps66 rfl (fun B => ?_)
  repeat' (first | refine Cd.seq ?_ | refine Cd.reg ?_ | refine Ops.nil ?_ | refine Ops.mv rfl rfl rfl rfl ?_ | refine Ops.asg rfl rfl rfl rfl ?_ | refine Ops.bin rfl rfl rfl rfl rfl ?_ | refine Ops.pickF rfl rfl rfl rfl rfl ?_ | refine Ops.bld rfl rfl rfl rfl ?_ | refine Ops.box rfl rfl rfl rfl (noPd rfl) (fun b => ?_) | refine Cd.skip (Cd.next ?_) | refine Cd.condF rfl (by first | rfl | assumption | (simp only [decide_eq_true_eq, decide_eq_false_iff_not, Bool.not_eq_true', Bool.not_eq_false', Bool.not_eq_eq_eq_not, Bool.not_true, Bool.not_false, beq_iff_eq, beq_eq_false_iff_ne, ne_eq, decide_eq_decide, eq_self, true_iff, iff_true, not_true_eq_false, not_false_eq_true]; first | done | omega)) ?_ | ((fail_if_success refine Ops.probe rfl ?_); refine Ops.gF rfl rfl (by first | rfl | assumption | (simp only [decide_eq_true_eq, decide_eq_false_iff_not, Bool.not_eq_true', Bool.not_eq_false', Bool.not_eq_eq_eq_not, Bool.not_true, Bool.not_false, beq_iff_eq, beq_eq_false_iff_ne, ne_eq, decide_eq_decide, eq_self, true_iff, iff_true, not_true_eq_false, not_false_eq_true]; first | done | omega)) ?_))
  exact Cd.ret (ret2 rfl (Res.tmp rfl) (Res.tmp rfl) (fun _ h => h) ⟨_, rfl, rfl⟩)
theorem cbusy_spec (n : Nat) (r : Int) : Con Tryz.prog 141 #[ptr n] [Cal0 n r] fun v A => v = .bool false ∧ A = [Cal0 n r] := by
  refine Con.intro (vs := [_]) Tryz.func141 rfl Tryz.ntmps141 rfl (fun B => ?_)
  repeat' (first | refine Cd.seq ?_ | refine Cd.reg ?_ | refine Ops.nil ?_ | refine Ops.mv rfl rfl rfl rfl ?_ | refine Ops.asg rfl rfl rfl rfl ?_ | refine Ops.nilP rfl rfl rfl rfl ?_ | refine Ops.fa0 rfl rfl rfl rfl ?_ | refine Ops.ld1 rfl rfl rfl rfl rfl ?_ | refine Ops.bin rfl rfl rfl rfl rfl ?_ | fail)
  exact Cd.ret (ret1 rfl (Res.tmp rfl) (fun _ h => h) ⟨rfl, rfl⟩)
theorem ctimer_spec (n : Nat) (r : Int) : Con Tryz.prog 142 #[ptr n] [Cal0 n r] fun v A => v = .int .i64 0 ∧ A = [Cal0 n r] := by
  refine Con.intro (vs := [_]) Tryz.func142 rfl Tryz.ntmps142 rfl (fun B => ?_)
  repeat' (first | refine Cd.seq ?_ | refine Cd.reg ?_ | refine Ops.nil ?_ | refine Ops.mv rfl rfl rfl rfl ?_ | refine Ops.asg rfl rfl rfl rfl ?_ | refine Ops.nilP rfl rfl rfl rfl ?_ | refine Ops.fa0 rfl rfl rfl rfl ?_ | refine Ops.ld1 rfl rfl rfl rfl rfl ?_)
  exact Cd.ret (ret1 rfl (Res.tmp rfl) (fun _ h => h) ⟨rfl, rfl⟩)
theorem cwaits_spec (n : Nat) (r : Int) : Con Tryz.prog 140 #[ptr n] [Cal0 n r] fun v A => v = .int .i64 0 ∧ A = [Cal0 n r] := by
  refine Con.intro (vs := [_]) Tryz.func140 rfl Tryz.ntmps140 rfl (fun B => ?_)
  repeat' (first | refine Cd.seq ?_ | refine Cd.reg ?_ | refine Ops.nil ?_ | refine Ops.mv rfl rfl rfl rfl ?_ | refine Ops.asg rfl rfl rfl rfl ?_ | refine Ops.nilP rfl rfl rfl rfl ?_ | refine Ops.fa0 rfl rfl rfl rfl ?_ | refine Ops.ld1 rfl rfl rfl rfl rfl ?_)
  exact Cd.ret (ret1 rfl (Res.tmp rfl) (fun _ h => h) ⟨rfl, rfl⟩)
theorem csession_spec (n : Nat) (r : Int) : Con Tryz.prog 139 #[ptr n] [Cal0 n r] fun v A => v = .int .i64 0 ∧ A = [Cal0 n r] := by
  refine Con.intro (vs := [_]) Tryz.func139 rfl Tryz.ntmps139 rfl (fun B => ?_)
  repeat' (first | refine Cd.seq ?_ | refine Cd.reg ?_ | refine Ops.nil ?_ | refine Ops.mv rfl rfl rfl rfl ?_ | refine Ops.asg rfl rfl rfl rfl ?_ | refine Ops.nilP rfl rfl rfl rfl ?_ | refine Ops.fa0 rfl rfl rfl rfl ?_ | refine Ops.ld1 rfl rfl rfl rfl rfl ?_)
  exact Cd.ret (ret1 rfl (Res.tmp rfl) (fun _ h => h) ⟨rfl, rfl⟩)
theorem dforget_spec (db : Nat) (x : Dk) (k : Nat) (D : List Blk) (hD : DkA db x k D) : Con Tryz.prog 19 #[ptr db] D fun v A => DkA db x 0 A := by
  obtain ⟨⟨g, c, sp, rv, rows, H, rfl, ho, hr, hc, hs⟩, h2, h3, h4, h5, h6, h7⟩ := hD
  refine Con.intro (vs := [_]) Tryz.func19 rfl Tryz.ntmps19 rfl (fun B => ?_)
  repeat' (first | refine Cd.reg ?_ | refine Ops.mv rfl rfl rfl rfl ?_ | refine Ops.nilP rfl rfl rfl rfl ?_ | refine Ops.fa0 rfl rfl rfl rfl ?_ | refine Ops.st1 rfl rfl rfl rfl rfl (noPd rfl) ?_)
  exact Ops.nilN (end0 (A' := [DkB db g c x.S.length (.slice none 0 0) x.ar x.bd x.de, SeB g x.S sp]) rfl (fun _ h => h.split) ⟨⟨g, c, sp, _, [], [], rfl, Own.none, Nat.le_refl _, hc, hs⟩, h2, by omega, h4, h5, h6, h7⟩)
end Go.Proofs.YtkcmjgjfodipfaaGreat
/- An interface that holds something is not nil. -/
namespace Go.Sep
open Go
section
variable {P : Program}
theorem eqIn_ifaceSome {t : TypeId} {d0 : TypeDesc} [h : TyD P t d0] (hi : ∃ m, d0 = .interface m) {u : TypeId} {v : Value} {w : World} (d : Nat) : (Op.equalIn (d + 1) t (.iface u v) .nilIface).run P w = .ok false w := by
  obtain ⟨m, rfl⟩ := hi
  simp [Op.equalIn, h.run_und]
theorem run_neqGuard_iface {t u : TypeId} {xo : Operand} {c v : Value} {w : World} : (eqGuard .neq t xo (.const c) (.iface u v) .nilIface).run P w = .ok () w := by
  unfold eqGuard
  simp
variable {N : Fi} {B : Base} {Q : Exit → Act → World → Prop} {T : Tm} {A : List Blk} {ops : Array Oper} {l : List Oper}
variable {d : Nat} {ty : TypeId} {pos : String} {af : Array Edge} {m : Md} {gd : Option (Nat × Bool)}
theorem Ops.neqIfaceNil {t t' u : TypeId} {d0 : TypeDesc} {x : Operand} {v : Value} [h : TyD P t d0] (hi : ∃ m, d0 = .interface m) (hm : m.rd true = true) (hg : gst ops T gd = some true) (hx : ev T x = some (.iface u v)) (hd : Nat.blt d N.n = true)
    (k : Ops P N B Q ops m.tl l ((d, .bool true) :: T) A) : Ops P N B Q ops m (⟨some d, .binOp .neq t x (.const .nilIface) t', ty, pos, af, gd⟩ :: l) T A :=
  Ops.pureV hm hg hd (fun a w hF => by
    have h1 : (binOp .neq t (.iface u v) .nilIface).run P w = .ok (.bool true) w := run_neq rfl fun d => eqIn_ifaceSome hi d
    have hy : a.eval (.const .nilIface) = .nilIface := rfl
    simp only [execOp, hF.eval hx, hy, Sem.run_bind, run_neqGuard_iface, Result.andThen_ok, h1]
    rfl) k
end
end Go.Sep
/- A slice of rows that the text has just built, of any number. -/
namespace Go.Sep
open Go
theorem fill_rows {sz : Nat} : ∀ (vs : List Value) (k : Nat) (done rest : List Value), (∀ v ∈ vs, v.cells.toList.length = sz) → done.length = k * sz → rest.length = vs.length * sz →
    Instr.fill (fun i => some (i * sz, sz)) (done ++ rest).toArray (vs.mapIdx fun i v => (k + i, v)) = some (done ++ (vs.map fun v => v.cells.toList).flatten).toArray
  | [], k, done, rest, _, _, h3 => by
    have : rest = [] := by cases rest with
      | nil => rfl
      | cons _ _ => simp at h3
    subst this
    simp [Instr.fill]
  | v :: vs, k, done, rest, h1, h2, h3 => by
    have hv := h1 v (List.mem_cons_self ..)
    rw [List.mapIdx_cons]
    have hle : sz ≤ rest.length := by rw [h3, List.length_cons, Nat.add_mul]; omega
    rw [fill_one (off := (k + 0) * sz) (size := sz) (vs := v.cells.toList) (by simp) (by simp) hv (by simp [h2, hv]; omega)]
    rw [Nat.add_zero, ← h2, ins_app, hv]
    have ih := fill_rows vs (k + 1) (done ++ v.cells.toList) (rest.drop sz) (fun u hu => h1 u (List.mem_cons_of_mem _ hu)) (by rw [List.length_append, h2, hv, Nat.add_mul]; omega) (by rw [List.length_drop, h3, List.length_cons, Nat.add_mul]; omega)
    rw [show (vs.mapIdx fun i v => (k + (i + 1), v)) = vs.mapIdx fun i v => (k + 1 + i, v) from by
      congr 1; funext i x; rw [show k + (i + 1) = k + 1 + i from by omega]]
    rw [ih]
    simp
section
variable {P : Program} {N : Fi} {B : Base} {Q : Exit → Act → World → Prop} {T : Tm} {A : List Blk} {ops : Array Oper} {l : List Oper}
variable {d : Nat} {ty : TypeId} {pos : String} {af : Array Edge} {m : Md} {gd : Option (Nat × Bool)}
theorem parts_eval {a : Act} {n : Nat} : ∀ (ps : List (Nat × Operand)) (vs : List Value) (k : Nat), ps.map (·.1) = (List.range ps.length).map (k + ·) → ps.map (fun p => a.eval p.2) = vs → ps.map (fun (i, x) => (i, a.eval x)) = vs.mapIdx fun i v => (k + i, v)
  | [], vs, k, _, h2 => by simp at h2; subst h2; rfl
  | (i, x) :: ps, vs, k, h1, h2 => by
    simp only [List.map_cons, List.length_cons, List.range_succ_eq_map, List.map_map, List.cons.injEq] at h1 h2
    subst h2
    rw [List.mapIdx_cons]
    have := parts_eval (a := a) (n := n) ps _ (k + 1) (by rw [h1.2]; apply List.map_congr_left; intro q _; simp; omega) rfl
    simp only [List.map_cons, h1.1]
    rw [this]
    congr 2
    funext j v
    rw [show k + 1 + j = k + (j + 1) from by omega]
theorem Ops.bsN {t e : TypeId} {ge : Bool} {sz' bs' n : Nat} {zc' vs : List Value} {ps : Array (Nat × Operand)} (rows : List (List Value)) (hm : m.eff = true) (hg : gst ops T gd = some true) [ht : TyD P t (.slice e)] [he : Ty P e ge sz' bs' zc']
    (hi : ps.toList.map (·.1) = List.range n) (hx : evs T (ps.toList.map (·.2)) = some vs) (hn : vs.length = n) (hr : (vs.map fun v => v.cells.toList) = rows) (hl : (rows.all fun r => r.length == sz') = true) (h0 : Nat.blt 0 (n * sz') = true) (hsz : Nat.ble (n * sz') 16777216 = true) (hd : Nat.blt d N.n = true)
    (hp : Pd P N B ops m T (some d) (NewR (fun b => .slice (some ⟨b, 0, none⟩) n n) (cl (rows.flatten ++ []) e) A)) (k : ∀ b, Ops P N B Q ops m.tl l ((d, .slice (some ⟨b, 0, none⟩) n n) :: T) ((b, cl (rows.flatten ++ []) e) :: A)) : Ops P N B Q ops m (⟨some d, .buildSlice t n ps, ty, pos, af, gd⟩ :: l) T A :=
  Ops.new (v := fun b => .slice (some ⟨b, 0, none⟩) n n) hm hp hg hd (fun a w hF hS => by
    obtain ⟨z, hz, hzc⟩ := he.run_zero (w := w)
    have h0' : ¬ n * sz' = 0 := by rw [Nat.blt_eq] at h0; omega
    have h1 : ¬ (16777216 < n * sz') := by rw [Nat.ble_eq] at hsz; omega
    have hlen : ps.toList.length = n := by have := congrArg List.length hi; simpa using this
    have hev : ps.toList.map (fun p => a.eval p.2) = vs := by have := hF.evals hx; rw [List.map_map] at this; exact this
    have hpe := parts_eval (a := a) (n := n) ps.toList vs 0 (by rw [hi, hlen]; simp) hev
    simp only [Nat.zero_add] at hpe
    have hsz2 : ∀ v ∈ vs, v.cells.toList.length = sz' := fun v hv => by
      have h2 := List.all_eq_true.1 hl v.cells.toList (by rw [← hr]; exact List.mem_map.2 ⟨v, hv, rfl⟩)
      simpa using h2
    have hf := fill_rows (sz := sz') vs 0 [] ((Array.range (n * sz')).map (fun i => z.cells[i % z.cells.size]!)).toList hsz2 (by simp) (by simp [hn])
    simp only [Nat.zero_add, List.nil_append, Array.toArray_toList] at hf
    have hpt : (ps.map fun (i, x) => (i, a.eval x)).toList = vs.mapIdx fun i v => (i, v) := by rw [Array.toList_map]; exact hpe
    simp only [execOp, Instr.buildSlice, ht.run_und, he.run_size, Sem.run_bind, Result.andThen_ok, Sem.run_pure, Sem.run_ite, gt_iff_lt, show (2:Nat)^24 = 16777216 from rfl, if_neg h1, h0', if_false, hz, hpt, hf, hr]
    simp [newRow, cl]) k
end
end Go.Sep
