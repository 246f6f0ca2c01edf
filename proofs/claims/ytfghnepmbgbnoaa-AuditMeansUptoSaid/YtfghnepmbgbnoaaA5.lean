import Derived.Test.YtfghnepmbgbnoaaA4
namespace Go.Proofs.Ytfghnepmbgbnoaa
open Go Go.Sep Go.Proofs
set_option maxRecDepth 10000
set_option maxHeartbeats 4000000
set_option synthInstance.maxSize 2000
set_option linter.unusedSimpArgs false
set_option linter.unusedVariables false

theorem eget (l : List EN) (j b : Int) : (pfind j b (eents l) 0 = none ∧ lookE (l.map EN.pure) j b = []) ∨
    ∃ (k : Nat) (x : EN), l[k]? = some x ∧ pfind j b (eents l) 0 = some (k, .slice x.ea x.evs.length x.ec) ∧ lookE (l.map EN.pure) j b = x.evs ∧ x.job = j ∧ x.badge = b ∧ ∀ i y, i < k → l[i]? = some y → ¬ (j = y.job ∧ b = y.badge) := by
  unfold eents
  suffices ∀ n, (pfind j b (l.map EN.pe) n = none ∧ lookE (l.map EN.pure) j b = []) ∨ ∃ (k : Nat) (x : EN), l[k]? = some x ∧ pfind j b (l.map EN.pe) n = some (n + k, .slice x.ea x.evs.length x.ec) ∧ lookE (l.map EN.pure) j b = x.evs ∧ x.job = j ∧ x.badge = b ∧ ∀ i y, i < k → l[i]? = some y → ¬ (j = y.job ∧ b = y.badge) by
    have := this 0
    simpa using this
  induction l with
  | nil => intro n; exact .inl ⟨rfl, rfl⟩
  | cons x l ih =>
    intro n
    simp only [List.map_cons, pfind, lookE]
    by_cases hc : j = x.job ∧ b = x.badge
    · refine .inr ⟨0, x, rfl, ?_, ?_, hc.1.symm, hc.2.symm, fun i y hi => by omega⟩
      · rw [if_pos (show j = x.pe.a ∧ b = x.pe.b from hc)]; rfl
      · rw [if_pos (show j = x.pure.1 ∧ b = x.pure.2.1 from hc)]; rfl
    · rw [if_neg (show ¬ (j = x.pe.a ∧ b = x.pe.b) from hc), if_neg (show ¬ (j = x.pure.1 ∧ b = x.pure.2.1) from hc)]
      rcases ih (n + 1) with h | ⟨k, y, h1, h2, h3, h4, h5, h6⟩
      · exact .inl h
      · refine .inr ⟨k + 1, y, h1, by rw [h2, show n + (k + 1) = n + 1 + k from by omega], h3, h4, h5, fun i z hi hz => ?_⟩
        cases i with
        | zero =>
          simp only [List.getElem?_cons_zero, Option.some.injEq] at hz
          subst hz; exact hc
        | succ i => exact h6 i z (by omega) hz

theorem real_core (ab : Nat) (ja : Option Addr) (jn jc : Nat) (s : SR) (ba : Option Addr) (bc : Nat) (xs : List Int) (BG XG : List Blk) (es : List PE) (a : Option Addr) (c : Nat) (evs : List Ev) (e : Ev) (count : Int) (counts : Bool)
    (hB : OwnI (.slice ba xs.length bc) xs BG) (hlen : xs.length ≤ 90) (hO : OwnV (.slice a evs.length c) evs XG) (hl : evs.length ≤ 2000000) (hget : (pget es e.job e.badge).getD (.slice none 0 0) = .slice a evs.length c) :
    Con Try.prog 46 #[ptr ab, .agg e.row.toArray, .int .i64 count, .bool counts] (AB ab ja jn jc s (.slice ba xs.length bc) :: (s.em, pm es) :: (XG ++ BG))
      fun v A => ∃ ba' bc' BG', A = AB ab ja jn jc s (.slice ba' (xs ++ (brk 2 (!evs.any fun x => sameR x e) ++ brk 6 (counts && !evs.any fun x => decide (x.count = count)))).length bc') :: (s.em, pm es) :: (XG ++ BG')
        ∧ OwnI (.slice ba' (xs ++ (brk 2 (!evs.any fun x => sameR x e) ++ brk 6 (counts && !evs.any fun x => decide (x.count = count)))).length bc') (xs ++ (brk 2 (!evs.any fun x => sameR x e) ++ brk 6 (counts && !evs.any fun x => decide (x.count = count)))) BG' := by
  refine Con.intro (vs := [_, _, _, _]) Try.func46 rfl Try.ntmps46 rfl (fun B => ?_)
  refine Cd.seq ?_
  refine Cd.reg ?_
  refine Ops.box rfl rfl rfl rfl (noPd rfl) (fun b5 => ?_)
  refine Ops.box rfl rfl rfl rfl (noPd rfl) (fun b6 => ?_)
  repeat' (first | refine Cd.seq ?_)
  refine Cd.draw [(0, 0, []), (1, 0, []), (2, 0, []), (3, 1, []), (4, 0, []), (5, 1, []), (6, 0, []), (7, 1, []), (8, 0, []), (9, 1, []), (10, 0, [])] (by kernel_rfl) (by kernel_rfl) (by simp only [picked, nth]; exact rfl) ?_
  repeat' (first | refine Ops.mv rfl rfl rfl rfl ?_ | refine Ops.nilP rfl rfl rfl rfl ?_ | refine Ops.fa0 rfl rfl rfl rfl ?_ | refine Ops.ld1 rfl rfl rfl rfl rfl ?_ | refine Ops.bld rfl rfl rfl rfl ?_)
  refine Ops.lkP1 (i := e.job) (j := e.badge) rfl rfl rfl rfl rfl ?_
  rw [hget]
  repeat' (first | refine Ops.mkF rfl rfl rfl rfl rfl ?_ | refine Cd.seq ?_ | refine Cd.reg ?_ | refine Ops.nil ?_ | refine Ops.mv rfl rfl rfl rfl ?_ | refine Ops.asg rfl rfl rfl rfl ?_)
  refine Ops.call (Con.lend fun B0 hG => contains_spec B0 a c evs 59 [] [ptr b5] [(b5, cl e.row 39)] (fun x => sameR x e) (hO.vin hG) hl (fun x _ => real1_spec b5 e x)) rfl (noPd rfl) rfl rfl rfl (fun v A' hR => ?_)
  obtain ⟨_, ⟨rfl, rfl⟩, rfl⟩ := hR
  repeat' (first | refine Ops.un rfl rfl rfl rfl ?_)
  have hlen1 : (brk 2 (!evs.any fun x => sameR x e)).length ≤ 1 := by unfold brk; split <;> simp
  refine Ops.call (breaks_spec ab ja jn jc s ba bc xs BG 2 (!evs.any fun x => sameR x e) hB (by omega)) rfl (noPd rfl) rfl rfl rfl (fun v A' hR => ?_)
  obtain ⟨ba2, bc2, BG2, rfl, hB2⟩ := hR
  cases counts with
  | false =>
    repeat' (first | refine Cd.reg ?_ | refine Ops.mv rfl rfl rfl rfl ?_ | refine Ops.pickF rfl rfl rfl rfl rfl ?_ | refine Ops.gSkip rfl rfl rfl ?_)
    refine Ops.call (breaks_spec ab ja jn jc s ba2 bc2 (xs ++ brk 2 (!evs.any fun x => sameR x e)) BG2 6 false hB2 (by rw [List.length_append]; omega)) rfl (noPd rfl) rfl rfl rfl (fun v A' hR => ?_)
    obtain ⟨ba3, bc3, BG3, rfl, hB3⟩ := hR
    rw [List.append_assoc] at hB3 ⊢
    exact Ops.nilN (end0 rfl (fun _ h => (h.split : Sat _ (AB ab ja jn jc s (.slice ba3 (xs ++ (brk 2 (!evs.any fun x => sameR x e) ++ brk 6 false)).length bc3) :: (s.em, pm es) :: (XG ++ BG3)) _)) ⟨ba3, bc3, BG3, rfl, hB3⟩)
  | true =>
    repeat' (first | refine Ops.mkF rfl rfl rfl rfl rfl ?_ | refine Cd.reg ?_ | refine Ops.mv rfl rfl rfl rfl ?_)
    refine Ops.call (Con.lend fun B0 hG => contains_spec B0 a c evs 60 [] [ptr b6] [(b6, cl [.int .i64 count] 3)] (fun x => decide (x.count = count)) (hO.vin hG) hl (fun x _ => real2_spec b6 count x)) rfl (noPd rfl) rfl rfl rfl (fun v A' hR => ?_)
    obtain ⟨_, ⟨rfl, rfl⟩, rfl⟩ := hR
    repeat' (first | refine Ops.un rfl rfl rfl rfl ?_ | refine Ops.pickT rfl rfl rfl rfl rfl ?_)
    refine Ops.call (breaks_spec ab ja jn jc s ba2 bc2 (xs ++ brk 2 (!evs.any fun x => sameR x e)) BG2 6 (!evs.any fun x => decide (x.count = count)) hB2 (by rw [List.length_append]; omega)) rfl (noPd rfl) rfl rfl rfl (fun v A' hR => ?_)
    obtain ⟨ba3, bc3, BG3, rfl, hB3⟩ := hR
    rw [List.append_assoc] at hB3 ⊢
    exact Ops.nilN (end0 rfl (fun _ h => (h.split : Sat _ (AB ab ja jn jc s (.slice ba3 (xs ++ (brk 2 (!evs.any fun x => sameR x e) ++ brk 6 (!evs.any fun x => decide (x.count = count)))).length bc3) :: (s.em, pm es) :: (XG ++ BG3)) _)) ⟨ba3, bc3, BG3, rfl, hB3⟩)

theorem real_spec (ab : Nat) (ja : Option Addr) (jn jc : Nat) (s : SR) (ba : Option Addr) (bc : Nat) (xs : List Int) (BG : List Blk) (ends : List EN) (e : Ev) (count : Int) (counts : Bool)
    (hB : OwnI (.slice ba xs.length bc) xs BG) (hlen : xs.length ≤ 90) (hE : ∀ x ∈ ends, x.ok ∧ x.evs.length ≤ 2000000) :
    Con Try.prog 46 #[ptr ab, .agg e.row.toArray, .int .i64 count, .bool counts] (AB ab ja jn jc s (.slice ba xs.length bc) :: (s.em, pm (eents ends)) :: (ends.flatMap EN.G ++ BG))
      fun v A => ∃ ba' bc' BG', A = AB ab ja jn jc s (.slice ba' (xs ++ realL (ends.map EN.pure) e count counts).length bc') :: (s.em, pm (eents ends)) :: (ends.flatMap EN.G ++ BG') ∧ OwnI (.slice ba' (xs ++ realL (ends.map EN.pure) e count counts).length bc') (xs ++ realL (ends.map EN.pure) e count counts) BG' := by
  unfold realL
  rcases eget ends e.job e.badge with ⟨h1, h2⟩ | ⟨k, x, hk, h1, h2, h3, h4, _⟩
  · rw [h2]
    have hc := real_core ab ja jn jc s ba bc xs BG [] (eents ends) none 0 [] e count counts hB hlen Own.none (by simp) (by unfold pget; rw [h1]; rfl)
    have := hc.beside (F := ends.flatMap EN.G)
    refine (this.permIn ?_).permOut (fun v A' hR => ?_)
    · exact ((List.perm_append_comm (l₁ := ends.flatMap EN.G) (l₂ := BG)).cons _).cons _
    · obtain ⟨A2, ⟨ba', bc', BG', rfl, hB'⟩, rfl⟩ := hR
      exact ⟨_, ⟨ba', bc', BG', rfl, hB'⟩, ((List.perm_append_comm (l₁ := BG') (l₂ := ends.flatMap EN.G)).cons _).cons _⟩
  · rw [h2]
    obtain ⟨hx, hxl⟩ := hE x (List.mem_of_getElem? hk)
    have hc := real_core ab ja jn jc s ba bc xs BG x.G (eents ends) x.ea x.ec x.evs e count counts hB hlen hx hxl (by unfold pget; rw [h1]; rfl)
    have := hc.beside (F := (ends.eraseIdx k).flatMap EN.G)
    have hp := flat_out (f := EN.G) hk
    have hp2 : ∀ Y : List Blk, (ends.flatMap EN.G ++ Y).Perm ((x.G ++ Y) ++ (ends.eraseIdx k).flatMap EN.G) := fun Y => (hp.append_right Y).trans (by rw [List.append_assoc, List.append_assoc]; exact List.perm_append_comm.append_left _)
    refine (this.permIn ?_).permOut (fun v A' hR => ?_)
    · exact ((hp2 BG).cons _).cons _
    · obtain ⟨A2, ⟨ba', bc', BG', rfl, hB'⟩, rfl⟩ := hR
      exact ⟨_, ⟨ba', bc', BG', rfl, hB'⟩, (((hp2 BG').symm).cons _).cons _⟩

/-! an end is noted -/
theorem putE_none : ∀ {m : Es} {e : Ev}, (∀ t ∈ m, ¬ (e.job = t.1 ∧ e.badge = t.2.1)) → putE m e = m ++ [(e.job, e.badge, [e])]
  | [], e, _ => rfl
  | t :: m, e, h => by
    unfold putE
    rw [if_neg (h t (List.mem_cons_self ..)), putE_none fun t ht => h t (List.mem_cons_of_mem _ ht)]; rfl
theorem putE_some : ∀ {m : Es} {e : Ev} {k : Nat} {t : Int × Int × List Ev}, m[k]? = some t → (e.job = t.1 ∧ e.badge = t.2.1) → (∀ i y, i < k → m[i]? = some y → ¬ (e.job = y.1 ∧ e.badge = y.2.1)) → putE m e = m.set k (t.1, t.2.1, t.2.2 ++ [e])
  | [], _, _, _, h, _, _ => by simp at h
  | u :: m, e, 0, t, h, hc, _ => by
    simp only [List.getElem?_cons_zero, Option.some.injEq] at h
    subst h
    unfold putE; rw [if_pos hc]; rfl
  | u :: m, e, k + 1, t, h, hc, hn => by
    unfold putE
    rw [if_neg (hn 0 u (by omega) rfl), putE_some (k := k) (by simpa using h) hc fun i y hi hy => hn (i + 1) y (by omega) (by simpa using hy)]; rfl
theorem pfind_none' {a b : Int} : ∀ {es : List PE} {n : Nat}, pfind a b es n = none → ∀ e ∈ es, ¬ (a = e.a ∧ b = e.b)
  | [], _, _, _, h => by cases h
  | e :: es, n, hf, x, hx => by
    unfold pfind at hf
    split at hf
    · cases hf
    · rename_i hc
      rcases List.mem_cons.1 hx with rfl | hx
      · exact hc
      · exact pfind_none' hf x hx

theorem end_core (ab vb : Nat) (ja : Option Addr) (jn jc : Nat) (s : SR) (bv : Value) (XG : List Blk) (es : List PE) (a : Option Addr) (c : Nat) (evs : List Ev) (e : Ev) (pe : PE)
    (hO : OwnV (.slice a evs.length c) evs XG) (hl : evs.length ≤ 2000000) (hget : (pget es e.job e.badge).getD (.slice none 0 0) = .slice a evs.length c) (hat : (ptouch es e.job e.badge (.slice none 0 0))[pslot es e.job e.badge]? = some pe) :
    Con Try.prog 32 #[.agg e.row.toArray, ptr vb] ((vb, cl [ptr ab] 48) :: AB ab ja jn jc s bv :: (s.em, pm es) :: XG)
      fun v A => ∃ a' c' XG', A = (vb, cl [ptr ab] 48) :: AB ab ja jn jc s bv :: (s.em, pm ((ptouch es e.job e.badge (.slice none 0 0)).set (pslot es e.job e.badge) ⟨pe.a, pe.b, .slice a' (evs ++ [e]).length c'⟩)) :: XG' ∧ OwnV (.slice a' (evs ++ [e]).length c') (evs ++ [e]) XG' := by
  have hll : (evs.map Ev.row).length = evs.length := List.length_map _
  refine Con.intro (vs := [_, _]) Try.func32 rfl Try.ntmps32 rfl (fun B => ?_)
  repeat' (first | refine Cd.seq ?_ | refine Cd.reg ?_ | refine Ops.nil ?_ | refine Ops.fa0 rfl rfl rfl rfl ?_ | refine Ops.ld1 rfl rfl rfl rfl rfl ?_ | refine Ops.bld rfl rfl rfl rfl ?_ | refine Ops.box rfl rfl rfl rfl (noPd rfl) (fun b => ?_) | refine Ops.alloc rfl rfl rfl (noPd rfl) (fun b => ?_) | refine Ops.stN rfl rfl rfl rfl rfl rfl (noPd rfl) ?_)
  refine Cd.draw [(0, 1, []), (1, 0, []), (2, 0, []), (3, 1, []), (4, 1, []), (5, 1, []), (6, 2, [0, 3, 4]), (7, 2, []), (8, 0, []), (10, 0, []), (9, 2, []), (11, 2, [])] (by kernel_rfl) (by kernel_rfl) (by simp only [picked, nth]; exact rfl) ?_
  repeat' (first | refine Ops.nilP rfl rfl rfl rfl ?_ | refine Ops.fa0 rfl rfl rfl rfl ?_ | refine Ops.ld1 rfl rfl rfl rfl rfl ?_ | refine Ops.ldN rfl rfl rfl rfl ?_ | refine Ops.bs1 rfl rfl rfl rfl rfl rfl rfl (by first | exact noPd rfl | (intro v A' hR i hi; obtain ⟨b, rfl, rfl⟩ := hR; (repeat (rcases List.mem_cons.1 hi with rfl | hi; · (first | exact Still.ld1 rfl rfl rfl rfl rfl | exact Still.ldN rfl rfl rfl rfl | exact Still.len rfl rfl rfl rfl rfl | exact Still.skip rfl rfl rfl | exact Still.ldRow1 rfl rfl rfl (by assumption) (by assumption) rfl rfl | exact Still.ldR rfl rfl rfl (by apply_assumption) rfl))); cases hi)) (fun b => ?_))
  refine Ops.meP (i := e.job) (j := e.badge) rfl rfl rfl rfl (noPd rfl) rfl ?_
  rw [hget]
  repeat' (first | refine Ops.ext rfl rfl rfl rfl rfl ?_)
  refine Ops.app1 (rows := evs.map Ev.row) hO (by rw [hll]; omega) (by rw [hll]; omega) rfl rfl rfl rfl (by rfl) (by rfl) rfl (noPd rfl) rfl (fun v G' hG' => ?_)
  have hG2 : OwnV v (evs ++ [e]) G' := by
    unfold OwnV; rw [List.map_append]; exact hG'
  clear hG'
  obtain ⟨a', c', rfl⟩ := hG2.form
  skip
  refine Ops.esP hat rfl rfl rfl rfl rfl (noPd rfl) ?_
  exact Ops.nilN (end0 rfl (fun _ h => (h.split : Sat _ ((vb, cl [ptr ab] 48) :: AB ab ja jn jc s bv :: (s.em, pm ((ptouch es e.job e.badge (.slice none 0 0)).set (pslot es e.job e.badge) ⟨pe.a, pe.b, .slice a' (evs ++ [e]).length c'⟩)) :: G') _)) ⟨a', c', G', rfl, hG2⟩)
theorem end_spec (ab vb : Nat) (ja : Option Addr) (jn jc : Nat) (s : SR) (bv : Value) (ends : List EN) (e : Ev) (k : Nat) (hk : k ≤ 1000000) (hE : ∀ x ∈ ends, x.ok ∧ x.evs.length ≤ k) :
    Con Try.prog 32 #[.agg e.row.toArray, ptr vb] ((vb, cl [ptr ab] 48) :: AB ab ja jn jc s bv :: (s.em, pm (eents ends)) :: ends.flatMap EN.G)
      fun v A => ∃ ends', A = (vb, cl [ptr ab] 48) :: AB ab ja jn jc s bv :: (s.em, pm (eents ends')) :: ends'.flatMap EN.G ∧ (∀ x ∈ ends', x.ok ∧ x.evs.length ≤ k + 1) ∧ ends'.map EN.pure = putE (ends.map EN.pure) e := by
  rcases eget ends e.job e.badge with ⟨h1, h2⟩ | ⟨q, x, hq, h1, h2, h3, h4, h5⟩
  · have hc := end_core ab vb ja jn jc s bv [] (eents ends) none 0 [] e ⟨e.job, e.badge, .slice none 0 0⟩ Own.none (by simp) (by unfold pget; rw [h1]; rfl) (by unfold ptouch pslot; rw [h1]; simp)
    refine (hc.beside (F := ends.flatMap EN.G)).permOut (fun v A' hR => ?_)
    obtain ⟨_, ⟨a', c', XG', rfl, hX⟩, rfl⟩ := hR
    refine ⟨_, ⟨ends ++ [⟨e.job, e.badge, [e], a', c', XG'⟩], rfl, fun y hy => ?_, ?_⟩, ?_⟩
    · rcases List.mem_append.1 hy with hy | hy
      · have := hE y hy; exact ⟨this.1, by omega⟩
      · obtain rfl := List.mem_singleton.1 hy
        exact ⟨hX, by show 1 ≤ k + 1; omega⟩
    · rw [putE_none fun t ht => by
        obtain ⟨y, hy, rfl⟩ := List.mem_map.1 ht
        exact pfind_none' h1 y.pe (List.mem_map_of_mem hy)]
      simp [EN.pure]
    · have e1 : eents (ends ++ [⟨e.job, e.badge, [e], a', c', XG'⟩]) = (ptouch (eents ends) e.job e.badge (.slice none 0 0)).set (pslot (eents ends) e.job e.badge) ⟨e.job, e.badge, .slice a' ([] ++ [e]).length c'⟩ := by
        unfold ptouch pslot
        rw [h1]
        simp [eents, EN.pe, List.set_append]
      rw [e1]
      simp only [List.flatMap_append, List.flatMap_cons, List.flatMap_nil, List.append_nil, List.cons_append]
      exact ((List.perm_append_comm.cons _).cons _).cons _
  · obtain ⟨hx, hxl⟩ := hE x (List.mem_of_getElem? hq)
    have hlt := (List.getElem?_eq_some_iff.1 hq).1
    have hc := end_core ab vb ja jn jc s bv x.G (eents ends) x.ea x.ec x.evs e x.pe hx (by omega) (by unfold pget; rw [h1]; rfl) (by unfold ptouch pslot; rw [h1]; simp [eents, hq])
    have hp := flat_out (f := EN.G) hq
    refine ((hc.beside (F := (ends.eraseIdx q).flatMap EN.G)).permIn ?_).permOut (fun v A' hR => ?_)
    · exact ((hp.cons _).cons _).cons _
    obtain ⟨_, ⟨a', c', XG', rfl, hX⟩, rfl⟩ := hR
    refine ⟨_, ⟨ends.set q ⟨x.job, x.badge, x.evs ++ [e], a', c', XG'⟩, rfl, fun y hy => ?_, ?_⟩, ?_⟩
    · rcases List.mem_or_eq_of_mem_set hy with hy | rfl
      · have := hE y hy; exact ⟨this.1, by omega⟩
      · exact ⟨hX, by show (x.evs ++ [e]).length ≤ k + 1; simp; omega⟩
    · rw [putE_some (k := q) (t := x.pure) (by rw [List.getElem?_map, hq]; rfl) ⟨h3.symm, h4.symm⟩ fun i y hi hy => by
        rw [List.getElem?_map] at hy
        cases hz : ends[i]? with
        | none => rw [hz] at hy; cases hy
        | some z =>
          rw [hz] at hy
          injection hy with hy
          subst hy
          exact h5 i z hi hz]
      rw [List.map_set]; rfl
    · have e1 : eents (ends.set q ⟨x.job, x.badge, x.evs ++ [e], a', c', XG'⟩) = (ptouch (eents ends) e.job e.badge (.slice none 0 0)).set (pslot (eents ends) e.job e.badge) ⟨x.pe.a, x.pe.b, .slice a' (x.evs ++ [e]).length c'⟩ := by
        unfold ptouch pslot
        rw [h1]
        simp [eents, EN.pe, List.map_set]
      rw [e1]
      simp only [List.cons_append]
      exact (((flat_set (f := EN.G) (x := (⟨x.job, x.badge, x.evs ++ [e], a', c', XG'⟩ : EN)) hlt).symm.cons _).cons _).cons _
end Go.Proofs.Ytfghnepmbgbnoaa
