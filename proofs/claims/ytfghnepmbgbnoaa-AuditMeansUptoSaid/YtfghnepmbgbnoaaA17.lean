import Derived.Test.YtfghnepmbgbnoaaA16
namespace Go.Proofs.Ytfghnepmbgbnoaa
open Go Go.Sep Go.Proofs
set_option maxRecDepth 10000
set_option maxHeartbeats 8000000
set_option synthInstance.maxSize 2000
set_option linter.unusedSimpArgs false
set_option linter.unusedVariables false

/-! what is found of a beginning -/
def Lex (a b : Int × Int) : Prop := a.2 < b.2 ∨ (a.2 = b.2 ∧ a.1 < b.1)
theorem runF_cons (a : Au) (n : Nat) (e : Ev) (l : List Ev) : runF a n (e :: l) = ((runF (evF a e).1 (n + 1) l).1, (evF a e).2.map (fun q => (q, (n : Int))) ++ (runF (evF a e).1 (n + 1) l).2) := rfl
theorem runF_app : ∀ (x y : List Ev) (a : Au) (n : Nat), runF a n (x ++ y) = ((runF (runF a n x).1 (n + x.length) y).1, (runF a n x).2 ++ (runF (runF a n x).1 (n + x.length) y).2)
  | [], y, a, n => by
    show runF a n y = ((runF a (n + 0) y).1, [] ++ (runF a (n + 0) y).2)
    rw [Nat.add_zero, List.nil_append]
  | e :: x, y, a, n => by
    rw [List.cons_append, runF_cons, runF_app x y _ (n + 1), runF_cons, List.append_assoc]
    dsimp only
    rw [List.length_cons, show n + 1 + x.length = n + (x.length + 1) from by omega]
theorem norm_in (l : List Int) : In8 (norm l) := fun n hn => by
  have := (List.mem_filter.1 hn).1
  simp only [List.mem_cons, List.not_mem_nil, or_false] at this
  omega
theorem runF_ok : ∀ (l : List Ev) (a : Au) (n : Nat), (∀ f ∈ (runF a n l).2, (n : Int) ≤ f.2 ∧ f.2 < n + l.length ∧ 1 ≤ f.1 ∧ f.1 ≤ 8) ∧ (runF a n l).2.Pairwise Lex
  | [], _, _ => ⟨(fun f hf => by cases hf), List.Pairwise.nil⟩
  | e :: l, a, n => by
    obtain ⟨h1, h2⟩ := runF_ok l (evF a e).1 (n + 1)
    have h3 : ∀ f ∈ (evF a e).2.map (fun q => (q, (n : Int))), f.2 = n ∧ 1 ≤ f.1 ∧ f.1 ≤ 8 := fun f hf => by
      obtain ⟨q, hq, rfl⟩ := List.mem_map.1 hf
      exact ⟨rfl, norm_in _ q hq⟩
    unfold runF
    refine ⟨fun f hf => ?_, List.pairwise_append.2 ⟨?_, h2, fun f hf g hg => ?_⟩⟩
    · simp only [List.length_cons]
      rcases List.mem_append.1 hf with hf | hf
      · have := h3 f hf; omega
      · have := h1 f hf; omega
    · rw [List.pairwise_map]
      exact (norm_sorted _).imp fun h => .inr ⟨rfl, h⟩
    · have := h3 f hf; have := h1 g hg; exact .inl (by omega)
theorem allF_take {l : List Ev} {r : List (Int × Int)} (h : allF l = (r, 0)) (n : Nat) (hn : n ≤ l.length) : ∃ r1 r2, allF (l.take n) = (r1, 0) ∧ r = r1 ++ r2 ∧ (∀ f ∈ r1, f.2 < n) ∧ ∀ f ∈ r2, (n : Int) ≤ f.2 := by
  unfold allF at h
  split at h
  · cases h
  · split at h
    · cases h
    · rename_i h1 h2
      injection h with h
      have hap := runF_app (l.take n) (l.drop n) Au.new 0
      rw [List.take_append_drop, Nat.zero_add, List.length_take, Nat.min_eq_left hn] at hap
      refine ⟨(runF Au.new 0 (l.take n)).2, (runF (runF Au.new 0 (l.take n)).1 n (l.drop n)).2, ?_, by rw [← h, hap], fun f hf => ?_, fun f hf => ((runF_ok _ _ _).1 f hf).1⟩
      · unfold allF
        rw [if_neg (by rw [List.length_take]; omega), if_neg]
        intro hc
        obtain ⟨e, he, hb⟩ := List.any_eq_true.1 hc
        exact h2 (List.any_eq_true.2 ⟨e, List.mem_of_mem_take he, hb⟩)
      · have := ((runF_ok (l.take n) Au.new 0).1 f hf).2.1
        rw [List.length_take, Nat.min_eq_left hn] at this
        omega
theorem allF_ok {l : List Ev} {r : List (Int × Int)} (h : allF l = (r, 0)) : l.length ≤ 65536 ∧ (∀ e ∈ l, mayE e = true) ∧ r = (runF Au.new 0 l).2 := by
  unfold allF at h
  split at h
  · cases h
  · split at h
    · cases h
    · rename_i h1 h2
      injection h with h
      refine ⟨by omega, fun e he => ?_, h.symm⟩
      have h2' : (l.any fun e => !mayE e) = false := by simpa using h2
      have := List.any_eq_false.1 h2' e he
      simpa using this
theorem allF_err {l : List Ev} (h : (allF l).2 ≠ 0) : (allF l).1 = [] ∧ ((allF l).2 = 211 ∨ (allF l).2 = 210) := by
  unfold allF at h ⊢
  split
  · exact ⟨rfl, .inr rfl⟩
  · split
    · exact ⟨rfl, .inl rfl⟩
    · rename_i h1 h2
      rw [if_neg h1, if_neg h2] at h
      exact absurd rfl h
theorem LsOk.take {B : Base} {a : Option Addr} {l : List Ev} (h : LsOk B a l) (n : Nat) : LsOk B a (l.take n) :=
  ⟨fun i e he => h.vin i e (by rw [List.getElem?_take] at he; split at he; exact he; cases he), fun e he => h.sin e (List.mem_of_mem_take he), fun e he => h.cap e (List.mem_of_mem_take he), by
    have e1 := List.take_append_drop n l
    have : totT l = totT (l.take n) + totT (l.drop n) := by
      conv => lhs; rw [← e1]
      simp only [totT, List.map_append, List.sum_append]
    have := h.tot; omega, by have := h.few; rw [List.length_take]; omega⟩

/-! two rows of faults -/
def FIn (B : Base) (a : Option Addr) (l : List (Int × Int)) : Prop := ∀ (i : Nat) (f : Int × Int), l[i]? = some f → ∃ b off, a = some ⟨b, off, none⟩ ∧ ∀ A j u, (frow f)[j]? = some u → Rd B A b (off + i * 2 + j) u
theorem RsF.fin {a : Option Addr} {n c : Nat} {l : List (Int × Int)} {G : List Blk} (h : RsF (.slice a n c) l G) {B : Base} (hG : Holds B G) (k : Nat) : FIn B a (l.take k) := fun i e he => by
  have he : l[i]? = some e := by rw [List.getElem?_take] at he; split at he; exact he; cases he
  have hlt := (List.getElem?_eq_some_iff.1 he).1
  rcases h.2 with ⟨_, h2, _⟩ | ⟨g, c', spare, h1, h2⟩
  · have : l = [] := by simpa using h2
    subst this; cases he
  injection h1 with e1 e2 e3
  refine ⟨g, 0, e1, fun A j u hu => ?_⟩
  have hrow : (l.map frow)[i]? = some (frow e) := by rw [List.getElem?_map, he]; rfl
  have hj : j < 2 := (List.getElem?_eq_some_iff.1 hu).1
  have h5 := (fr_ok l).at_ hrow hj
  rw [Nat.zero_add]
  exact hG.cell (l := (l.map frow).flatten ++ spare) (by rw [h2]; exact List.mem_singleton.2 rfl) (by rw [List.getElem?_append_left (List.getElem?_eq_some_iff.1 (h5.trans hu)).1, h5, hu]) A
theorem same_spec (B0 : Base) (a a' : Option Addr) (c c' : Nat) (l l' : List (Int × Int)) (hS : FIn B0 a l) (hS' : FIn B0 a' l') (hl : l.length ≤ 2000000) :
    ConB Try.prog B0 9 #[.slice a l.length c, .slice a' l'.length c'] [] fun v A => v = .bool (decide (l = l')) ∧ A = [] := by
  refine ConB.intro (vs := [_, _]) Try.func9 rfl Try.ntmps9 rfl (fun B hx => ?_)
  have hS : FIn B.plain a l := fun i f hf => by
    obtain ⟨b, off, h1, h2⟩ := hS i f hf
    exact ⟨b, off, h1, fun A j u hu => (h2 A j u hu).ext hx⟩
  have hS' : FIn B.plain a' l' := fun i f hf => by
    obtain ⟨b, off, h1, h2⟩ := hS' i f hf
    exact ⟨b, off, h1, fun A j u hu => (h2 A j u hu).ext hx⟩
  generalize B.plain = B1 at hS hS' ⊢
  clear hx
  by_cases hn : l.length = l'.length
  · have hn' : (l.length : Int) = l'.length := by omega
    repeat' (first | refine Cd.seq ?_ | refine Cd.reg ?_ | refine Ops.nil ?_ | refine Ops.mv rfl rfl rfl rfl ?_ | refine Ops.asg rfl rfl rfl rfl ?_ | refine Ops.lenS rfl rfl rfl rfl ?_ | refine Ops.bin rfl rfl rfl rfl rfl ?_ | refine Cd.block ?_ | refine Cd.skip (Cd.next ?_) | refine Cd.condF rfl (by first | rfl | assumption | (simp only [decide_eq_true_eq, decide_eq_false_iff_not, Bool.not_eq_true', Bool.not_eq_false', Bool.not_eq_eq_eq_not, Bool.not_true, Bool.not_false, beq_iff_eq, beq_eq_false_iff_ne, ne_eq, decide_eq_decide, eq_self, true_iff, iff_true, not_true_eq_false, not_false_eq_true]; first | done | omega)) ?_)
    refine Cd.loopK (fun i : Nat => i ≤ l.length ∧ l.take i = l'.take i) (fun i => [(0, .slice a l.length c), (1, .slice a' l'.length c'), (5, .int .i64 i)])
      (fun _ => []) (fun i => l.length - i) 0 ⟨Nat.zero_le _, by simp⟩ ⟨rfl, rfl, rfl, trivial⟩ (fun w h => h) (fun i hI => ?_)
    obtain ⟨hi, hem⟩ := hI
    by_cases hil : i < l.length
    · have hil' : (i : Int) < l.length := by omega
      have hil2 : (i : Int) < l'.length := by omega
      obtain ⟨x, hx⟩ : ∃ x, l[i]? = some x := ⟨_, List.getElem?_eq_getElem hil⟩
      obtain ⟨x', hx'⟩ : ∃ x, l'[i]? = some x := ⟨_, List.getElem?_eq_getElem (by omega)⟩
      obtain ⟨b, off, rfl, hrd⟩ := hS i x hx
      obtain ⟨b', off', rfl, hrd'⟩ := hS' i x' hx'
      have hr0 : ∀ A j u, (frow x)[j]? = some u → Rd B1 A b (off + (i : Int).toNat * 2 + j) u := fun A j u hu => by rw [Int.toNat_natCast]; exact hrd A j u hu
      have hr1 : ∀ A j u, (frow x')[j]? = some u → Rd B1 A b' (off' + (i : Int).toNat * 2 + j) u := fun A j u hu => by rw [Int.toNat_natCast]; exact hrd' A j u hu
      have ht : ∀ {q : List (Int × Int)} {y : Int × Int}, q[i]? = some y → q.take (i + 1) = q.take i ++ [y] := fun {q y} hq => by
        obtain ⟨h1, rfl⟩ := List.getElem?_eq_some_iff.1 hq
        rw [List.take_succ_eq_append_getElem h1]
      repeat' (first | refine Cd.seq ?_ | refine Cd.reg ?_ | refine Ops.nil ?_ | refine Ops.mv rfl rfl rfl rfl ?_ | refine Ops.lenS rfl rfl rfl rfl ?_ | refine Ops.bin rfl rfl rfl rfl rfl ?_ | refine Cd.block ?_ | refine Cd.skip (Cd.next ?_) | refine Cd.condT rfl (by first | rfl | assumption | (simp only [decide_eq_true_eq, decide_eq_false_iff_not, Bool.not_eq_true', Bool.not_eq_false', Bool.not_eq_eq_eq_not, Bool.not_true, Bool.not_false, beq_iff_eq, beq_eq_false_iff_ne, ne_eq, decide_eq_decide, eq_self, true_iff, iff_true, not_true_eq_false, not_false_eq_true]; first | done | omega)) ?_)
      refine Cd.draw [(0, 0, []), (1, 0, []), (2, 0, []), (3, 1, []), (4, 0, []), (5, 0, []), (6, 0, []), (7, 1, []), (8, 0, [])] (by kernel_rfl) (by kernel_rfl) (by simp only [picked, nth]; exact rfl) ?_
      repeat' (first | refine Ops.mv rfl rfl rfl rfl ?_ | refine Ops.ixa rfl rfl rfl rfl (by omega) (by omega) rfl ?_)
      refine Ops.ldRN (r := frow x) rfl rfl rfl rfl (hr0 _) rfl ?_
      repeat' (first | refine Ops.mv rfl rfl rfl rfl ?_ | refine Ops.ixa rfl rfl rfl rfl (by omega) (by omega) rfl ?_)
      refine Ops.ldRN (r := frow x') rfl rfl rfl rfl (hr1 _) rfl ?_
      by_cases hq : x = x'
      · have hq' : (!(decide (x.1 = x'.1) && (decide (x.2 = x'.2) && true))) = false := by simp [hq]
        repeat' (first | refine Cd.reg ?_ | refine Ops.nil ?_ | refine Ops.mv rfl rfl rfl rfl ?_ | refine Ops.asg rfl rfl rfl rfl ?_ | refine Ops.addI rfl rfl rfl rfl (by omega) (by omega) rfl ?_ | refine Ops.bin rfl rfl rfl rfl rfl ?_ | refine Cd.skip (Cd.next (Q' := fun _ _ _ => True) ?_) | refine Cd.condF rfl (by first | rfl | assumption | (simp only [decide_eq_true_eq, decide_eq_false_iff_not, Bool.not_eq_true', Bool.not_eq_false', Bool.not_eq_eq_eq_not, Bool.not_true, Bool.not_false, beq_iff_eq, beq_eq_false_iff_ne, ne_eq, decide_eq_decide, eq_self, true_iff, iff_true, not_true_eq_false, not_false_eq_true]; first | done | omega)) ?_)
        exact Ops.nilN (round_end (i + 1) ⟨by show i + 1 ≤ l.length; omega, by rw [ht hx, ht hx', hem, hq]⟩ (by show l.length - (i + 1) < l.length - i; omega) ⟨rfl, rfl, rfl, trivial⟩ (fun w h => h.split))
      · have hq' : (!(decide (x.1 = x'.1) && (decide (x.2 = x'.2) && true))) = true := by
          have : ¬ (x.1 = x'.1 ∧ x.2 = x'.2) := fun h => hq (Prod.ext h.1 h.2)
          rw [Bool.and_true, ← Bool.decide_and]
          simp only [Bool.not_eq_true', decide_eq_false_iff_not]
          exact this
        repeat' (first | refine Cd.seq ?_ | refine Cd.reg ?_ | refine Ops.nil ?_ | refine Ops.asg rfl rfl rfl rfl ?_ | refine Ops.bin rfl rfl rfl rfl rfl ?_ | refine Cd.condT rfl (by first | rfl | assumption | (simp only [decide_eq_true_eq, decide_eq_false_iff_not, Bool.not_eq_true', Bool.not_eq_false', Bool.not_eq_eq_eq_not, Bool.not_true, Bool.not_false, beq_iff_eq, beq_eq_false_iff_ne, ne_eq, decide_eq_decide, eq_self, true_iff, iff_true, not_true_eq_false, not_false_eq_true]; first | done | omega)) ?_)
        exact Cd.ret (ret1 (A' := []) rfl (Res.tmp rfl) (fun _ h => h.split) ⟨by
          have : l ≠ l' := fun e => by subst e; rw [hx] at hx'; injection hx' with e; exact hq e
          simp [this], rfl⟩)
    · obtain rfl : i = l.length := by omega
      have hil' : ¬ ((l.length : Nat) : Int) < l.length := by omega
      have : l = l' := by
        rw [List.take_length, hn, List.take_length] at hem; exact hem
      repeat' (first | refine Cd.seq ?_ | refine Cd.reg ?_ | refine Ops.nil ?_ | refine Ops.mv rfl rfl rfl rfl ?_ | refine Ops.asg rfl rfl rfl rfl ?_ | refine Ops.lenS rfl rfl rfl rfl ?_ | refine Ops.bin rfl rfl rfl rfl rfl ?_ | refine Cd.exit (Cd.next (Q' := fun _ _ _ => True) ?_) | refine Cd.condF rfl (by first | rfl | assumption | (simp only [decide_eq_true_eq, decide_eq_false_iff_not, Bool.not_eq_true', Bool.not_eq_false', Bool.not_eq_eq_eq_not, Bool.not_true, Bool.not_false, beq_iff_eq, beq_eq_false_iff_ne, ne_eq, decide_eq_decide, eq_self, true_iff, iff_true, not_true_eq_false, not_false_eq_true]; first | done | omega)) ?_)
      exact Cd.ret (ret1 (A' := []) rfl (Res.tmp rfl) (fun _ h => h.split) ⟨by simp [this], rfl⟩)
  · have hn' : ¬ (l.length : Int) = l'.length := by omega
    repeat' (first | refine Cd.seq ?_ | refine Cd.reg ?_ | refine Ops.nil ?_ | refine Ops.mv rfl rfl rfl rfl ?_ | refine Ops.asg rfl rfl rfl rfl ?_ | refine Ops.lenS rfl rfl rfl rfl ?_ | refine Ops.bin rfl rfl rfl rfl rfl ?_ | refine Cd.condT rfl (by first | rfl | assumption | (simp only [decide_eq_true_eq, decide_eq_false_iff_not, Bool.not_eq_true', Bool.not_eq_false', Bool.not_eq_eq_eq_not, Bool.not_true, Bool.not_false, beq_iff_eq, beq_eq_false_iff_ne, ne_eq, decide_eq_decide, eq_self, true_iff, iff_true, not_true_eq_false, not_false_eq_true]; first | done | omega)) ?_)
    exact Cd.ret (ret1 (A' := []) rfl (Res.tmp rfl) (fun _ h => h.split) ⟨by
      have : l ≠ l' := fun e => hn (by rw [e])
      simp [this], rfl⟩)

/-! the fixed calls -/
def evZ (kind job badge : Int) : Ev := ⟨kind, 0, 0, 0, job, badge, 0, 0, 0, 0, 0, ⟨#[]⟩, [], none, 0⟩
def evs3 : List Ev := [evZ 2 1 0, evZ 5 1 3, evZ 9 1 3]
theorem evs3_all : allF evs3 = ([(2, 2), (6, 2)], 0) := by rfl
theorem fixed_spec : Con Try.prog 8 #[] [] fun v A => v = .bool true ∧ A = [] := by
  refine Con.intro (vs := []) Try.func8 rfl Try.ntmps8 rfl (fun B => ?_)
  repeat' (first | refine Cd.seq ?_ | refine Cd.reg ?_ | refine Ops.asg rfl rfl rfl rfl ?_ | refine Ops.bld rfl rfl rfl rfl ?_)
  refine Ops.bsN (evs3.map Ev.row) rfl rfl rfl rfl rfl rfl rfl rfl rfl rfl (noPd rfl) (fun b => ?_)
  have hO : OwnV (.slice (some ⟨b, 0, none⟩) 3 3) evs3 [(b, cl ((evs3.map Ev.row).flatten ++ []) 39)] := ⟨ev_ok _, .inr ⟨b, 3, [], rfl, rfl, rfl, by decide⟩⟩
  have hcon := Con.lend (G := [(b, cl ((evs3.map Ev.row).flatten ++ []) 39)]) fun B0 hG => all_spec B0 (some ⟨b, 0, none⟩) 3 evs3 ⟨hO.vin hG, fun e he => by
    have : e.texts = [] := by simp [evs3, evZ] at he; rcases he with rfl | rfl | rfl <;> rfl
    rw [this]; exact fun i s hs => by simp at hs, fun e he => by
    have : e.texts = [] := by simp [evs3, evZ] at he; rcases he with rfl | rfl | rfl <;> rfl
    rw [this]; exact Nat.zero_le _, by decide, by decide⟩
  rw [evs3_all] at hcon
  dsimp only at hcon
  refine Ops.call hcon rfl (noPd rfl) rfl rfl rfl (fun v A' hR => ?_)
  obtain ⟨A2, ⟨sv, rfl, hrs, _⟩, rfl⟩ := hR
  obtain ⟨g, c2, spare, e1, rfl⟩ := Rs.some_ hrs (by simp)
  obtain rfl : sv = .slice (some ⟨g, 0, none⟩) 2 c2 := e1
  have hokr := fr_ok [(2, 2), (6, 2)]
  have hr0 : ([((2 : Int), (2 : Int)), (6, 2)].map frow)[(0 : Int).toNat]? = some [.int .i64 2, .int .i64 2] := rfl
  have hr1 : ([((2 : Int), (2 : Int)), (6, 2)].map frow)[(1 : Int).toNat]? = some [.int .i64 6, .int .i64 2] := rfl
  repeat' (first | refine Cd.seq ?_ | refine Cd.reg ?_ | refine Ops.nil ?_ | refine Ops.mv rfl rfl rfl rfl ?_ | refine Ops.asg rfl rfl rfl rfl ?_ | refine Ops.lenS rfl rfl rfl rfl ?_ | refine Ops.bin rfl rfl rfl rfl rfl ?_ | refine Ops.pickT rfl rfl rfl rfl rfl ?_ | refine Ops.ext rfl rfl rfl rfl rfl ?_ | refine Ops.bld rfl rfl rfl rfl ?_ | refine Ops.ixa0 rfl rfl rfl rfl (by omega) (by omega) rfl ?_ | refine Ops.ldRow rfl rfl rfl (by assumption) (by assumption) rfl ?_)
  exact Cd.ret (ret1 (A' := []) rfl (Res.tmp rfl) (fun _ h => h.split) ⟨rfl, rfl⟩)
end Go.Proofs.Ytfghnepmbgbnoaa
