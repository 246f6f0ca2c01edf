import Derived.Test.YtjejogkmhlbegaaT4
namespace Go.Proofs.Ytjejogkmhlbegaa
open Go Go.Sep Go.Proofs
set_option maxRecDepth 10000
set_option maxHeartbeats 4000000
set_option synthInstance.maxSize 2000
set_option linter.unusedSimpArgs false
set_option linter.unusedVariables false

/-- What is held is of the list. -/
def LOk (list : List ByteArray) (s : Sp) : Prop := ∀ i : Nat, s.hb[i]? = some true → ∃ t, list[i]? = some t ∧ s.tx[i]? = some t
theorem lok0 (list : List ByteArray) : LOk list (sp0 0) := fun i hi => by
  have := List.mem_of_getElem? hi
  have := List.eq_of_mem_replicate this
  exact Bool.noConfusion this
theorem drain_lok (list tx : List ByteArray) : ∀ (f nx : Nat) (hb : List Bool), (∀ i : Nat, hb[i]? = some true → ∃ t, list[i]? = some t ∧ tx[i]? = some t) →
    (∀ (j : Nat) (u : ByteArray), (drain tx f nx hb).1[j]? = some u → list[nx + j]? = some u) ∧ (∀ i : Nat, (drain tx f nx hb).2.2[i]? = some true → hb[i]? = some true)
  | 0, nx, hb, h => ⟨fun j u h => by simp [drain] at h, fun i h => h⟩
  | f + 1, nx, hb, h => by
    unfold drain
    split
    · rename_i hh
      obtain ⟨t, ht1, ht2⟩ := h _ hh
      have hs : ∀ i : Nat, (hb.set nx false)[i]? = some true → hb[i]? = some true := fun i hi => by
        by_cases e : nx = i
        · subst e
          have hlt := (List.getElem?_eq_some_iff.1 hh).1
          rw [List.getElem?_set_self hlt] at hi
          cases hi
        · rwa [List.getElem?_set_ne e] at hi
      obtain ⟨a, b⟩ := drain_lok list tx f (nx + 1) (hb.set nx false) (fun i hi => h i (hs i hi))
      refine ⟨fun j u hj => ?_, fun i hi => hs i (b i hi)⟩
      cases j with
      | zero =>
        simp only [ht2, Option.getD_some, List.getElem?_cons_zero, Option.some.injEq] at hj
        subst hj
        exact ht1
      | succ j =>
        simp only [List.getElem?_cons_succ] at hj
        have := a j u hj
        rw [← this]
        congr 1
        omega
    · exact ⟨fun j u h => by simp at h, fun i h => h⟩
theorem takeF_lok {win : Nat} {s : Sp} {list : List ByteArray} {k : Nat} {t : ByteArray} (h : SpOk win s) (hl : LOk list s) (ht : list[k]? = some t) :
    (∀ (j : Nat) (u : ByteArray), (takeF win s k t).2.1[j]? = some u → list[s.nx + j]? = some u) ∧ LOk list (takeF win s k t).2.2 := by
  unfold takeF
  split
  · exact ⟨fun j u h => by simp at h, hl⟩
  · split
    · exact ⟨fun j u h => by simp at h, hl⟩
    · rename_i h1 h2
      have hk : ((k : Nat) : Int).toNat = k := Int.toNat_natCast k
      have hkl : k < s.tx.length := by have := h.tl; omega
      rw [hk]
      have hset : ∀ i : Nat, (s.hb.set k true)[i]? = some true → ∃ u, list[i]? = some u ∧ (if s.hb[k]? = some true then s.tx else s.tx.set k t)[i]? = some u := fun i hi => by
        by_cases e : k = i
        · subst e
          split
          · rename_i hh
            exact hl _ hh
          · exact ⟨t, ht, List.getElem?_set_self hkl⟩
        · rw [List.getElem?_set_ne e] at hi
          obtain ⟨u, hu1, hu2⟩ := hl _ hi
          refine ⟨u, hu1, ?_⟩
          split
          · exact hu2
          · rw [List.getElem?_set_ne e]; exact hu2
      obtain ⟨a, b⟩ := drain_lok list (if s.hb[k]? = some true then s.tx else s.tx.set k t) (33 - s.nx) s.nx (s.hb.set k true) hset
      exact ⟨a, fun i hi => hset i (b i hi)⟩
theorem takeF_none {win : Nat} {s : Sp} {i : Int} {t : ByteArray} (h : (takeF win s i t).1 ≠ 0) : (takeF win s i t).2.1 = [] := by
  unfold takeF at h ⊢
  split
  · rfl
  · split
    · rfl
    · rename_i h1 h2
      rw [if_neg h1, if_neg h2] at h
      exact absurd rfl h
theorem takeF_rise {win : Nat} {s : Sp} (h : SpOk win s) (t : ByteArray) (h1 : t.size ≤ 32) (h3 : s.nx < 32) : s.nx < (takeF win s s.nx t).2.2.nx := by
  have hg := takeF_grow h s.nx t
  have hpos : 0 < (takeF win s s.nx t).2.1.length := by
    have := h.w0
    unfold takeF
    rw [if_neg (by omega), if_neg (by omega), Int.toNat_natCast]
    show 0 < (drained _ _ _).1.length
    have hy : (s.hb.set s.nx true)[s.nx]? = some true := List.getElem?_set_self (by have := h.hl; omega)
    have htl : s.nx < (if s.hb[s.nx]? = some true then s.tx else s.tx.set s.nx t).length := by
      have := h.tl
      split
      · omega
      · rw [List.length_set]; omega
    rw [drained_go (t := (if s.hb[s.nx]? = some true then s.tx else s.tx.set s.nx t)[s.nx]) (by omega) hy (List.getElem?_eq_getElem htl)]
    exact Nat.succ_pos _
  omega
theorem takeF_in {win : Nat} {s : Sp} {list : List ByteArray} {k : Nat} {t : ByteArray} (h : SpOk win s) (hl : LOk list s) (ht : list[k]? = some t) (hn : s.nx ≤ list.length) : (takeF win s k t).2.2.nx ≤ list.length := by
  have hg := takeF_grow h k t
  have h1 := (takeF_lok h hl ht).1
  rcases Nat.eq_zero_or_pos (takeF win s k t).2.1.length with h0 | h0
  · omega
  · have h2 := h1 ((takeF win s k t).2.1.length - 1) _ (List.getElem?_eq_getElem (by omega))
    have := (List.getElem?_eq_some_iff.1 h2).1
    omega
theorem heldL_in {win : Nat} {s : Sp} (h : SpOk win s) {v : Int} (hv : v ∈ heldL s.hb) : (s.nx : Int) < v ∧ v < (s.nx : Int) + win := by
  obtain ⟨h0, h1⟩ := mem_heldL.1 hv
  have h2 := h.inw _ h1
  have h3 : v.toNat ≠ s.nx := fun e => h.free (by rw [← e]; exact h1)
  omega
theorem heldL_few {win : Nat} {s : Sp} (h : SpOk win s) : (heldL s.hb).length < win := by
  have h1 : (heldL s.hb).length ≤ ((List.range (win - 1)).map fun q => ((s.nx + 1 + q : Nat) : Int)).length := nodup_len ((heldL_lt s.hb).imp fun h => Int.ne_of_lt h) fun i hi => by
    have := heldL_in h hi
    exact List.mem_map.2 ⟨i.toNat - s.nx - 1, List.mem_range.2 (by omega), by omega⟩
  rw [List.length_map, List.length_range] at h1
  have := h.w0
  omega
theorem heldL_end {win : Nat} {s : Sp} {list : List ByteArray} (h : SpOk win s) (hl : LOk list s) (hn : s.nx = list.length) : heldL s.hb = [] := by
  refine List.eq_nil_iff_forall_not_mem.2 fun v hv => ?_
  obtain ⟨h0, h1⟩ := mem_heldL.1 hv
  obtain ⟨t, ht, _⟩ := hl _ h1
  have := (List.getElem?_eq_some_iff.1 ht).1
  have := heldL_in h hv
  omega

/-- Of each run of n rounds one is of what comes next. -/
def Fair (n L i nx : Nat) : Prop := nx = n ∨ ∃ q, (q + L ≤ i ∨ q = 0) ∧ i ≤ L + nx * n + q ∧ ∀ i', i ≤ i' + q → L ≤ i' → i' < i → i' % n ≠ nx
theorem mod_hit {a n r : Nat} (hr : r < n) : ∃ t, t < n ∧ (a + t) % n = r := by
  have hm := Nat.mod_lt a (show n > 0 by omega)
  by_cases h : a % n ≤ r
  · refine ⟨r - a % n, by omega, ?_⟩
    rw [Nat.add_mod, Nat.mod_eq_of_lt (show r - a % n < n by omega), show a % n + (r - a % n) = r by omega, Nat.mod_eq_of_lt hr]
  · refine ⟨n + r - a % n, by omega, ?_⟩
    rw [Nat.add_mod, Nat.mod_eq_of_lt (show n + r - a % n < n by omega), show a % n + (n + r - a % n) = n + r by omega, Nat.add_mod_left, Nat.mod_eq_of_lt hr]
theorem Fair.short {n L i nx q : Nat} (hq : q + L ≤ i ∨ q = 0) (h : ∀ i', i ≤ i' + q → L ≤ i' → i' < i → i' % n ≠ nx) (hx : nx < n) : q < n := by
  refine Nat.lt_of_not_le fun hle => ?_
  obtain ⟨t, ht, he⟩ := mod_hit (a := i - n) hx
  exact h (i - n + t) (by omega) (by omega) (by omega) he
theorem Fair.start {n L : Nat} : Fair n L 0 0 := .inr ⟨0, .inr rfl, Nat.zero_le _, fun i' _ _ h => by omega⟩
theorem Fair.step {n L i nx nx' k : Nat} (h : Fair n L i nx) (hx : nx ≤ nx') (hx' : nx' ≤ n) (hk : L ≤ i → k = i % n) (hr : nx < n → k = nx → nx < nx') : Fair n L (i + 1) nx' := by
  by_cases e : nx' = n
  · exact .inl e
  rcases h with h | ⟨q, hq, hi, hall⟩
  · omega
  refine .inr ?_
  by_cases hL : i < L
  · exact ⟨0, .inr rfl, by omega, fun i' _ _ _ => by omega⟩
  · by_cases hrise : nx < nx'
    · have hqn := Fair.short hq hall (by omega)
      have hm : (nx + 1) * n ≤ nx' * n := Nat.mul_le_mul_right n hrise
      rw [Nat.succ_mul] at hm
      exact ⟨0, .inr rfl, by omega, fun i' _ _ _ => by omega⟩
    · obtain rfl : nx' = nx := by omega
      have hne : k ≠ nx' := fun e => by have := hr (by omega) e; omega
      refine ⟨q + 1, .inl (by omega), by omega, fun i' h1 h2 h3 => ?_⟩
      by_cases ei : i' = i
      · subst ei; rw [← hk (by omega)]; exact hne
      · exact hall i' (by omega) h2 (by omega)
theorem Fair.end_ {n L nx : Nat} (h : Fair n L (L + n * n) nx) (hn : 0 < n) (hx : nx ≤ n) : nx = n := by
  rcases h with h | ⟨q, hq, hi, hall⟩
  · exact h
  · refine Nat.le_antisymm hx (Nat.le_of_not_lt fun hlt => ?_)
    have hqn := Fair.short hq hall hlt
    have hm : (nx + 1) * n ≤ n * n := Nat.mul_le_mul_right n hlt
    rw [Nat.succ_mul] at hm
    omega

/-- Texts, where they lie. -/
def Txts (B : Base) (a : Option Addr) (len : Nat) (l : List ByteArray) : Prop :=
  l.length = len ∧ ∀ (i : Nat) (t : ByteArray), l[i]? = some t → ∃ b off, a = some ⟨b, off, none⟩ ∧ ∀ (A : List Blk), Rd B A b (off + i * 1) (.string t)
/-- Numbers, where they lie. -/
def Nums (B : Base) (a : Option Addr) (len : Nat) (l : List Int) : Prop :=
  l.length = len ∧ ∀ (i : Nat) (x : Int), l[i]? = some x → ∃ b off, a = some ⟨b, off, none⟩ ∧ ∀ (A : List Blk), Rd B A b (off + i * 1) (.int .i64 x)

theorem whole_no (w : World) (la oa : Option Addr) (len cap olen ocap : Nat) (a : Int) (h : ¬ (1 ≤ a ∧ a ≤ 8)) :
    Calls Try.prog 3 #[.int .i64 a, .slice la len cap, .slice oa olen ocap] w fun e w' => e = .returned (.bool true) ∧ RowKit.Below w.heap.size w w' := by
  refine calls_base (vs := [_, _, _]) Try.func3 rfl Try.ntmps3 rfl ?_
  repeat' (first | refine Ops.nilN (inB (Cd.next ?_)) | refine Ops.lkI rfl rfl rfl rfl rfl ?_ | refine Ops.lk1 rfl rfl rfl rfl rfl ?_ | refine Ops.upI rfl rfl rfl rfl rfl (noPd rfl) ?_ | refine Ops.delI rfl rfl rfl rfl (noPd rfl) ?_ | refine Ops.lenM rfl rfl rfl rfl ?_ | refine Ops.mkM rfl rfl rfl (noPd rfl) (fun b => ?_) | refine Ops.mkF rfl rfl rfl rfl rfl ?_ | refine Ops.mkI rfl rfl (fun _ h => by cases h) rfl rfl ?_ | refine Ops.asM rfl rfl rfl rfl ?_ | refine Cd.seq ?_ | refine Cd.reg ?_ | refine Ops.nil ?_ | refine Ops.mv rfl rfl rfl rfl ?_ | refine Ops.asg rfl rfl rfl rfl ?_ | refine Ops.nilP rfl rfl rfl rfl ?_ | refine Ops.fa0 rfl rfl rfl rfl ?_ | refine Ops.fa rfl rfl rfl rfl ?_ | refine Ops.ld1 rfl rfl rfl rfl rfl ?_ | refine Ops.ldN rfl rfl rfl rfl ?_ | refine Ops.lenS rfl rfl rfl rfl ?_ | refine Ops.lenStr rfl rfl rfl rfl ?_ | refine Ops.addI rfl rfl rfl rfl (by omega) (by omega) rfl ?_ | refine Ops.subI rfl rfl rfl rfl (by omega) (by omega) rfl ?_ | refine Ops.mulI rfl rfl rfl rfl (by omega) (by omega) rfl ?_ | refine Ops.negI rfl rfl rfl (by omega) (by omega) rfl ?_ | refine Ops.maxI rfl rfl rfl rfl rfl ?_ | refine Ops.minI rfl rfl rfl rfl rfl ?_ | refine Ops.bin rfl rfl rfl rfl rfl ?_ | refine Ops.un rfl rfl rfl rfl ?_ | refine Ops.pickT rfl rfl rfl rfl rfl ?_ | refine Ops.pickF rfl rfl rfl rfl rfl ?_ | refine Ops.ext rfl rfl rfl rfl rfl ?_ | refine Ops.bld rfl rfl rfl rfl ?_ | refine Ops.box rfl rfl rfl rfl (noPd rfl) (fun b => ?_) | refine Ops.alloc rfl rfl rfl (noPd rfl) (fun b => ?_) | refine Ops.bs0 rfl rfl rfl (noPd rfl) (fun b => ?_) | refine Ops.bs1 rfl rfl rfl rfl rfl rfl rfl (noPd rfl) (fun b => ?_) | refine Ops.st1 rfl rfl rfl rfl rfl (noPd rfl) ?_ | refine Ops.stN rfl rfl rfl rfl rfl rfl (noPd rfl) ?_ | refine Ops.gSkip rfl rfl rfl ?_ | refine Ops.gSkipE rfl (noPd rfl) rfl rfl ?_ | refine Ops.gSkipU rfl rfl rfl rfl ?_ | refine Ops.gSkipUE rfl (noPd rfl) rfl rfl rfl ?_ | refine Ops.asgE rfl (noPd rfl) rfl rfl rfl ?_ | refine Cd.condT rfl rfl ?_ | refine Cd.condF rfl rfl ?_ | refine Cd.block ?_ | refine Cd.skip (Cd.next ?_) | refine Cd.skip (Cd.next (Q' := fun _ _ _ => True) ?_) | refine Cd.exit (Cd.next (Q' := fun _ _ _ => True) ?_) | refine Ops.ixa0 rfl rfl rfl rfl (by omega) (by omega) rfl ?_ | refine Ops.ixa rfl rfl rfl rfl (by omega) (by omega) rfl ?_ | refine Ops.slLo rfl rfl rfl rfl (by omega) (by omega) rfl ?_ | refine Ops.slHi rfl rfl rfl rfl (by omega) (by omega) rfl ?_ | refine Ops.slLH rfl rfl rfl rfl rfl (by omega) (by omega) (by omega) rfl ?_ | refine Ops.sl3 rfl rfl rfl rfl rfl rfl (by omega) (by omega) (by omega) (by omega) rfl ?_ | refine Ops.ldRow rfl rfl rfl (by assumption) (by assumption) rfl ?_ | refine Ops.ldRow1 rfl rfl rfl (by assumption) (by assumption) rfl rfl ?_ | refine Ops.ldCell rfl rfl rfl (by assumption) (by assumption) rfl ?_ | refine Cd.condT rfl (by first | rfl | assumption | (simp only [decide_eq_true_eq, decide_eq_false_iff_not, Bool.not_eq_true', Bool.not_eq_false', Bool.not_eq_eq_eq_not, Bool.not_true, Bool.not_false, beq_iff_eq, beq_eq_false_iff_ne, ne_eq, decide_eq_decide, eq_self, true_iff, iff_true, not_true_eq_false, not_false_eq_true]; first | done | omega)) ?_ | refine Cd.condF rfl (by first | rfl | assumption | (simp only [decide_eq_true_eq, decide_eq_false_iff_not, Bool.not_eq_true', Bool.not_eq_false', Bool.not_eq_eq_eq_not, Bool.not_true, Bool.not_false, beq_iff_eq, beq_eq_false_iff_ne, ne_eq, decide_eq_decide, eq_self, true_iff, iff_true, not_true_eq_false, not_false_eq_true]; first | done | omega)) ?_ | ((fail_if_success refine Ops.probe rfl ?_); refine Ops.gT rfl rfl (by first | rfl | assumption | (simp only [decide_eq_true_eq, decide_eq_false_iff_not, Bool.not_eq_true', Bool.not_eq_false', Bool.not_eq_eq_eq_not, Bool.not_true, Bool.not_false, beq_iff_eq, beq_eq_false_iff_ne, ne_eq, decide_eq_decide, eq_self, true_iff, iff_true, not_true_eq_false, not_false_eq_true]; first | done | omega)) ?_) | ((fail_if_success refine Ops.probe rfl ?_); refine Ops.gF rfl rfl (by first | rfl | assumption | (simp only [decide_eq_true_eq, decide_eq_false_iff_not, Bool.not_eq_true', Bool.not_eq_false', Bool.not_eq_eq_eq_not, Bool.not_true, Bool.not_false, beq_iff_eq, beq_eq_false_iff_ne, ne_eq, decide_eq_decide, eq_self, true_iff, iff_true, not_true_eq_false, not_false_eq_true]; first | done | omega)) ?_) | ((fail_if_success refine Ops.probe rfl ?_); refine Ops.gSplit rfl rfl (fun hc => ?_) (fun hc => ?_) <;> (try simp only [decide_eq_true_eq, decide_eq_false_iff_not, Bool.not_eq_true', Bool.not_eq_false', Bool.not_eq_eq_eq_not, Bool.not_true, Bool.not_false, Int.not_lt, Int.not_le] at hc)) | (refine Cd.cond rfl (fun hc => ?_) (fun hc => ?_) <;> (try simp only [decide_eq_true_eq, decide_eq_false_iff_not, Bool.not_eq_true', Bool.not_eq_false', Bool.not_eq_eq_eq_not, Bool.not_true, Bool.not_false, Int.not_lt, Int.not_le] at hc)))
  refine Ops.call (new_no a 0 (by omega)) rfl (noPd rfl) rfl rfl rfl (fun v A' hR => ?_)
  obtain ⟨rfl, rfl⟩ := hR
  repeat' (first | refine Ops.nilN (inB (Cd.next ?_)) | refine Ops.lkI rfl rfl rfl rfl rfl ?_ | refine Ops.lk1 rfl rfl rfl rfl rfl ?_ | refine Ops.upI rfl rfl rfl rfl rfl (noPd rfl) ?_ | refine Ops.delI rfl rfl rfl rfl (noPd rfl) ?_ | refine Ops.lenM rfl rfl rfl rfl ?_ | refine Ops.mkM rfl rfl rfl (noPd rfl) (fun b => ?_) | refine Ops.mkF rfl rfl rfl rfl rfl ?_ | refine Ops.mkI rfl rfl (fun _ h => by cases h) rfl rfl ?_ | refine Ops.asM rfl rfl rfl rfl ?_ | refine Cd.seq ?_ | refine Cd.reg ?_ | refine Ops.nil ?_ | refine Ops.mv rfl rfl rfl rfl ?_ | refine Ops.asg rfl rfl rfl rfl ?_ | refine Ops.nilP rfl rfl rfl rfl ?_ | refine Ops.fa0 rfl rfl rfl rfl ?_ | refine Ops.fa rfl rfl rfl rfl ?_ | refine Ops.ld1 rfl rfl rfl rfl rfl ?_ | refine Ops.ldN rfl rfl rfl rfl ?_ | refine Ops.lenS rfl rfl rfl rfl ?_ | refine Ops.lenStr rfl rfl rfl rfl ?_ | refine Ops.addI rfl rfl rfl rfl (by omega) (by omega) rfl ?_ | refine Ops.subI rfl rfl rfl rfl (by omega) (by omega) rfl ?_ | refine Ops.mulI rfl rfl rfl rfl (by omega) (by omega) rfl ?_ | refine Ops.negI rfl rfl rfl (by omega) (by omega) rfl ?_ | refine Ops.maxI rfl rfl rfl rfl rfl ?_ | refine Ops.minI rfl rfl rfl rfl rfl ?_ | refine Ops.bin rfl rfl rfl rfl rfl ?_ | refine Ops.un rfl rfl rfl rfl ?_ | refine Ops.pickT rfl rfl rfl rfl rfl ?_ | refine Ops.pickF rfl rfl rfl rfl rfl ?_ | refine Ops.ext rfl rfl rfl rfl rfl ?_ | refine Ops.bld rfl rfl rfl rfl ?_ | refine Ops.box rfl rfl rfl rfl (noPd rfl) (fun b => ?_) | refine Ops.alloc rfl rfl rfl (noPd rfl) (fun b => ?_) | refine Ops.bs0 rfl rfl rfl (noPd rfl) (fun b => ?_) | refine Ops.bs1 rfl rfl rfl rfl rfl rfl rfl (noPd rfl) (fun b => ?_) | refine Ops.st1 rfl rfl rfl rfl rfl (noPd rfl) ?_ | refine Ops.stN rfl rfl rfl rfl rfl rfl (noPd rfl) ?_ | refine Ops.gSkip rfl rfl rfl ?_ | refine Ops.gSkipE rfl (noPd rfl) rfl rfl ?_ | refine Ops.gSkipU rfl rfl rfl rfl ?_ | refine Ops.gSkipUE rfl (noPd rfl) rfl rfl rfl ?_ | refine Ops.asgE rfl (noPd rfl) rfl rfl rfl ?_ | refine Cd.condT rfl rfl ?_ | refine Cd.condF rfl rfl ?_ | refine Cd.block ?_ | refine Cd.skip (Cd.next ?_) | refine Cd.skip (Cd.next (Q' := fun _ _ _ => True) ?_) | refine Cd.exit (Cd.next (Q' := fun _ _ _ => True) ?_) | refine Ops.ixa0 rfl rfl rfl rfl (by omega) (by omega) rfl ?_ | refine Ops.ixa rfl rfl rfl rfl (by omega) (by omega) rfl ?_ | refine Ops.slLo rfl rfl rfl rfl (by omega) (by omega) rfl ?_ | refine Ops.slHi rfl rfl rfl rfl (by omega) (by omega) rfl ?_ | refine Ops.slLH rfl rfl rfl rfl rfl (by omega) (by omega) (by omega) rfl ?_ | refine Ops.sl3 rfl rfl rfl rfl rfl rfl (by omega) (by omega) (by omega) (by omega) rfl ?_ | refine Ops.ldRow rfl rfl rfl (by assumption) (by assumption) rfl ?_ | refine Ops.ldRow1 rfl rfl rfl (by assumption) (by assumption) rfl rfl ?_ | refine Ops.ldCell rfl rfl rfl (by assumption) (by assumption) rfl ?_ | refine Cd.condT rfl (by first | rfl | assumption | (simp only [decide_eq_true_eq, decide_eq_false_iff_not, Bool.not_eq_true', Bool.not_eq_false', Bool.not_eq_eq_eq_not, Bool.not_true, Bool.not_false, beq_iff_eq, beq_eq_false_iff_ne, ne_eq, decide_eq_decide, eq_self, true_iff, iff_true, not_true_eq_false, not_false_eq_true]; first | done | omega)) ?_ | refine Cd.condF rfl (by first | rfl | assumption | (simp only [decide_eq_true_eq, decide_eq_false_iff_not, Bool.not_eq_true', Bool.not_eq_false', Bool.not_eq_eq_eq_not, Bool.not_true, Bool.not_false, beq_iff_eq, beq_eq_false_iff_ne, ne_eq, decide_eq_decide, eq_self, true_iff, iff_true, not_true_eq_false, not_false_eq_true]; first | done | omega)) ?_ | ((fail_if_success refine Ops.probe rfl ?_); refine Ops.gT rfl rfl (by first | rfl | assumption | (simp only [decide_eq_true_eq, decide_eq_false_iff_not, Bool.not_eq_true', Bool.not_eq_false', Bool.not_eq_eq_eq_not, Bool.not_true, Bool.not_false, beq_iff_eq, beq_eq_false_iff_ne, ne_eq, decide_eq_decide, eq_self, true_iff, iff_true, not_true_eq_false, not_false_eq_true]; first | done | omega)) ?_) | ((fail_if_success refine Ops.probe rfl ?_); refine Ops.gF rfl rfl (by first | rfl | assumption | (simp only [decide_eq_true_eq, decide_eq_false_iff_not, Bool.not_eq_true', Bool.not_eq_false', Bool.not_eq_eq_eq_not, Bool.not_true, Bool.not_false, beq_iff_eq, beq_eq_false_iff_ne, ne_eq, decide_eq_decide, eq_self, true_iff, iff_true, not_true_eq_false, not_false_eq_true]; first | done | omega)) ?_) | ((fail_if_success refine Ops.probe rfl ?_); refine Ops.gSplit rfl rfl (fun hc => ?_) (fun hc => ?_) <;> (try simp only [decide_eq_true_eq, decide_eq_false_iff_not, Bool.not_eq_true', Bool.not_eq_false', Bool.not_eq_eq_eq_not, Bool.not_true, Bool.not_false, Int.not_lt, Int.not_le] at hc)) | (refine Cd.cond rfl (fun hc => ?_) (fun hc => ?_) <;> (try simp only [decide_eq_true_eq, decide_eq_false_iff_not, Bool.not_eq_true', Bool.not_eq_false', Bool.not_eq_eq_eq_not, Bool.not_true, Bool.not_false, Int.not_lt, Int.not_le] at hc)))
  refine Ops.call awake_spec rfl (noPd rfl) rfl rfl rfl (fun v A' hR => ?_)
  obtain ⟨rfl, rfl⟩ := hR
  repeat' (first | refine Ops.nilN (inB (Cd.next ?_)) | refine Ops.lkI rfl rfl rfl rfl rfl ?_ | refine Ops.lk1 rfl rfl rfl rfl rfl ?_ | refine Ops.upI rfl rfl rfl rfl rfl (noPd rfl) ?_ | refine Ops.delI rfl rfl rfl rfl (noPd rfl) ?_ | refine Ops.lenM rfl rfl rfl rfl ?_ | refine Ops.mkM rfl rfl rfl (noPd rfl) (fun b => ?_) | refine Ops.mkF rfl rfl rfl rfl rfl ?_ | refine Ops.mkI rfl rfl (fun _ h => by cases h) rfl rfl ?_ | refine Ops.asM rfl rfl rfl rfl ?_ | refine Cd.seq ?_ | refine Cd.reg ?_ | refine Ops.nil ?_ | refine Ops.mv rfl rfl rfl rfl ?_ | refine Ops.asg rfl rfl rfl rfl ?_ | refine Ops.nilP rfl rfl rfl rfl ?_ | refine Ops.fa0 rfl rfl rfl rfl ?_ | refine Ops.fa rfl rfl rfl rfl ?_ | refine Ops.ld1 rfl rfl rfl rfl rfl ?_ | refine Ops.ldN rfl rfl rfl rfl ?_ | refine Ops.lenS rfl rfl rfl rfl ?_ | refine Ops.lenStr rfl rfl rfl rfl ?_ | refine Ops.addI rfl rfl rfl rfl (by omega) (by omega) rfl ?_ | refine Ops.subI rfl rfl rfl rfl (by omega) (by omega) rfl ?_ | refine Ops.mulI rfl rfl rfl rfl (by omega) (by omega) rfl ?_ | refine Ops.negI rfl rfl rfl (by omega) (by omega) rfl ?_ | refine Ops.maxI rfl rfl rfl rfl rfl ?_ | refine Ops.minI rfl rfl rfl rfl rfl ?_ | refine Ops.bin rfl rfl rfl rfl rfl ?_ | refine Ops.un rfl rfl rfl rfl ?_ | refine Ops.pickT rfl rfl rfl rfl rfl ?_ | refine Ops.pickF rfl rfl rfl rfl rfl ?_ | refine Ops.ext rfl rfl rfl rfl rfl ?_ | refine Ops.bld rfl rfl rfl rfl ?_ | refine Ops.box rfl rfl rfl rfl (noPd rfl) (fun b => ?_) | refine Ops.alloc rfl rfl rfl (noPd rfl) (fun b => ?_) | refine Ops.bs0 rfl rfl rfl (noPd rfl) (fun b => ?_) | refine Ops.bs1 rfl rfl rfl rfl rfl rfl rfl (noPd rfl) (fun b => ?_) | refine Ops.st1 rfl rfl rfl rfl rfl (noPd rfl) ?_ | refine Ops.stN rfl rfl rfl rfl rfl rfl (noPd rfl) ?_ | refine Ops.gSkip rfl rfl rfl ?_ | refine Ops.gSkipE rfl (noPd rfl) rfl rfl ?_ | refine Ops.gSkipU rfl rfl rfl rfl ?_ | refine Ops.gSkipUE rfl (noPd rfl) rfl rfl rfl ?_ | refine Ops.asgE rfl (noPd rfl) rfl rfl rfl ?_ | refine Cd.condT rfl rfl ?_ | refine Cd.condF rfl rfl ?_ | refine Cd.block ?_ | refine Cd.skip (Cd.next ?_) | refine Cd.skip (Cd.next (Q' := fun _ _ _ => True) ?_) | refine Cd.exit (Cd.next (Q' := fun _ _ _ => True) ?_) | refine Ops.ixa0 rfl rfl rfl rfl (by omega) (by omega) rfl ?_ | refine Ops.ixa rfl rfl rfl rfl (by omega) (by omega) rfl ?_ | refine Ops.slLo rfl rfl rfl rfl (by omega) (by omega) rfl ?_ | refine Ops.slHi rfl rfl rfl rfl (by omega) (by omega) rfl ?_ | refine Ops.slLH rfl rfl rfl rfl rfl (by omega) (by omega) (by omega) rfl ?_ | refine Ops.sl3 rfl rfl rfl rfl rfl rfl (by omega) (by omega) (by omega) (by omega) rfl ?_ | refine Ops.ldRow rfl rfl rfl (by assumption) (by assumption) rfl ?_ | refine Ops.ldRow1 rfl rfl rfl (by assumption) (by assumption) rfl rfl ?_ | refine Ops.ldCell rfl rfl rfl (by assumption) (by assumption) rfl ?_ | refine Cd.condT rfl (by first | rfl | assumption | (simp only [decide_eq_true_eq, decide_eq_false_iff_not, Bool.not_eq_true', Bool.not_eq_false', Bool.not_eq_eq_eq_not, Bool.not_true, Bool.not_false, beq_iff_eq, beq_eq_false_iff_ne, ne_eq, decide_eq_decide, eq_self, true_iff, iff_true, not_true_eq_false, not_false_eq_true]; first | done | omega)) ?_ | refine Cd.condF rfl (by first | rfl | assumption | (simp only [decide_eq_true_eq, decide_eq_false_iff_not, Bool.not_eq_true', Bool.not_eq_false', Bool.not_eq_eq_eq_not, Bool.not_true, Bool.not_false, beq_iff_eq, beq_eq_false_iff_ne, ne_eq, decide_eq_decide, eq_self, true_iff, iff_true, not_true_eq_false, not_false_eq_true]; first | done | omega)) ?_ | ((fail_if_success refine Ops.probe rfl ?_); refine Ops.gT rfl rfl (by first | rfl | assumption | (simp only [decide_eq_true_eq, decide_eq_false_iff_not, Bool.not_eq_true', Bool.not_eq_false', Bool.not_eq_eq_eq_not, Bool.not_true, Bool.not_false, beq_iff_eq, beq_eq_false_iff_ne, ne_eq, decide_eq_decide, eq_self, true_iff, iff_true, not_true_eq_false, not_false_eq_true]; first | done | omega)) ?_) | ((fail_if_success refine Ops.probe rfl ?_); refine Ops.gF rfl rfl (by first | rfl | assumption | (simp only [decide_eq_true_eq, decide_eq_false_iff_not, Bool.not_eq_true', Bool.not_eq_false', Bool.not_eq_eq_eq_not, Bool.not_true, Bool.not_false, beq_iff_eq, beq_eq_false_iff_ne, ne_eq, decide_eq_decide, eq_self, true_iff, iff_true, not_true_eq_false, not_false_eq_true]; first | done | omega)) ?_) | ((fail_if_success refine Ops.probe rfl ?_); refine Ops.gSplit rfl rfl (fun hc => ?_) (fun hc => ?_) <;> (try simp only [decide_eq_true_eq, decide_eq_false_iff_not, Bool.not_eq_true', Bool.not_eq_false', Bool.not_eq_eq_eq_not, Bool.not_true, Bool.not_false, Int.not_lt, Int.not_le] at hc)) | (refine Cd.cond rfl (fun hc => ?_) (fun hc => ?_) <;> (try simp only [decide_eq_true_eq, decide_eq_false_iff_not, Bool.not_eq_true', Bool.not_eq_false', Bool.not_eq_eq_eq_not, Bool.not_true, Bool.not_false, Int.not_lt, Int.not_le] at hc)))
  exact Cd.ret (ret1 rfl (Res.tmp rfl) (fun _ h => h) rfl)

/-- What a round's place is. -/
theorem whole_k {ord : List Int} {n i : Nat} (hn : 0 < n) : ∃ k : Nat, k < n ∧ (ord.length ≤ i → k = i % n) ∧
    ((i < ord.length ∧ ∃ x, ord[i]? = some x ∧ ((x.tmod n < 0 ∧ x.tmod n + n = (k : Int)) ∨ (0 ≤ x.tmod n ∧ x.tmod n = (k : Int)))) ∨ (ord.length ≤ i ∧ (i : Int).tmod n = (k : Int))) := by
  by_cases h : i < ord.length
  · obtain ⟨j, hj, hjr⟩ := round_in ord[i] hn
    exact ⟨j, hj, fun h' => by omega, .inl ⟨h, _, List.getElem?_eq_getElem h, hjr⟩⟩
  · refine ⟨i % n, Nat.mod_lt _ hn, fun _ => rfl, .inr ⟨by omega, ?_⟩⟩
    rw [Int.tmod_eq_emod_of_nonneg (by omega)]
    exact (Int.natCast_emod i n).symm

end Go.Proofs.Ytjejogkmhlbegaa
