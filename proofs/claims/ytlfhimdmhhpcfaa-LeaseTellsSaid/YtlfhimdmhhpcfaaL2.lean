import Derived.Test.YtlfhimdmhhpcfaaL1
namespace Go.Proofs.Ytlfhimdmhhpcfaa
open Go Go.Sep Go.Proofs
set_option maxRecDepth 10000
set_option maxHeartbeats 2000000
set_option synthInstance.maxSize 2000
set_option linter.unusedSimpArgs false
set_option linter.unusedVariables false

theorem ins_nil_spec (a : Option Addr) (c : Nat) : Con Try.prog 42 #[.slice a 0 c, .int .i64 0, .int .i64 0] [] fun v A => A = [] := by
  refine Con.intro (vs := [_, _, _]) Try.func42 rfl Try.ntmps42 rfl (fun B => ?_)
  repeat' (first | refine Cd.seq ?_ | refine Cd.reg ?_ | refine Ops.nil ?_ | refine Ops.mv rfl rfl rfl rfl ?_ | refine Ops.asg rfl rfl rfl rfl ?_ | refine Ops.addI rfl rfl rfl rfl (by omega) (by omega) rfl ?_ | refine Cd.block ?_)
  refine Cd.loopK (σ := Unit) (fun _ => True) (fun _ => [(2, .int .i64 0), (6, .int .i64 1)]) (fun _ => []) (fun _ => 0) () trivial ⟨rfl, rfl, trivial⟩ (fun w h => h) (fun _ _ => ?_)
  repeat' (first | refine Cd.seq ?_ | refine Cd.reg ?_ | refine Ops.nil ?_ | refine Ops.mv rfl rfl rfl rfl ?_ | refine Ops.bin rfl rfl rfl rfl rfl ?_ | refine Cd.condF rfl rfl ?_)
  exact Cd.exit (end0 rfl (fun w h => h) rfl)
theorem pdq_nil_spec (a : Option Addr) (c : Nat) (k : Int) : Con Try.prog 40 #[.slice a 0 c, .int .i64 0, .int .i64 0, .int .i64 k] [] fun v A => A = [] := by
  refine Con.intro (vs := [_, _, _, _]) Try.func40 rfl Try.ntmps40 rfl (fun B => ?_)
  repeat' (first | refine Cd.seq ?_ | refine Cd.reg ?_ | refine Ops.nil ?_ | refine Ops.asg rfl rfl rfl rfl ?_ | refine Cd.block ?_)
  refine Cd.loopK (σ := Unit) (fun _ => True) (fun _ => [(0, .slice a 0 c), (1, .int .i64 0), (2, .int .i64 0)]) (fun _ => []) (fun _ => 0) () trivial ⟨rfl, rfl, rfl, trivial⟩ (fun w h => h) (fun _ _ => ?_)
  repeat' (first | refine Cd.seq ?_ | refine Cd.reg ?_ | refine Ops.nil ?_ | refine Ops.mv rfl rfl rfl rfl ?_ | refine Ops.asg rfl rfl rfl rfl ?_ | refine Ops.subI rfl rfl rfl rfl (by omega) (by omega) rfl ?_ | refine Ops.bin rfl rfl rfl rfl rfl ?_ | refine Cd.condT rfl rfl ?_ | refine Cd.block ?_)
  refine Ops.call (ins_nil_spec a c) rfl (noPd rfl) rfl rfl rfl (fun v A' hR => ?_)
  obtain rfl := hR
  repeat' (first | refine Ops.nil ?_)
  exact Cd.ret (ret0 rfl (fun w h => h) rfl)
theorem pdq_spec (g n c : Nat) (xs : List Int) (sp : List Value) (k : Int) (hn : xs.length = n) (hc : n ≤ c) (h12 : n ≤ 12) :
    Con Try.prog 40 #[.slice (some ⟨g, 0, none⟩) n c, .int .i64 0, .int .i64 n, .int .i64 k] (IB g xs sp) fun v A => ∃ ys, A = IB g ys sp ∧ ys.Perm xs ∧ ys.Pairwise (· ≤ ·) := by
  refine Con.intro (vs := [_, _, _, _]) Try.func40 rfl Try.ntmps40 rfl (fun B => ?_)
  repeat' (first | refine Cd.seq ?_ | refine Cd.reg ?_ | refine Ops.nil ?_ | refine Ops.asg rfl rfl rfl rfl ?_ | refine Cd.block ?_)
  refine Cd.loopK (σ := Unit) (fun _ => True) (fun _ => [(0, .slice (some ⟨g, 0, none⟩) n c), (1, .int .i64 0), (2, .int .i64 n)]) (fun _ => IB g xs sp) (fun _ => 0) () trivial ⟨rfl, rfl, rfl, trivial⟩ (fun w h => h) (fun _ _ => ?_)
  have h12' : (n : Int) - 0 ≤ 12 := by omega
  repeat' (first | refine Cd.seq ?_ | refine Cd.reg ?_ | refine Ops.nil ?_ | refine Ops.mv rfl rfl rfl rfl ?_ | refine Ops.asg rfl rfl rfl rfl ?_ | refine Ops.subI rfl rfl rfl rfl (by omega) (by omega) rfl ?_ | refine Ops.bin rfl rfl rfl rfl rfl ?_ | refine Cd.block ?_ | refine Cd.condT rfl (by first | rfl | assumption | (simp only [decide_eq_true_eq, decide_eq_false_iff_not, Bool.not_eq_true', Bool.not_eq_false', Bool.not_eq_eq_eq_not, Bool.not_true, Bool.not_false, beq_iff_eq, beq_eq_false_iff_ne, ne_eq, decide_eq_decide, eq_self, true_iff, iff_true, not_true_eq_false, not_false_eq_true]; first | done | omega)) ?_)
  refine Ops.call (ins_spec g n c xs sp hn hc (by omega)) rfl (noPd rfl) rfl rfl rfl (fun v A' hR => ?_)
  obtain ⟨ys, rfl, hp, hs⟩ := hR
  repeat' (first | refine Ops.nil ?_)
  exact Cd.ret (ret0 (A' := IB g ys sp) rfl (fun w h => h.split) ⟨ys, rfl, hp, hs⟩)
theorem sort_spec (sv : Value) (xs : List Int) (G : List Blk) (h : OwnI sv xs G) (h12 : xs.length ≤ 12) :
    Con Try.prog 37 #[sv] G fun v A => ∃ ys, OwnI sv ys A ∧ ys.Perm xs ∧ ys.Pairwise (· ≤ ·) := by
  rcases h.2 with ⟨rfl, hb, rfl⟩ | ⟨g, c, spare, rfl, rfl, hsp, hle⟩
  · obtain rfl : xs = [] := by simpa using hb
    refine Con.intro (vs := [_]) Try.func37 rfl Try.ntmps37 rfl (fun B => ?_)
    repeat' (first | refine Cd.seq ?_ | refine Cd.reg ?_ | refine Ops.mv rfl rfl rfl rfl ?_ | refine Ops.asg rfl rfl rfl rfl ?_ | refine Ops.lenS rfl rfl rfl rfl ?_)
    refine Ops.cvI rfl rfl rfl rfl ?_
    rw [u64_small (n := ((0 : Nat) : Int)) (by simp) (by simp)]
    refine Ops.call (blen_spec ((0 : Nat) : Int) (by simp) (by simp)) rfl (noPd rfl) rfl rfl rfl (fun v A' hR => ?_)
    obtain ⟨⟨k, rfl⟩, rfl⟩ := hR
    skip
    refine Ops.call (pdq_nil_spec none 0 k) rfl (noPd rfl) rfl rfl rfl (fun v A' hR => ?_)
    obtain rfl := hR
    exact Ops.nilN (end0 (A' := []) rfl (fun w h => h) ⟨[], Own.none, .refl _, List.Pairwise.nil⟩)
  · have hl : (xs.map irow).length = xs.length := by simp
    rw [hl] at hle ⊢
    refine Con.intro (vs := [_]) Try.func37 rfl Try.ntmps37 rfl (fun B => ?_)
    repeat' (first | refine Cd.seq ?_ | refine Cd.reg ?_ | refine Ops.mv rfl rfl rfl rfl ?_ | refine Ops.asg rfl rfl rfl rfl ?_ | refine Ops.lenS rfl rfl rfl rfl ?_)
    refine Ops.cvI rfl rfl rfl rfl ?_
    rw [u64_small (Int.natCast_nonneg _) (by omega)]
    refine Ops.call (blen_spec _ (Int.natCast_nonneg _) (by omega)) rfl (noPd rfl) rfl rfl rfl (fun v A' hR => ?_)
    obtain ⟨⟨k, rfl⟩, rfl⟩ := hR
    skip
    refine Ops.call (pdq_spec g xs.length c xs spare k rfl hle h12) rfl (noPd rfl) rfl rfl rfl (fun v A' hR => ?_)
    obtain ⟨ys, rfl, hp, hs⟩ := hR
    have e1 : ys.length = xs.length := hp.length_eq
    refine Ops.nilN (end0 (A' := IB g ys spare) rfl (fun w h => h.split) ⟨ys, ⟨irows_ok ys, .inr ⟨g, c, spare, by rw [List.length_map, e1], rfl, ?_, by rw [List.length_map, e1]; exact hle⟩⟩, hp, hs⟩)
    rw [(irows_ok ys).len, List.length_map, e1, ← hl, ← h.1.len]
    exact hsp

/-! what a map's keys are, in whatever order -/
@[reducible] def encI (x : Int) : List Value := [.int .i64 x]
/-- A beginning of a row of the keys. -/
def KeyRow (es : List ME) (pre : List Int) : Prop := pre.Nodup ∧ ∀ x ∈ pre, x ∈ es.map ME.k
def KeyAll (es : List ME) (xs : List Int) : Prop := xs.Perm (es.map ME.k)
theorem nodup_len : ∀ {a b : List Int}, a.Nodup → (∀ x ∈ a, x ∈ b) → a.length ≤ b.length
  | [], b, _, _ => Nat.zero_le _
  | x :: a, b, hn, hs => by
    have hn' := List.nodup_cons.1 hn
    have hx := hs x (List.mem_cons_self ..)
    have := nodup_len (a := a) (b := b.erase x) hn'.2 fun y hy => (List.mem_erase_of_ne (fun e => by subst e; exact hn'.1 hy)).2 (hs y (List.mem_cons_of_mem _ hy))
    rw [List.length_erase_of_mem hx] at this
    have hp := List.length_pos_of_mem hx
    simp only [List.length_cons]
    omega
theorem KeyRow.len {es : List ME} {pre : List Int} (h : KeyRow es pre) : pre.length ≤ es.length := by
  have := nodup_len h.1 h.2
  simpa using this

theorem keys_spec (b : Nat) : Con Try.prog 31 #[.map (some b)] [] fun v A => ∃ bx, v = .func (.func 38) #[] #[.pointer (some ⟨bx, 0, none⟩)] ∧ A = [(bx, cl [.map (some b)] 63)] := by
  refine Con.intro (vs := [_]) Try.func31 rfl Try.ntmps31 rfl (fun B => ?_)
  repeat' (first | refine Ops.mkF rfl rfl rfl rfl rfl ?_ | refine Cd.seq ?_ | refine Cd.reg ?_ | refine Ops.nil ?_ | refine Ops.asg rfl rfl rfl rfl ?_ | refine Ops.box rfl rfl rfl rfl (noPd rfl) (fun b => ?_))
  exact Cd.ret (ret1 rfl (Res.tmp rfl) (fun _ h => h) ⟨_, rfl, rfl⟩)

theorem keys_iter (bx b : Nat) (es : List ME) (ck : Nat) (hok : MOk es ck) :
    IterC Try.prog 38 [.pointer (some ⟨bx, 0, none⟩)] encI (KeyRow es) (KeyAll es) [(bx, cl [.map (some b)] 63), (b, mpo es ck)] [] := by
  intro B0 l Y Z hG hY C hC
  refine ConB.intro (vs := [.func (.yield l) #[] #[], .pointer (some ⟨bx, 0, none⟩)]) Try.func38 rfl Try.ntmps38 rfl (fun B hx => ?_)
  repeat' (first | refine Cd.seq ?_ | refine Cd.reg ?_ | refine Ops.ld1 rfl rfl rfl rfl rfl ?_)
  refine Ops.rngM rfl rfl rfl rfl (noPd rfl) (fun r => ?_)
  repeat' (first | refine Ops.nil ?_ | refine Cd.block ?_)
  refine Cd.loopK (fun s : (List Nat × List Int) × List Blk => Y s.1.2 s.2 ∧ KeyRow es s.1.2 ∧ (es.map ME.k).Perm (s.1.2 ++ (mleft es s.1.1).map ME.k)) (fun s => [(0, .func (.yield l) #[] #[]), (5, .pointer (some ⟨r, 0, none⟩))])
    (fun s => (r, mit b ck s.1.1) :: (bx, cl [.map (some b)] 63) :: (b, mpo es ck) :: s.2) (fun s => (mleft es s.1.1).length) (([], []), C) ⟨hC, ⟨List.nodup_nil, by simp⟩, by
      have : mleft es [] = es := by unfold mleft; rw [List.filter_eq_self]; simp
      rw [this]; exact .refl _⟩ ⟨rfl, rfl, trivial⟩
    (fun w hw => hw) (fun s hI => ?_)
  obtain ⟨⟨seen, pre⟩, C1⟩ := s
  obtain ⟨hYC, hkr, hperm⟩ := hI
  dsimp only at hYC hkr hperm ⊢
  clear hC hG
  refine Cd.seq ?_
  refine Cd.reg ?_
  refine Ops.nxM hok rfl rfl rfl rfl (noPd rfl) (fun hl => ?_) (fun e he => ?_)
  · rw [hl] at hperm
    repeat' (first | refine Cd.seq ?_ | refine Ops.ext rfl rfl rfl rfl rfl ?_ | refine Cd.condF rfl rfl ?_)
    exact Cd.exit (end0 (A' := [(bx, cl [.map (some b)] 63), (b, mpo es ck)] ++ C1) rfl (fun w h => h.tail) ⟨C1, .inl ⟨pre, by simpa [KeyAll] using hperm.symm, hYC⟩, rfl⟩)
  · have hmem := (List.mem_filter.1 he).1
    have hnx := mleft_next hok he
    have hperm' : (es.map ME.k).Perm ((pre ++ [e.k]) ++ (mleft es (seen ++ [e.b])).map ME.k) := by
      refine hperm.trans ?_
      rw [List.append_assoc]
      exact (hnx.map ME.k).append_left pre
    have hkr' : KeyRow es (pre ++ [e.k]) := by
      have hnd := (hperm'.nodup_iff).1 hok.keys
      refine ⟨(List.nodup_append.1 hnd).1, fun x hx => ?_⟩
      exact hperm'.mem_iff.2 (List.mem_append_left _ hx)
    repeat' (first | refine Cd.seq ?_ | refine Cd.reg ?_ | refine Ops.ext rfl rfl rfl rfl rfl ?_ | refine Cd.condT rfl rfl ?_ | refine Cd.block ?_ | refine Cd.skip (Cd.next ?_))
    refine Ops.enM hok hmem rfl rfl rfl rfl ?_
    repeat' (first | refine Cd.seq ?_ | refine Cd.reg ?_ | refine Ops.mv rfl rfl rfl rfl ?_ | refine Ops.asg rfl rfl rfl rfl ?_ | refine Ops.ext rfl rfl rfl rfl rfl ?_)
    refine Ops.callY (hY pre e.k hkr' C1 hYC) hx rfl (noPd rfl) rfl rfl rfl rfl (fun v A' hR => ?_)
    rcases hR with ⟨rfl, hY'⟩ | ⟨rfl, hZ⟩
    · repeat' (first | refine Ops.nil ?_ | refine Ops.un rfl rfl rfl rfl ?_ | refine Cd.condF rfl rfl ?_)
      have hlt : (mleft es (seen ++ [e.b])).length < (mleft es seen).length := by rw [hnx.length_eq]; exact Nat.lt_succ_self _
      exact Cd.skip (inB (round_end (((seen ++ [e.b], pre ++ [e.k]), A') : (List Nat × List Int) × List Blk) ⟨hY', hkr', hperm'⟩ hlt ⟨rfl, rfl, trivial⟩
        (fun w h => (h.split : Sat _ ((r, mit b ck (seen ++ [e.b])) :: (bx, cl [.map (some b)] 63) :: (b, mpo es ck) :: A') w))))
    · repeat' (first | refine Ops.nil ?_ | refine Ops.un rfl rfl rfl rfl ?_ | refine Cd.condT rfl rfl ?_)
      exact Cd.ret (ret0 (A' := [(bx, cl [.map (some b)] 63), (b, mpo es ck)] ++ A') rfl (fun w h => (h.split : Sat _ ((bx, cl [.map (some b)] 63) :: (b, mpo es ck) :: A') w)) ⟨A', .inr ⟨_, hZ⟩, rfl⟩)

/-! Collect, Sorted, over whatever iterator tells whole numbers -/
theorem appseq_spec (gf : FuncId) (lb : List Value) (Ok Done : List Int → Prop) (AI : List Blk) [hfn : FnOk Try.prog gf] (hit : IterC Try.prog gf lb encI Ok Done AI []) (hlen : ∀ pre, Ok pre → pre.length ≤ 1000000) :
    Con Try.prog 39 #[.slice none 0 0, .func (.func gf) #[] lb.toArray] AI fun v A => ∃ xs G, Done xs ∧ OwnI v xs G ∧ A = AI ++ G := by
  refine Con.intro (vs := [_, _]) Try.func39 rfl Try.ntmps39 rfl (fun B => ?_)
  refine Cd.seq ?_
  refine Cd.reg ?_
  refine Ops.box rfl rfl rfl rfl (noPd rfl) (fun b2 => ?_)
  repeat' (first | refine Cd.seq ?_ | refine Cd.reg ?_ | refine Ops.nil ?_ | refine Ops.mv rfl rfl rfl rfl ?_ | refine Ops.asg rfl rfl rfl rfl ?_ | refine Cd.block ?_)
  refine Cd.range (X := Int) (C0 := [(b2, cl [.slice none 0 0] 22)]) hit rfl rfl (ps := [7]) rfl (fun _ => rfl)
    (fun pre C => ∃ sv G, OwnI sv pre G ∧ C = (b2, cl [sv] 22) :: G)
    (fun _ _ _ => False)
    (fun pre x T C => Ok (pre ++ [x]) ∧ ∃ sv G, OwnI sv pre G ∧ T = [(2, .pointer (some ⟨b2, 0, none⟩)), (5, .int .i64 x)] ∧ C = (b2, cl [sv] 22) :: G)
    (fun w hw => (hw.split : Sat _ (AI ++ [(b2, cl [.slice none 0 0] 22)]) w)) ⟨_, [], Own.none, rfl⟩ (fun C _ => ⟨C, .refl _⟩) ?_ ?_ ?_ ?_
  · rintro B2 pre x C hx hok ⟨sv, G, hO, rfl⟩
    repeat' (first | refine Cd.reg ?_ | refine Ops.asg rfl rfl rfl rfl ?_)
    exact Ops.nilN (asg_end ⟨hok, sv, G, hO, rfl, rfl⟩ (fun a hF => hF.keeps ⟨rfl, rfl, trivial⟩) (fun w h => h))
  · rintro lp r B2 pre x T C hro hlp hx hok ⟨hok', sv, G, hO, rfl, rfl⟩
    have hl := hlen _ hok'
    rw [List.length_append, List.length_singleton] at hl
    obtain ⟨sa, sc, rfl⟩ := hO.form
    repeat' (first | refine Cd.reg ?_ | refine Ops.mv rfl rfl rfl rfl ?_ | refine Ops.ld1 rfl rfl rfl rfl rfl ?_ | refine Ops.bs1 rfl rfl rfl rfl rfl rfl rfl (noPd rfl) (fun b => ?_) | refine Cd.block ?_)
    refine Ops.app1 (rows := pre.map irow) hO (by rw [List.length_map]; omega) (by rw [List.length_map]; omega) rfl rfl rfl rfl (by rfl) (by rfl) rfl (noPd rfl) rfl (fun v G' hG' => ?_)
    obtain ⟨a', c', rfl⟩ := hG'.form
    repeat' (first | refine Ops.st1 rfl rfl rfl rfl rfl (noPd rfl) ?_)
    exact Ops.nilN (inB (rnd_next ⟨_, G', by unfold OwnI; rw [List.map_append]; exact hG', rfl⟩ (fun w h => h.split)))
  · rintro D xs C hD hdn ⟨sv, G, hO, rfl⟩
    obtain ⟨sa, sc, rfl⟩ := hO.form
    refine Cd.next (Q' := fun _ _ _ => True) ?_
    repeat' (first | refine Cd.seq ?_ | refine Cd.reg ?_ | refine Ops.nil ?_ | refine Ops.asg rfl rfl rfl rfl ?_ | refine Ops.ld1 rfl rfl rfl rfl rfl ?_)
    exact Cd.ret (unmark (mark1 hD) (ret1 (A' := AI ++ G) rfl (Res.tmp rfl) (fun w h => h.split) ⟨xs, G, hdn, hO, rfl⟩))
  · rintro D c pre C hD hZ
    exact hZ.elim
theorem collect_spec (gf : FuncId) (lb : List Value) (Ok Done : List Int → Prop) (AI : List Blk) [hfn : FnOk Try.prog gf] (hit : IterC Try.prog gf lb encI Ok Done AI []) (hlen : ∀ pre, Ok pre → pre.length ≤ 1000000) :
    Con Try.prog 36 #[.func (.func gf) #[] lb.toArray] AI fun v A => ∃ xs G, Done xs ∧ OwnI v xs G ∧ A = AI ++ G := by
  refine Con.intro (vs := [_]) Try.func36 rfl Try.ntmps36 rfl (fun B => ?_)
  repeat' (first | refine Cd.seq ?_ | refine Cd.reg ?_ | refine Ops.mv rfl rfl rfl rfl ?_ | refine Ops.asg rfl rfl rfl rfl ?_)
  refine Ops.call (appseq_spec gf lb Ok Done AI hit hlen) rfl (noPd rfl) rfl rfl rfl (fun v A' hR => ?_)
  obtain ⟨xs, G, hdn, hO, rfl⟩ := hR
  obtain ⟨sa, sc, rfl⟩ := hO.form
  repeat' (first | refine Ops.nil ?_ | refine Ops.asg rfl rfl rfl rfl ?_)
  exact Cd.ret (ret1 (A' := AI ++ G) rfl (Res.tmp rfl) (fun w h => h.split) ⟨xs, G, hdn, hO, rfl⟩)
theorem sorted_spec (gf : FuncId) (lb : List Value) (Ok Done : List Int → Prop) (AI : List Blk) [hfn : FnOk Try.prog gf] (hit : IterC Try.prog gf lb encI Ok Done AI []) (hlen : ∀ pre, Ok pre → pre.length ≤ 1000000) (hdl : ∀ xs, Done xs → xs.length ≤ 12) :
    Con Try.prog 30 #[.func (.func gf) #[] lb.toArray] AI fun v A => ∃ xs ys G, Done xs ∧ ys.Perm xs ∧ ys.Pairwise (· ≤ ·) ∧ OwnI v ys G ∧ A = AI ++ G := by
  refine Con.intro (vs := [_]) Try.func30 rfl Try.ntmps30 rfl (fun B => ?_)
  repeat' (first | refine Cd.seq ?_ | refine Cd.reg ?_ | refine Ops.mv rfl rfl rfl rfl ?_ | refine Ops.asg rfl rfl rfl rfl ?_)
  refine Ops.call (collect_spec gf lb Ok Done AI hit hlen) rfl (noPd rfl) rfl rfl rfl (fun v A' hR => ?_)
  obtain ⟨xs, G, hdn, hO, rfl⟩ := hR
  obtain ⟨sa, sc, rfl⟩ := hO.form
  repeat' (first | refine Cd.seq ?_ | refine Cd.reg ?_ | refine Ops.mv rfl rfl rfl rfl ?_ | refine Ops.asg rfl rfl rfl rfl ?_)
  refine Ops.call (sort_spec _ xs G hO (hdl xs hdn)) rfl (noPd rfl) rfl rfl rfl (fun v A' hR => ?_)
  obtain ⟨ys, hO', hp, hs⟩ := hR
  repeat' (first | refine Cd.seq ?_ | refine Cd.reg ?_ | refine Ops.nil ?_ | refine Ops.mv rfl rfl rfl rfl ?_ | refine Ops.asg rfl rfl rfl rfl ?_)
  exact Cd.ret (ret1 (A' := AI ++ A') rfl (Res.tmp rfl) (fun w h => h.split) ⟨xs, ys, A', hdn, hp, hs, hO', rfl⟩)

theorem mclone_spec (b : Nat) (es : List ME) (ck : Nat) : Con Try.prog 29 #[.map (some b)] [(b, mpo es ck)] fun v A => ∃ b', v = .map (some b') ∧ A = [(b, mpo es ck), (b', mpo es ck)] := by
  refine Con.intro (vs := [_]) Try.func29 rfl Try.ntmps29 rfl (fun B => ?_)
  repeat' (first | refine Ops.mkI rfl rfl (fun _ h => by cases h) rfl rfl ?_ | refine Cd.seq ?_ | refine Cd.reg ?_ | refine Ops.nil ?_ | refine Ops.mv rfl rfl rfl rfl ?_ | refine Ops.asg rfl rfl rfl rfl ?_ | refine Ops.bin rfl rfl rfl rfl rfl ?_ | refine Cd.condF rfl rfl ?_ | refine Cd.skip (Cd.next ?_))
  refine Ops.cloneM rfl rfl rfl rfl (noPd rfl) (fun b' => ?_)
  repeat' (first | refine Ops.asM rfl rfl rfl rfl ?_ | refine Ops.nil ?_ | refine Ops.asg rfl rfl rfl rfl ?_)
  exact Cd.ret (ret1 rfl (Res.tmp rfl) (fun w h => h.split) ⟨b', rfl, rfl⟩)
end Go.Proofs.Ytlfhimdmhhpcfaa
