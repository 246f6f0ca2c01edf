import Derived.Test.YtkcmjgjfodipfaaGreatA20
import Derived.Test.YtkcmjgjfodipfaaGreatA09
import Derived.Test.YtkcmjgjfodipfaaGreatA10
import Derived.Test.YtkcmjgjfodipfaaGreatA19
namespace Go.Proofs.YtkcmjgjfodipfaaGreat.Ls
open Go Go.Sep Go.Proofs
set_option maxRecDepth 10000
set_option maxHeartbeats 2000000
set_option synthInstance.maxSize 2000
set_option linter.unusedSimpArgs false
set_option linter.unusedVariables false
theorem ins_nil_spec (a : Option Addr) (c : Nat) : Con Tryz.prog 321 #[.slice a 0 c, .int .i64 0, .int .i64 0] [] fun v A => A = [] := by
  refine Con.intro (vs := [_, _, _]) Tryz.func321 rfl Tryz.ntmps321 rfl (fun B => ?_)
  repeat' (first | refine Cd.seq ?_ | refine Cd.reg ?_ | refine Ops.nil ?_ | refine Ops.mv rfl rfl rfl rfl ?_ | refine Ops.asg rfl rfl rfl rfl ?_ | refine Ops.addI rfl rfl rfl rfl (by omega) (by omega) rfl ?_ | refine Cd.block ?_)
  refine Cd.loopK (σ := Unit) (fun _ => True) (fun _ => [(2, .int .i64 0), (6, .int .i64 1)]) (fun _ => []) (fun _ => 0) () trivial ⟨rfl, rfl, trivial⟩ (fun w h => h) (fun _ _ => ?_)
  repeat' (first | refine Cd.seq ?_ | refine Cd.reg ?_ | refine Ops.nil ?_ | refine Ops.mv rfl rfl rfl rfl ?_ | refine Ops.bin rfl rfl rfl rfl rfl ?_ | refine Cd.condF rfl rfl ?_)
  exact Cd.exit (end0 rfl (fun w h => h) rfl)
theorem pdq_nil_spec (a : Option Addr) (c : Nat) (k : Int) : Con Tryz.prog 306 #[.slice a 0 c, .int .i64 0, .int .i64 0, .int .i64 k] [] fun v A => A = [] := by
  refine Con.intro (vs := [_, _, _, _]) Tryz.func306 rfl Tryz.ntmps306 rfl (fun B => ?_)
  repeat' (first | refine Cd.seq ?_ | refine Cd.reg ?_ | refine Ops.nil ?_ | refine Ops.asg rfl rfl rfl rfl ?_ | refine Cd.block ?_)
  refine Cd.loopK (σ := Unit) (fun _ => True) (fun _ => [(0, .slice a 0 c), (1, .int .i64 0), (2, .int .i64 0)]) (fun _ => []) (fun _ => 0) () trivial ⟨rfl, rfl, rfl, trivial⟩ (fun w h => h) (fun _ _ => ?_)
  repeat' (first | refine Cd.seq ?_ | refine Cd.reg ?_ | refine Ops.nil ?_ | refine Ops.mv rfl rfl rfl rfl ?_ | refine Ops.asg rfl rfl rfl rfl ?_ | refine Ops.subI rfl rfl rfl rfl (by omega) (by omega) rfl ?_ | refine Ops.bin rfl rfl rfl rfl rfl ?_ | refine Cd.condT rfl rfl ?_ | refine Cd.block ?_)
  refine Ops.call (ins_nil_spec a c) rfl (noPd rfl) rfl rfl rfl (fun v A' hR => ?_)
  obtain rfl := hR
  repeat' (first | refine Ops.nil ?_)
  exact Cd.ret (ret0 rfl (fun w h => h) rfl)
theorem pdq_spec (g n c : Nat) (xs : List Int) (sp : List Value) (k : Int) (hn : xs.length = n) (hc : n ≤ c) (h12 : n ≤ 12) :
    Con Tryz.prog 306 #[.slice (some ⟨g, 0, none⟩) n c, .int .i64 0, .int .i64 n, .int .i64 k] (IB g xs sp) fun v A => ∃ ys, A = IB g ys sp ∧ ys.Perm xs ∧ ys.Pairwise (· ≤ ·) := by
  refine Con.intro (vs := [_, _, _, _]) Tryz.func306 rfl Tryz.ntmps306 rfl (fun B => ?_)
  repeat' (first | refine Cd.seq ?_ | refine Cd.reg ?_ | refine Ops.nil ?_ | refine Ops.asg rfl rfl rfl rfl ?_ | refine Cd.block ?_)
  refine Cd.loopK (σ := Unit) (fun _ => True) (fun _ => [(0, .slice (some ⟨g, 0, none⟩) n c), (1, .int .i64 0), (2, .int .i64 n)]) (fun _ => IB g xs sp) (fun _ => 0) () trivial ⟨rfl, rfl, rfl, trivial⟩ (fun w h => h) (fun _ _ => ?_)
  have h12' : (n : Int) - 0 ≤ 12 := by omega
  repeat' (first | refine Cd.seq ?_ | refine Cd.reg ?_ | refine Ops.nil ?_ | refine Ops.mv rfl rfl rfl rfl ?_ | refine Ops.asg rfl rfl rfl rfl ?_ | refine Ops.subI rfl rfl rfl rfl (by omega) (by omega) rfl ?_ | refine Ops.bin rfl rfl rfl rfl rfl ?_ | refine Cd.block ?_ | refine Cd.condT rfl (by first | rfl | assumption | (simp only [decide_eq_true_eq, decide_eq_false_iff_not, Bool.not_eq_true', Bool.not_eq_false', Bool.not_eq_eq_eq_not, Bool.not_true, Bool.not_false, beq_iff_eq, beq_eq_false_iff_ne, ne_eq, decide_eq_decide, eq_self, true_iff, iff_true, not_true_eq_false, not_false_eq_true]; first | done | omega)) ?_)
  refine Ops.call (ins_spec g n c xs sp hn hc (by omega)) rfl (noPd rfl) rfl rfl rfl (fun v A' hR => ?_)
  obtain ⟨ys, rfl, hp, hs⟩ := hR
  repeat' (first | refine Ops.nil ?_)
  exact Cd.ret (ret0 (A' := IB g ys sp) rfl (fun w h => h.split) ⟨ys, rfl, hp, hs⟩)
theorem sort_spec (sv : Value) (xs : List Int) (G : List Blk) (h : OwnI sv xs G) (h12 : xs.length ≤ 12) :
    Con Tryz.prog 271 #[sv] G fun v A => ∃ ys, OwnI sv ys A ∧ ys.Perm xs ∧ ys.Pairwise (· ≤ ·) := by
  rcases h.2 with ⟨rfl, hb, rfl⟩ | ⟨g, c, spare, rfl, rfl, hsp, hle⟩
  · obtain rfl : xs = [] := by simpa using hb
    refine Con.intro (vs := [_]) Tryz.func271 rfl Tryz.ntmps271 rfl (fun B => ?_)
    repeat' (first | refine Cd.seq ?_ | refine Cd.reg ?_ | refine Ops.mv rfl rfl rfl rfl ?_ | refine Ops.asg rfl rfl rfl rfl ?_ | refine Ops.lenS rfl rfl rfl rfl ?_)
    refine Ops.cvI rfl rfl rfl rfl ?_
    rw [u64_small (n := ((0 : Nat) : Int)) (by simp) (by simp)]
    refine Ops.call (blen_spec ((0 : Nat) : Int) (by simp) (by simp)) rfl (noPd rfl) rfl rfl rfl (fun v A' hR => ?_)
    obtain ⟨⟨k, rfl⟩, rfl⟩ := hR
    skip
    refine Ops.call (pdq_nil_spec none 0 k) rfl (noPd rfl) rfl rfl rfl (fun v A' hR => ?_)
    obtain rfl := hR
    exact Ops.nilN (end0 (A' := []) rfl (fun w h => h) ⟨[], Own.none, .refl _, List.Pairwise.nil⟩)
  · have hl : (xs.map irow).length = xs.length := by simp
    rw [hl] at hle ⊢
    refine Con.intro (vs := [_]) Tryz.func271 rfl Tryz.ntmps271 rfl (fun B => ?_)
    repeat' (first | refine Cd.seq ?_ | refine Cd.reg ?_ | refine Ops.mv rfl rfl rfl rfl ?_ | refine Ops.asg rfl rfl rfl rfl ?_ | refine Ops.lenS rfl rfl rfl rfl ?_)
    refine Ops.cvI rfl rfl rfl rfl ?_
    rw [u64_small (Int.natCast_nonneg _) (by omega)]
    refine Ops.call (blen_spec _ (Int.natCast_nonneg _) (by omega)) rfl (noPd rfl) rfl rfl rfl (fun v A' hR => ?_)
    obtain ⟨⟨k, rfl⟩, rfl⟩ := hR
    skip
    refine Ops.call (pdq_spec g xs.length c xs spare k rfl hle h12) rfl (noPd rfl) rfl rfl rfl (fun v A' hR => ?_)
    obtain ⟨ys, rfl, hp, hs⟩ := hR
    have e1 : ys.length = xs.length := hp.length_eq
    refine Ops.nilN (end0 (A' := IB g ys spare) rfl (fun w h => h.split) ⟨ys, ⟨irows_ok ys, .inr ⟨g, c, spare, by rw [List.length_map, e1], rfl, ?_, by rw [List.length_map, e1]; exact hle⟩⟩, hp, hs⟩)
    rw [(irows_ok ys).len, List.length_map, e1, ← hl, ← h.1.len]
    exact hsp
/-! what a map's keys are, in whatever order -/
@[reducible] def encI (x : Int) : List Value := [.int .i64 x]
/-- A beginning of a row of the keys. -/
def KeyRow (es : List ME) (pre : List Int) : Prop := pre.Nodup ∧ ∀ x ∈ pre, x ∈ es.map ME.k
def KeyAll (es : List ME) (xs : List Int) : Prop := xs.Perm (es.map ME.k)
theorem nodup_len : ∀ {a b : List Int}, a.Nodup → (∀ x ∈ a, x ∈ b) → a.length ≤ b.length
  | [], b, _, _ => Nat.zero_le _
  | x :: a, b, hn, hs => by
    have hn' := List.nodup_cons.1 hn
    have hx := hs x (List.mem_cons_self ..)
    have := nodup_len (a := a) (b := b.erase x) hn'.2 fun y hy => (List.mem_erase_of_ne (fun e => by subst e; exact hn'.1 hy)).2 (hs y (List.mem_cons_of_mem _ hy))
    rw [List.length_erase_of_mem hx] at this
    have hp := List.length_pos_of_mem hx
    simp only [List.length_cons]
    omega
theorem KeyRow.len {es : List ME} {pre : List Int} (h : KeyRow es pre) : pre.length ≤ es.length := by
  have := nodup_len h.1 h.2
  simpa using this
theorem keys_spec (b : Nat) : Con Tryz.prog 213 #[.map (some b)] [] fun v A => ∃ bx, v = .func (.func 272) #[] #[.pointer (some ⟨bx, 0, none⟩)] ∧ A = [(bx, cl [.map (some b)] 302)] := by
  refine Con.intro (vs := [_]) Tryz.func213 rfl Tryz.ntmps213 rfl (fun B => ?_)
  repeat' (first | refine Ops.mkF rfl rfl rfl rfl rfl ?_ | refine Cd.seq ?_ | refine Cd.reg ?_ | refine Ops.nil ?_ | refine Ops.asg rfl rfl rfl rfl ?_ | refine Ops.box rfl rfl rfl rfl (noPd rfl) (fun b => ?_))
  exact Cd.ret (ret1 rfl (Res.tmp rfl) (fun _ h => h) ⟨_, rfl, rfl⟩)
theorem keys_iter (bx b : Nat) (es : List ME) (ck : Nat) (hok : MOk es ck) :
    IterC Tryz.prog 272 [.pointer (some ⟨bx, 0, none⟩)] encI (KeyRow es) (KeyAll es) [(bx, cl [.map (some b)] 302), (b, mpo es ck)] [] := by
  intro B0 l Y Z hG hY C hC
  refine ConB.intro (vs := [.func (.yield l) #[] #[], .pointer (some ⟨bx, 0, none⟩)]) Tryz.func272 rfl Tryz.ntmps272 rfl (fun B hx => ?_)
  repeat' (first | refine Cd.seq ?_ | refine Cd.reg ?_ | refine Ops.ld1 rfl rfl rfl rfl rfl ?_)
  refine Ops.rngM rfl rfl rfl rfl (noPd rfl) (fun r => ?_)
  repeat' (first | refine Ops.nil ?_ | refine Cd.block ?_)
  refine Cd.loopK (fun s : (List Nat × List Int) × List Blk => Y s.1.2 s.2 ∧ KeyRow es s.1.2 ∧ (es.map ME.k).Perm (s.1.2 ++ (mleft es s.1.1).map ME.k)) (fun s => [(0, .func (.yield l) #[] #[]), (5, .pointer (some ⟨r, 0, none⟩))])
    (fun s => (r, mit b ck s.1.1) :: (bx, cl [.map (some b)] 302) :: (b, mpo es ck) :: s.2) (fun s => (mleft es s.1.1).length) (([], []), C) ⟨hC, ⟨List.nodup_nil, by simp⟩, by
      have : mleft es [] = es := by unfold mleft; rw [List.filter_eq_self]; simp
      rw [this]; exact .refl _⟩ ⟨rfl, rfl, trivial⟩
    (fun w hw => hw) (fun s hI => ?_)
  obtain ⟨⟨seen, pre⟩, C1⟩ := s
  obtain ⟨hYC, hkr, hperm⟩ := hI
  dsimp only at hYC hkr hperm ⊢
  clear hC hG
  refine Cd.seq ?_
  refine Cd.reg ?_
  refine Ops.nxM hok rfl rfl rfl rfl (noPd rfl) (fun hl => ?_) (fun e he => ?_)
  · rw [hl] at hperm
    repeat' (first | refine Cd.seq ?_ | refine Ops.ext rfl rfl rfl rfl rfl ?_ | refine Cd.condF rfl rfl ?_)
    exact Cd.exit (end0 (A' := [(bx, cl [.map (some b)] 302), (b, mpo es ck)] ++ C1) rfl (fun w h => h.tail) ⟨C1, .inl ⟨pre, by simpa [KeyAll] using hperm.symm, hYC⟩, rfl⟩)
  · have hmem := (List.mem_filter.1 he).1
    have hnx := mleft_next hok he
    have hperm' : (es.map ME.k).Perm ((pre ++ [e.k]) ++ (mleft es (seen ++ [e.b])).map ME.k) := by
      refine hperm.trans ?_
      rw [List.append_assoc]
      exact (hnx.map ME.k).append_left pre
    have hkr' : KeyRow es (pre ++ [e.k]) := by
      have hnd := (hperm'.nodup_iff).1 hok.keys
      refine ⟨(List.nodup_append.1 hnd).1, fun x hx => ?_⟩
      exact hperm'.mem_iff.2 (List.mem_append_left _ hx)
    repeat' (first | refine Cd.seq ?_ | refine Cd.reg ?_ | refine Ops.ext rfl rfl rfl rfl rfl ?_ | refine Cd.condT rfl rfl ?_ | refine Cd.block ?_ | refine Cd.skip (Cd.next ?_))
    refine Ops.enM hok hmem rfl rfl rfl rfl ?_
    repeat' (first | refine Cd.seq ?_ | refine Cd.reg ?_ | refine Ops.mv rfl rfl rfl rfl ?_ | refine Ops.asg rfl rfl rfl rfl ?_ | refine Ops.ext rfl rfl rfl rfl rfl ?_)
    refine Ops.callY (hY pre e.k hkr' C1 hYC) hx rfl (noPd rfl) rfl rfl rfl rfl (fun v A' hR => ?_)
    rcases hR with ⟨rfl, hY'⟩ | ⟨rfl, hZ⟩
    · repeat' (first | refine Ops.nil ?_ | refine Ops.un rfl rfl rfl rfl ?_ | refine Cd.condF rfl rfl ?_)
      have hlt : (mleft es (seen ++ [e.b])).length < (mleft es seen).length := by rw [hnx.length_eq]; exact Nat.lt_succ_self _
      exact Cd.skip (inB (round_end (((seen ++ [e.b], pre ++ [e.k]), A') : (List Nat × List Int) × List Blk) ⟨hY', hkr', hperm'⟩ hlt ⟨rfl, rfl, trivial⟩
        (fun w h => (h.split : Sat _ ((r, mit b ck (seen ++ [e.b])) :: (bx, cl [.map (some b)] 302) :: (b, mpo es ck) :: A') w))))
    · repeat' (first | refine Ops.nil ?_ | refine Ops.un rfl rfl rfl rfl ?_ | refine Cd.condT rfl rfl ?_)
      exact Cd.ret (ret0 (A' := [(bx, cl [.map (some b)] 302), (b, mpo es ck)] ++ A') rfl (fun w h => (h.split : Sat _ ((bx, cl [.map (some b)] 302) :: (b, mpo es ck) :: A') w)) ⟨A', .inr ⟨_, hZ⟩, rfl⟩)
/-! Collect, Sorted, over whatever iterator tells whole numbers -/
theorem appseq_spec (gf : FuncId) (lb : List Value) (Ok Done : List Int → Prop) (AI : List Blk) [hfn : FnOk Tryz.prog gf] (hit : IterC Tryz.prog gf lb encI Ok Done AI []) (hlen : ∀ pre, Ok pre → pre.length ≤ 1000000) :
    Con Tryz.prog 305 #[.slice none 0 0, .func (.func gf) #[] lb.toArray] AI fun v A => ∃ xs G, Done xs ∧ OwnI v xs G ∧ A = AI ++ G := by
  refine Con.intro (vs := [_, _]) Tryz.func305 rfl Tryz.ntmps305 rfl (fun B => ?_)
  refine Cd.seq ?_
  refine Cd.reg ?_
  refine Ops.box rfl rfl rfl rfl (noPd rfl) (fun b2 => ?_)
  repeat' (first | refine Cd.seq ?_ | refine Cd.reg ?_ | refine Ops.nil ?_ | refine Ops.mv rfl rfl rfl rfl ?_ | refine Ops.asg rfl rfl rfl rfl ?_ | refine Cd.block ?_)
  refine Cd.range (X := Int) (C0 := [(b2, cl [.slice none 0 0] 38)]) hit rfl rfl (ps := [7]) rfl (fun _ => rfl)
    (fun pre C => ∃ sv G, OwnI sv pre G ∧ C = (b2, cl [sv] 38) :: G)
    (fun _ _ _ => False)
    (fun pre x T C => Ok (pre ++ [x]) ∧ ∃ sv G, OwnI sv pre G ∧ T = [(2, .pointer (some ⟨b2, 0, none⟩)), (5, .int .i64 x)] ∧ C = (b2, cl [sv] 38) :: G)
    (fun w hw => (hw.split : Sat _ (AI ++ [(b2, cl [.slice none 0 0] 38)]) w)) ⟨_, [], Own.none, rfl⟩ (fun C _ => ⟨C, .refl _⟩) ?_ ?_ ?_ ?_
  · rintro B2 pre x C hx hok ⟨sv, G, hO, rfl⟩
    repeat' (first | refine Cd.reg ?_ | refine Ops.asg rfl rfl rfl rfl ?_)
    exact Ops.nilN (asg_end ⟨hok, sv, G, hO, rfl, rfl⟩ (fun a hF => hF.keeps ⟨rfl, rfl, trivial⟩) (fun w h => h))
  · rintro lp r B2 pre x T C hro hlp hx hok ⟨hok', sv, G, hO, rfl, rfl⟩
    have hl := hlen _ hok'
    rw [List.length_append, List.length_singleton] at hl
    obtain ⟨sa, sc, rfl⟩ := hO.form
    repeat' (first | refine Cd.reg ?_ | refine Ops.mv rfl rfl rfl rfl ?_ | refine Ops.ld1 rfl rfl rfl rfl rfl ?_ | refine Ops.bs1 rfl rfl rfl rfl rfl rfl rfl (noPd rfl) (fun b => ?_) | refine Cd.block ?_)
    refine Ops.app1 (rows := pre.map irow) hO (by rw [List.length_map]; omega) (by rw [List.length_map]; omega) rfl rfl rfl rfl (by rfl) (by rfl) rfl (noPd rfl) rfl (fun v G' hG' => ?_)
    obtain ⟨a', c', rfl⟩ := hG'.form
    repeat' (first | refine Ops.st1 rfl rfl rfl rfl rfl (noPd rfl) ?_)
    exact Ops.nilN (inB (rnd_next ⟨_, G', by unfold OwnI; rw [List.map_append]; exact hG', rfl⟩ (fun w h => h.split)))
  · rintro D xs C hD hdn ⟨sv, G, hO, rfl⟩
    obtain ⟨sa, sc, rfl⟩ := hO.form
    refine Cd.next (Q' := fun _ _ _ => True) ?_
    repeat' (first | refine Cd.seq ?_ | refine Cd.reg ?_ | refine Ops.nil ?_ | refine Ops.asg rfl rfl rfl rfl ?_ | refine Ops.ld1 rfl rfl rfl rfl rfl ?_)
    exact Cd.ret (unmark (mark1 hD) (ret1 (A' := AI ++ G) rfl (Res.tmp rfl) (fun w h => h.split) ⟨xs, G, hdn, hO, rfl⟩))
  · rintro D c pre C hD hZ
    exact hZ.elim
theorem collect_spec (gf : FuncId) (lb : List Value) (Ok Done : List Int → Prop) (AI : List Blk) [hfn : FnOk Tryz.prog gf] (hit : IterC Tryz.prog gf lb encI Ok Done AI []) (hlen : ∀ pre, Ok pre → pre.length ≤ 1000000) :
    Con Tryz.prog 270 #[.func (.func gf) #[] lb.toArray] AI fun v A => ∃ xs G, Done xs ∧ OwnI v xs G ∧ A = AI ++ G := by
  refine Con.intro (vs := [_]) Tryz.func270 rfl Tryz.ntmps270 rfl (fun B => ?_)
  repeat' (first | refine Cd.seq ?_ | refine Cd.reg ?_ | refine Ops.mv rfl rfl rfl rfl ?_ | refine Ops.asg rfl rfl rfl rfl ?_)
  refine Ops.call (appseq_spec gf lb Ok Done AI hit hlen) rfl (noPd rfl) rfl rfl rfl (fun v A' hR => ?_)
  obtain ⟨xs, G, hdn, hO, rfl⟩ := hR
  obtain ⟨sa, sc, rfl⟩ := hO.form
  repeat' (first | refine Ops.nil ?_ | refine Ops.asg rfl rfl rfl rfl ?_)
  exact Cd.ret (ret1 (A' := AI ++ G) rfl (Res.tmp rfl) (fun w h => h.split) ⟨xs, G, hdn, hO, rfl⟩)
theorem sorted_spec (gf : FuncId) (lb : List Value) (Ok Done : List Int → Prop) (AI : List Blk) [hfn : FnOk Tryz.prog gf] (hit : IterC Tryz.prog gf lb encI Ok Done AI []) (hlen : ∀ pre, Ok pre → pre.length ≤ 1000000) (hdl : ∀ xs, Done xs → xs.length ≤ 12) :
    Con Tryz.prog 212 #[.func (.func gf) #[] lb.toArray] AI fun v A => ∃ xs ys G, Done xs ∧ ys.Perm xs ∧ ys.Pairwise (· ≤ ·) ∧ OwnI v ys G ∧ A = AI ++ G := by
  refine Con.intro (vs := [_]) Tryz.func212 rfl Tryz.ntmps212 rfl (fun B => ?_)
  repeat' (first | refine Cd.seq ?_ | refine Cd.reg ?_ | refine Ops.mv rfl rfl rfl rfl ?_ | refine Ops.asg rfl rfl rfl rfl ?_)
  refine Ops.call (collect_spec gf lb Ok Done AI hit hlen) rfl (noPd rfl) rfl rfl rfl (fun v A' hR => ?_)
  obtain ⟨xs, G, hdn, hO, rfl⟩ := hR
  obtain ⟨sa, sc, rfl⟩ := hO.form
  repeat' (first | refine Cd.seq ?_ | refine Cd.reg ?_ | refine Ops.mv rfl rfl rfl rfl ?_ | refine Ops.asg rfl rfl rfl rfl ?_)
  refine Ops.call (sort_spec _ xs G hO (hdl xs hdn)) rfl (noPd rfl) rfl rfl rfl (fun v A' hR => ?_)
  obtain ⟨ys, hO', hp, hs⟩ := hR
  repeat' (first | refine Cd.seq ?_ | refine Cd.reg ?_ | refine Ops.nil ?_ | refine Ops.mv rfl rfl rfl rfl ?_ | refine Ops.asg rfl rfl rfl rfl ?_)
  exact Cd.ret (ret1 (A' := AI ++ A') rfl (Res.tmp rfl) (fun w h => h.split) ⟨xs, ys, A', hdn, hp, hs, hO', rfl⟩)
theorem mclone_spec (b : Nat) (es : List ME) (ck : Nat) : Con Tryz.prog 172 #[.map (some b)] [(b, mpo es ck)] fun v A => ∃ b', v = .map (some b') ∧ A = [(b, mpo es ck), (b', mpo es ck)] := by
  refine Con.intro (vs := [_]) Tryz.func172 rfl Tryz.ntmps172 rfl (fun B => ?_)
  repeat' (first | refine Ops.mkI rfl rfl (fun _ h => by cases h) rfl rfl ?_ | refine Cd.seq ?_ | refine Cd.reg ?_ | refine Ops.nil ?_ | refine Ops.mv rfl rfl rfl rfl ?_ | refine Ops.asg rfl rfl rfl rfl ?_ | refine Ops.bin rfl rfl rfl rfl rfl ?_ | refine Cd.condF rfl rfl ?_ | refine Cd.skip (Cd.next ?_))
  refine Ops.cloneM rfl rfl rfl rfl (noPd rfl) (fun b' => ?_)
  repeat' (first | refine Ops.asM rfl rfl rfl rfl ?_ | refine Ops.nil ?_ | refine Ops.asg rfl rfl rfl rfl ?_)
  exact Cd.ret (ret1 rfl (Res.tmp rfl) (fun w h => h.split) ⟨b', rfl, rfl⟩)
end Go.Proofs.YtkcmjgjfodipfaaGreat.Ls
namespace Go.Proofs.YtkcmjgjfodipfaaGreat.Ls
open Go Go.Sep Go.Proofs
set_option linter.unusedSimpArgs false
set_option linter.unusedVariables false
/-- A lease. -/
structure LE where
  job : Int
  badge : Int
  node : Int
  life : Int
  left : Int
@[reducible] def LE.row (x : LE) : List Value := [.int .i64 x.job, .int .i64 x.badge, .int .i64 x.node, .int .i64 x.life, .int .i64 x.left]
@[reducible] def LE.val (x : LE) : Value := .agg x.row.toArray
def Asc (l : List LE) : Prop := l.Pairwise fun a b => a.badge < b.badge
def lfind (l : List LE) (i : Int) : Option LE := l.find? fun x => decide (x.badge = i)
theorem lfind_mem {l : List LE} {i : Int} {x : LE} (h : lfind l i = some x) : x ∈ l ∧ x.badge = i := ⟨List.mem_of_find?_eq_some h, by have := List.find?_some h; simpa using this⟩
theorem lfind_none {l : List LE} {i : Int} : lfind l i = none ↔ ∀ x ∈ l, x.badge ≠ i := by
  unfold lfind
  rw [List.find?_eq_none]
  simp
theorem Asc.eq {l : List LE} (h : Asc l) {x y : LE} (hx : x ∈ l) (hy : y ∈ l) (e : x.badge = y.badge) : x = y := by
  induction l with
  | nil => cases hx
  | cons z l ih =>
    obtain ⟨h1, h2⟩ := List.pairwise_cons.1 h
    rcases List.mem_cons.1 hx with e1 | hx'
    · rcases List.mem_cons.1 hy with e2 | hy'
      · rw [e1, e2]
      · have := h1 _ hy'; rw [← e1] at this; omega
    · rcases List.mem_cons.1 hy with e2 | hy'
      · have := h1 _ hx'; rw [← e2] at this; omega
      · exact ih h2 hx' hy'
theorem lfind_of {l : List LE} (h : Asc l) {x : LE} (hx : x ∈ l) : lfind l x.badge = some x := by
  cases hf : lfind l x.badge with
  | none => exact absurd rfl (lfind_none.1 hf x hx)
  | some y =>
    obtain ⟨hy, e⟩ := lfind_mem hf
    rw [h.eq hy hx e]
/-! one more -/
/-! what a table holds -/
structure LOk (ticks : Int) (l : List LE) : Prop where
  asc : Asc l
  jobs : (l.map LE.job).Nodup
  job0 : ∀ x ∈ l, 1 ≤ x.job ∧ x.job ≤ 8
  badge0 : ∀ x ∈ l, 1 ≤ x.badge ∧ x.badge ≤ 1099511627776
  left0 : ∀ x ∈ l, 1 ≤ x.left ∧ x.left ≤ ticks
  t0 : 1 ≤ ticks
  t1 : ticks ≤ 256
theorem nodup_len' : ∀ {a b : List Int}, a.Nodup → (∀ x ∈ a, x ∈ b) → a.length ≤ b.length
  | [], b, _, _ => Nat.zero_le _
  | x :: a, b, hn, hs => by
    have hn' := List.nodup_cons.1 hn
    have hx := hs x (List.mem_cons_self ..)
    have := nodup_len' (a := a) (b := b.erase x) hn'.2 fun y hy => (List.mem_erase_of_ne (fun e => by subst e; exact hn'.1 hy)).2 (hs y (List.mem_cons_of_mem _ hy))
    rw [List.length_erase_of_mem hx] at this
    have hp := List.length_pos_of_mem hx
    simp only [List.length_cons]
    omega
theorem LOk.few {ticks : Int} {l : List LE} (h : LOk ticks l) : l.length ≤ 8 := by
  have := nodup_len' (b := [1, 2, 3, 4, 5, 6, 7, 8]) h.jobs fun x hx => by
    obtain ⟨y, hy, rfl⟩ := List.mem_map.1 hx
    have := h.job0 y hy
    simp
    omega
  simpa using this
theorem LOk.filter {ticks : Int} {l : List LE} (h : LOk ticks l) (p : LE → Bool) : LOk ticks (l.filter p) :=
  ⟨h.asc.sublist List.filter_sublist, h.jobs.sublist (List.filter_sublist.map _), fun x hx => h.job0 x (List.mem_filter.1 hx).1, fun x hx => h.badge0 x (List.mem_filter.1 hx).1, fun x hx => h.left0 x (List.mem_filter.1 hx).1, h.t0, h.t1⟩
/-! the map -/
def LsIs (es : List ME) (l : List LE) : Prop := ∀ i, mget es i = (lfind l i).map LE.val
theorem lfind_map {l : List LE} {f : LE → LE} (hf : ∀ x, (f x).badge = x.badge) (i : Int) : lfind (l.map f) i = (lfind l i).map f := by
  unfold lfind
  rw [List.find?_map]
  congr 2
  funext x
  simp [hf]
theorem LsIs.set {es : List ME} {ck : Nat} {l : List LE} {x y : LE} (h : LsIs es l) (hok : MOk es ck) (hx : lfind l x.badge = some x) (e : y.badge = x.badge) : LsIs (mput es ck x.badge y.val) (l.map fun z => if z.badge = x.badge then y else z) := fun i => by
  have hb : ∀ z : LE, (if z.badge = x.badge then y else z).badge = z.badge := fun z => by
    split
    · rename_i h1; rw [e, h1]
    · rfl
  rw [mget_put hok, lfind_map hb, h i]
  split
  · rename_i e'
    subst e'
    rw [hx]
    simp
  · rename_i e'
    cases hf : lfind l i with
    | none => rfl
    | some z =>
      obtain ⟨_, e2⟩ := lfind_mem hf
      have : ¬ z.badge = x.badge := fun e3 => e' (e2.symm.trans e3)
      simp [this]
theorem keys_perm {es : List ME} {ck : Nat} {l : List LE} (h : LsIs es l) (hok : MOk es ck) (ha : Asc l) : (es.map ME.k).Perm (l.map LE.badge) := by
  refine (List.perm_ext_iff_of_nodup hok.keys ?_).2 fun i => ?_
  · rw [List.Nodup, List.pairwise_map]
    exact ha.imp fun {a b} hab => Int.ne_of_lt hab
  · rw [← mget_isSome, h i]
    constructor
    · intro hs
      cases hf : lfind l i with
      | none => rw [hf] at hs; cases hs
      | some x =>
        obtain ⟨hx, e⟩ := lfind_mem hf
        exact List.mem_map.2 ⟨x, hx, e⟩
    · intro hm
      obtain ⟨x, hx, e⟩ := List.mem_map.1 hm
      subst e
      rw [lfind_of ha hx]
      rfl
theorem badges_le {l : List LE} (ha : Asc l) : (l.map LE.badge).Pairwise (· ≤ ·) := by
  rw [List.pairwise_map]
  exact ha.imp fun {a b} hab => Int.le_of_lt hab
/-- The sorted keys are the badges. -/
theorem keys_sorted {es : List ME} {ck : Nat} {l : List LE} {xs ys : List Int} (h : LsIs es l) (hok : MOk es ck) (ha : Asc l) (h1 : xs.Perm (es.map ME.k)) (h2 : ys.Perm xs) (h3 : ys.Pairwise (· ≤ ·)) : ys = l.map LE.badge :=
  List.Perm.eq_of_pairwise (le := (· ≤ ·)) (fun a b _ _ h1 h2 => Int.le_antisymm h1 h2) h3 (badges_le ha) (h2.trans (h1.trans (keys_perm h hok ha)))
theorem LsIs.len {es : List ME} {ck : Nat} {l : List LE} (h : LsIs es l) (hok : MOk es ck) (ha : Asc l) : es.length = l.length := by
  have := (keys_perm h hok ha).length_eq
  simpa using this
/-! a tick, lease by lease -/
theorem LsIs.nil : LsIs [] [] := fun i => rfl
end Go.Proofs.YtkcmjgjfodipfaaGreat.Ls
namespace Go.Proofs.YtkcmjgjfodipfaaGreat.Ls
open Go Go.Sep Go.Proofs
set_option maxRecDepth 10000
set_option maxHeartbeats 2000000
set_option synthInstance.maxSize 2000
set_option linter.unusedSimpArgs false
set_option linter.unusedVariables false
@[reducible] def ptr (n : Nat) : Value := .pointer (some ⟨n, 0, none⟩)
/-- A table: its ticks, the map. -/
@[reducible] def TB (n m : Nat) (ticks : Int) (es : List ME) (ck : Nat) : List Blk := [(n, cl [.int .i64 ticks, .map (some m)] 304), (m, mpo es ck)]
@[reducible] def LE.zero : LE := ⟨0, 0, 0, 0, 0⟩
structure TOk (ticks : Int) (l : List LE) (es : List ME) (ck : Nat) : Prop where
  lok : LOk ticks l
  m : MOk es ck
  is_ : LsIs es l
theorem TOk.new {ticks : Int} (h1 : 1 ≤ ticks) (h2 : ticks ≤ 256) : TOk ticks [] [] 0 :=
  ⟨⟨List.Pairwise.nil, List.nodup_nil, (fun x h => by cases h), (fun x h => by cases h), (fun x h => by cases h), h1, h2⟩, ⟨List.nodup_nil, List.nodup_nil, (fun x h => by cases h)⟩, LsIs.nil⟩
theorem new_yes (a : Int) (h1 : 1 ≤ a) (h2 : a ≤ 256) : Con Tryz.prog 127 #[.int .i64 a] [] fun v A => ∃ n m, v = .tuple #[ptr n, .int .i64 0] ∧ A = TB n m a [] 0 := by
  refine Con.intro (vs := [_]) Tryz.func127 rfl Tryz.ntmps127 rfl (fun B => ?_)
  repeat' (first | refine Ops.mkM rfl rfl rfl (noPd rfl) (fun b => ?_) | refine Cd.seq ?_ | refine Cd.reg ?_ | refine Ops.nil ?_ | refine Ops.mv rfl rfl rfl rfl ?_ | refine Ops.asg rfl rfl rfl rfl ?_ | refine Ops.bin rfl rfl rfl rfl rfl ?_ | refine Ops.pickF rfl rfl rfl rfl rfl ?_ | refine Ops.bld rfl rfl rfl rfl ?_ | refine Ops.box rfl rfl rfl rfl (noPd rfl) (fun b => ?_) | refine Cd.skip (Cd.next ?_) | refine Cd.condF rfl (by first | rfl | assumption | (simp only [decide_eq_true_eq, decide_eq_false_iff_not, Bool.not_eq_true', Bool.not_eq_false', Bool.not_eq_eq_eq_not, Bool.not_true, Bool.not_false, beq_iff_eq, beq_eq_false_iff_ne, ne_eq, decide_eq_decide, eq_self, true_iff, iff_true, not_true_eq_false, not_false_eq_true]; first | done | omega)) ?_ | ((fail_if_success refine Ops.probe rfl ?_); refine Ops.gF rfl rfl (by first | rfl | assumption | (simp only [decide_eq_true_eq, decide_eq_false_iff_not, Bool.not_eq_true', Bool.not_eq_false', Bool.not_eq_eq_eq_not, Bool.not_true, Bool.not_false, beq_iff_eq, beq_eq_false_iff_ne, ne_eq, decide_eq_decide, eq_self, true_iff, iff_true, not_true_eq_false, not_false_eq_true]; first | done | omega)) ?_))
  exact Cd.ret (ret2 rfl (Res.tmp rfl) (Res.tmp rfl) (fun _ h => h) ⟨_, _, rfl, rfl⟩)
theorem all_spec (n : Nat) : Con Tryz.prog 136 #[ptr n] [] fun v A => ∃ b, v = .func (.func 211) #[] #[ptr b] ∧ A = [(b, cl [ptr n] 153)] := by
  refine Con.intro (vs := [_]) Tryz.func136 rfl Tryz.ntmps136 rfl (fun B => ?_)
  repeat' (first | refine Ops.mkF rfl rfl rfl rfl rfl ?_ | refine Cd.seq ?_ | refine Cd.reg ?_ | refine Ops.nil ?_ | refine Ops.asg rfl rfl rfl rfl ?_ | refine Ops.box rfl rfl rfl rfl (noPd rfl) (fun b => ?_))
  exact Cd.ret (ret1 rfl (Res.tmp rfl) (fun _ h => h) ⟨_, rfl, rfl⟩)
/-- What All tells. -/
@[reducible] def encL (x : LE) : List Value := [x.val]
theorem take_next {α : Type} {l : List α} {i : Nat} {x : α} (h : l[i]? = some x) : l.take i ++ [x] = l.take (i + 1) := by
  rw [List.take_add_one, h]; rfl
def Told (l pre : List LE) : Prop := ∃ i, i < l.length ∧ pre = l.take (i + 1)
theorem all_iter (n bx m : Nat) (ticks : Int) (l : List LE) (es : List ME) (ck : Nat) (h : TOk ticks l es ck) :
    IterC Tryz.prog 211 [ptr bx] encL (Told l) (fun xs => xs = l) [(bx, cl [ptr n] 153)] (TB n m ticks es ck) := by
  intro B0 lp Y Z hG hY C hC
  obtain ⟨F, hp⟩ := hG C hC
  have hfew := h.lok.few
  have hel := h.is_.len h.m h.lok.asc
  refine ConB.intro (vs := [.func (.yield lp) #[] #[], ptr bx]) Tryz.func211 rfl Tryz.ntmps211 rfl (fun B hx => ?_)
  refine Cd.blk (A' := (bx, cl [ptr n] 153) :: (TB n m ticks es ck ++ F)) ?_ (fun w hw => hw.perm (hp.cons _))
  repeat' (first | refine Cd.seq ?_ | refine Cd.reg ?_ | refine Ops.nilP rfl rfl rfl rfl ?_ | refine Ops.fa0 rfl rfl rfl rfl ?_ | refine Ops.ld1 rfl rfl rfl rfl rfl ?_)
  refine Ops.call (mclone_spec m es ck) rfl (noPd rfl) rfl rfl rfl (fun v A' hR => ?_)
  obtain ⟨b', rfl, rfl⟩ := hR
  repeat' (first | refine Cd.seq ?_ | refine Cd.reg ?_ | refine Ops.mv rfl rfl rfl rfl ?_ | refine Ops.asg rfl rfl rfl rfl ?_)
  refine Ops.call (keys_spec b') rfl (noPd rfl) rfl rfl rfl (fun v A' hR => ?_)
  obtain ⟨kx, rfl, rfl⟩ := hR
  skip
  refine Ops.call (sorted_spec _ _ (KeyRow es) (KeyAll es) _ (keys_iter kx b' es ck h.m) (fun pre hpre => by have := hpre.len; omega) (fun xs hxs => by have := hxs.length_eq; simp at this; omega)) rfl (noPd rfl) rfl rfl rfl (fun v A' hR => ?_)
  obtain ⟨xs, ys, G, hxs, hp2, hs2, hO, rfl⟩ := hR
  obtain rfl := keys_sorted h.is_ h.m h.lok.asc hxs hp2 hs2
  obtain ⟨a', c', rfl⟩ := hO.form
  have hyl : ((l.map LE.badge).map irow).length = l.length := by simp
  rw [hyl] at hO ⊢
  repeat' (first | refine Ops.nil ?_ | refine Ops.mv rfl rfl rfl rfl ?_ | refine Ops.lenS rfl rfl rfl rfl ?_ | refine Cd.block ?_)
  refine Cd.loopK (fun s : Nat × List Blk => s.1 ≤ l.length ∧ Y (l.take s.1) s.2) (fun s => [(0, .func (.yield lp) #[] #[]), (3, .map (some b')), (13, .slice a' l.length c'), (14, .int .i64 l.length), (15, .int .i64 s.1)])
    (fun s => (bx, cl [ptr n] 153) :: (b', mpo es ck) :: (G ++ s.2)) (fun s => l.length - s.1) (0, C) ⟨Nat.zero_le _, hC⟩ ⟨rfl, rfl, rfl, rfl, rfl, trivial⟩
    (fun w hw => ((hw.split : Sat _ ((bx, cl [ptr n] 153) :: (b', mpo es ck) :: (G ++ ((n, cl [.int .i64 ticks, .map (some m)] 304) :: (m, mpo es ck) :: F))) w).perm ((((hp.symm).append_left G).cons _).cons _))) (fun s hI => ?_)
  obtain ⟨i, C1⟩ := s
  obtain ⟨hi, hYC⟩ := hI
  dsimp only at hi hYC ⊢
  clear hp hC hG
  by_cases hil : i < l.length
  · obtain ⟨g, c2, spare, he, rfl, hsp, hle⟩ := hO.some_ (by rw [hyl]; omega)
    rw [hyl] at he
    injection he with he1 he2 he3
    subst he1; subst he3
    obtain ⟨x, hxi⟩ : ∃ x, l[i]? = some x := ⟨_, List.getElem?_eq_getElem hil⟩
    have hr : ((l.map LE.badge).map irow)[(i : Int).toNat]? = some [.int .i64 x.badge] := by
      rw [Int.toNat_natCast, List.getElem?_map, List.getElem?_map, hxi]; rfl
    have hk := irows_ok (l.map LE.badge)
    have hg : mget es x.badge = some x.val := by rw [h.is_, lfind_of h.lok.asc (List.mem_of_getElem? hxi)]; rfl
    repeat' (first | refine Ops.lk1 rfl rfl rfl rfl rfl ?_ | refine Cd.seq ?_ | refine Cd.reg ?_ | refine Ops.mv rfl rfl rfl rfl ?_ | refine Ops.asg rfl rfl rfl rfl ?_ | refine Ops.bin rfl rfl rfl rfl rfl ?_ | refine Cd.block ?_ | refine Cd.skip (Cd.next ?_) | refine Ops.ixa0 rfl rfl rfl rfl (by omega) (by omega) rfl ?_ | refine Ops.ldCell rfl rfl rfl (by assumption) (by assumption) rfl ?_ | refine Cd.condT rfl (by first | rfl | assumption | (simp only [decide_eq_true_eq, decide_eq_false_iff_not, Bool.not_eq_true', Bool.not_eq_false', Bool.not_eq_eq_eq_not, Bool.not_true, Bool.not_false, beq_iff_eq, beq_eq_false_iff_ne, ne_eq, decide_eq_decide, eq_self, true_iff, iff_true, not_true_eq_false, not_false_eq_true]; first | done | omega)) ?_)
    simp only [hg, Option.getD_some]
    refine Ops.callY (hY _ x ⟨i, hil, take_next hxi⟩ C1 hYC) hx rfl (noPd rfl) rfl rfl rfl rfl (fun v A' hR => ?_)
    rcases hR with ⟨rfl, hY'⟩ | ⟨rfl, hZ⟩
    · repeat' (first | refine Cd.reg ?_ | refine Ops.nil ?_ | refine Ops.mv rfl rfl rfl rfl ?_ | refine Ops.addI rfl rfl rfl rfl (by omega) (by omega) rfl ?_ | refine Ops.un rfl rfl rfl rfl ?_ | refine Cd.condF rfl rfl ?_ | refine Cd.skip (Cd.next (Q' := fun _ _ _ => True) ?_))
      rw [take_next hxi] at hY'
      exact Ops.nilN (round_end (i + 1, A') ⟨by show i + 1 ≤ l.length; omega, hY'⟩ (by show l.length - (i + 1) < l.length - i; omega) ⟨rfl, rfl, rfl, rfl, rfl, trivial⟩
        (fun w h => (h.split : Sat _ ((bx, cl [ptr n] 153) :: (b', mpo es ck) :: ([(g, cl (((l.map LE.badge).map irow).flatten ++ spare) 3)] ++ A')) w)))
    · repeat' (first | refine Ops.nil ?_ | refine Ops.un rfl rfl rfl rfl ?_ | refine Cd.condT rfl rfl ?_)
      exact Cd.ret (ret0 (A' := [(bx, cl [ptr n] 153)] ++ A') rfl (fun w h => h.split) ⟨A', .inr ⟨_, hZ⟩, rfl⟩)
  · rw [List.take_of_length_le (by omega)] at hYC
    repeat' (first | refine Cd.seq ?_ | refine Cd.reg ?_ | refine Ops.bin rfl rfl rfl rfl rfl ?_ | refine Cd.condF rfl (by first | rfl | assumption | (simp only [decide_eq_true_eq, decide_eq_false_iff_not, Bool.not_eq_true', Bool.not_eq_false', Bool.not_eq_eq_eq_not, Bool.not_true, Bool.not_false, beq_iff_eq, beq_eq_false_iff_ne, ne_eq, decide_eq_decide, eq_self, true_iff, iff_true, not_true_eq_false, not_false_eq_true]; first | done | omega)) ?_)
    exact Cd.exit (end0 (A' := [(bx, cl [ptr n] 153)] ++ C1) rfl (fun w h => h.split) ⟨C1, .inl ⟨_, rfl, hYC⟩, rfl⟩)
end Go.Proofs.YtkcmjgjfodipfaaGreat.Ls
namespace Go.Proofs.YtkcmjgjfodipfaaGreat.Ls
open Go Go.Sep Go.Proofs
set_option maxRecDepth 10000
set_option maxHeartbeats 2000000
set_option synthInstance.maxSize 2000
set_option linter.unusedSimpArgs false
set_option linter.unusedVariables false
/-! one more -/
/-! a tick -/
theorem clip_spec (sv : Value) (rows : List (List Value)) (G : List Blk) (h : Own 199 5 sv rows G) : Con Tryz.prog 134 #[sv] [] fun v A => Rs 199 5 v rows G ∧ A = [] := by
  refine Con.intro (vs := [_]) Tryz.func134 rfl Tryz.ntmps134 rfl (fun B => ?_)
  rcases h.2 with ⟨rfl, rfl, rfl⟩ | ⟨g, c, sp, rfl, rfl, hsp, hle⟩
  · repeat' (first | refine Cd.seq ?_ | refine Cd.reg ?_ | refine Ops.mv rfl rfl rfl rfl ?_ | refine Ops.asg rfl rfl rfl rfl ?_ | refine Ops.lenS rfl rfl rfl rfl ?_)
    refine Ops.slHM rfl rfl rfl rfl rfl (by omega) (by omega) (by omega) rfl ?_
    repeat' (first | refine Ops.nil ?_ | refine Ops.asg rfl rfl rfl rfl ?_)
    exact Cd.ret (ret1 rfl (Res.tmp rfl) (fun w h => h) ⟨⟨h.1, .inl ⟨rfl, rfl, rfl⟩⟩, rfl⟩)
  · repeat' (first | refine Cd.seq ?_ | refine Cd.reg ?_ | refine Ops.mv rfl rfl rfl rfl ?_ | refine Ops.asg rfl rfl rfl rfl ?_ | refine Ops.lenS rfl rfl rfl rfl ?_)
    refine Ops.slHM rfl rfl rfl rfl rfl (by omega) (by omega) (by omega) rfl ?_
    repeat' (first | refine Ops.nil ?_ | refine Ops.asg rfl rfl rfl rfl ?_)
    exact Cd.ret (ret1 rfl (Res.tmp rfl) (fun w h => h) ⟨⟨h.1, .inr ⟨g, rows.length, sp, by simp, rfl⟩⟩, rfl⟩)
end Go.Proofs.YtkcmjgjfodipfaaGreat.Ls
/- Ranges over texts. -/
namespace Go.Sep
open Go
section
variable {P : Program} {N : Fi} {B : Base} {Q : Exit → Act → World → Prop} {T : Tm} {A : List Blk} {ops : Array Oper} {l : List Oper}
variable {d : Nat} {ty : TypeId} {pos : String} {af : Array Edge} {m : Md} {gd : Option (Nat × Bool)}
end
end Go.Sep
/- A field of a struct that lies in a slot. -/
namespace Go.Sep
open Go
section
variable {P : Program} {N : Fi} {B : Base} {Q : Exit → Act → World → Prop} {T : Tm} {A : List Blk} {ops : Array Oper} {l : List Oper}
variable {d : Nat} {ty : TypeId} {pos : String} {af : Array Edge} {m : Md} {gd : Option (Nat × Bool)}
theorem Ops.fld {s f off : Nat} {x : Operand} {vs : List Value} {v : Value} (hf : ∃ (fields : Array Field) (fd : Field) (dd : TypeDesc), P.underlying s = some (.struct fields) ∧ fields[f]? = some fd ∧ P.underlying fd.type = some dd ∧ aggD dd = false ∧ fd.offset = off)
    (hm : m.rd true = true) (hg : gst ops T gd = some true) (hx : ev T x = some (.agg vs.toArray)) (hv : vs[off]? = some v) (hd : Nat.blt d N.n = true)
    (k : Ops P N B Q ops m.tl l ((d, v) :: T) A) : Ops P N B Q ops m (⟨some d, .field s x f, ty, pos, af, gd⟩ :: l) T A :=
  Ops.pureV hm hg hd (fun a w hF => by
    obtain ⟨fields, fd, dd, h1, h2, h3, h4, h5⟩ := hf
    have h6 : (isAgg fd.type).run P w = .ok false w := by
      simp only [isAgg, Sem.run_bind, run_underlying h3 w, Result.andThen_ok]
      cases dd <;> first | rfl | cases h4
    simp [execOp, hF.eval hx, Instr.field, run_underlying h1, h2, part, asAgg, h6, h5, hv]) k
end
section
variable {P : Program}
variable {N : Fi} {B : Base} {Q : Exit → Act → World → Prop} {T : Tm} {A : List Blk} {ops : Array Oper} {l : List Oper}
variable {d : Nat} {ty : TypeId} {pos : String} {af : Array Edge} {m : Md} {gd : Option (Nat × Bool)}
end
end Go.Sep
