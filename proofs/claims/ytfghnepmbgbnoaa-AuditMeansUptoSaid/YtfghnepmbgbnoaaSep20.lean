import Derived.Test.YtfghnepmbgbnoaaSep19
/- A range over a function, in the round of another. -/
namespace Go.Sep
open Go
set_option linter.unusedVariables false
set_option linter.unusedSimpArgs false
section
variable {P : Program} {N : Fi} {B : Base} {Q : Exit → Act → World → Prop} {T : Tm} {A : List Blk} {ops : Array Oper} {l : List Oper}
theorem run_enterInner {w : World} {l₀ : Nat} {r₀ : Loop} (h : w.heap[l₀]? = some (.loop r₀)) (fn : FuncId) (tmps : Array Value) (ps : Array Tmp) (assign body : Code) :
    (Instr.enterLoop fn tmps ps assign body (some l₀)).run P w =
      .ok (w.heap.size, []) (w.alloc (.loop { state := .ready, pending := none, fn, tmps, params := ps, assign, body, defers := r₀.defers })) := by
  unfold Instr.enterLoop
  simp only [Sem.run_bind, run_getLoop h, Result.andThen, Sem.run_pure, run_newObj_alloc]

/-- **A RANGE OVER A FUNCTION, in the round of another.** -/
theorem Cd.rangeIn {X : Type} {g : Operand} {ps : List Nat} {assign body : Code} {gf : FuncId} {lb : List Value} {enc : X → List Value} {Ok Done : List X → Prop} {AI C0 G : List Blk}
    (hit : IterC P gf lb enc Ok Done AI G) {l0 : Nat} {r0 : Loop} (hro : B.round = some l0) (hl00 : B.h l0 = some (.loop r0)) (hg : ev T g = some (.func (.func gf) #[] lb.toArray)) [hfn : FnOk P gf] (hpsn : (ps.all fun p => Nat.blt p N.n) = true) (hps : ∀ x, (enc x).length = ps.length)
    (Y : List X → List Blk → Prop) (Z : Code → List X → List Blk → Prop) (S : List X → X → Tm → List Blk → Prop) (hA : ∀ w, Sat B A w → Sat B (AI ++ C0) w) (h0 : Y [] C0) (hG : ∀ C, Y [] C → ∃ F, C.Perm (G ++ F))
    (hassign : ∀ (B2 : Base) pre x C, Ext B B2 → Ok (pre ++ [x]) → Y pre C → Cd P ⟨N.n, []⟩ B2 (AsgQ ⟨N.n, []⟩ B2 (S pre x)) assign (parS ps (enc x) T) C)
    (hbody : ∀ (lp : Nat) (r : Loop) (B2 : Base) pre x T' C, B2.round = some lp → B2.h lp = some (.loop r) → Ext B B2 → Ok (pre ++ [x]) → S pre x T' C → Cd P ⟨N.n, []⟩ B2 (RndQ B2 Y Z (pre ++ [x])) body T' C)
    (hdone : ∀ xs C, Done xs → Y xs C → ∀ a w, Fr N T a → Sat B (AI ++ C) w → Q .normal a w)
    (hstop : ∀ c pre C, Z c pre C → Cd P N B Q c T (AI ++ C)) :
    Cd P N B Q (.rangeFunc g ps.toArray assign body) T A := by
  intro a w hF hS
  refine wpIn_rangeFunc ?_
  intro fn hfn'
  rw [show (fen B).round = some l0 from hro]
  obtain ⟨rec, hrec⟩ : ∃ rec : LoopState → Option Code → Loop, rec = fun st pe => { state := st, pending := pe, fn, tmps := a.tmps, params := ps.toArray, assign, body, defers := r0.defers } := ⟨_, rfl⟩
  have hS1 : Sat B ((w.heap.size, .loop (rec .ready none)) :: (AI ++ C0)) (w.alloc (.loop (rec .ready none))) := (hA w hS).alloc _
  have hl0 : B.h w.heap.size = none := hS1.apart (w.heap.size, .loop (rec .ready none)) (by simp)
  have hen := run_enterInner (P := P) (hS.base l0 _ hl00) fn a.tmps ps.toArray assign body
  generalize hlp : w.heap.size = lp at *
  have hS2 : Sat B (AI ++ (lp, .loop (rec .ready none)) :: C0) (w.alloc (.loop (rec .ready none))) := hS1.perm List.perm_middle.symm
  have hen' : (Instr.enterLoop fn a.tmps ps.toArray assign body (some l0)).run P w = .ok (lp, []) (w.alloc (.loop (rec .ready none))) := by rw [hrec]; exact hen
  generalize hW1 : w.alloc (.loop (rec .ready none)) = W1 at *
  refine ⟨lp, [], W1, { target := .fn (.func gf) lb.toArray, args := #[.func (.yield lp) #[] #[]] }, W1, gf, #[.func (.yield lp) #[] #[]] ++ lb.toArray, W1, hen', ?_, fun _ _ => trivial, ?_, fun h => by simp [fen] at h, ?_⟩
  · simp only [resolve, hF.eval hg]
    simp [go_sem]
  · simp [invoke, go_sem, run_callFunc hfn]
  have hargs : (#[.func (.yield lp) #[] #[]] ++ lb.toArray : Array Value) = (.func (.yield lp) #[] #[] :: lb).toArray := by simp
  rw [hargs]
  refine (callsIn_fen B).2 ((hit B lp (fun pre C' => ∃ C, C' = (lp, .loop (rec .ready none)) :: C ∧ Y pre C) (fun pre C' => ∃ c C, C' = (lp, .loop (rec .done (some c))) :: C ∧ Z c pre C) ?_ ?_ _ ⟨C0, rfl, h0⟩ B W1 (Ext.refl _) hS2).mono ?_)
  · rintro C' ⟨C, rfl, hY⟩
    obtain ⟨F, hp⟩ := hG C hY
    exact ⟨(lp, .loop (rec .ready none)) :: F, (hp.cons _).trans List.perm_middle.symm⟩
  · -- ONE ROUND
    rintro pre x hok C' ⟨C, rfl, hY⟩ B1 W hx1 hSW
    have hl := hSW.here (lp, .loop (rec .ready none)) (List.mem_cons_self ..)
    have hlB : B1.h lp = none := hSW.apart (lp, .loop (rec .ready none)) (List.mem_cons_self ..)
    have hy := run_yield (P := P) (args := (enc x).toArray) hl (by rw [hrec]; simpa using hps x)
    rw [hrec] at hy
    refine ⟨fn, _, assign, body, hy, roundIn_of_wpIn trivial ?_⟩
    have hxB : Ext B B1 := hx1
    have hxa := hxB.trans (Ext.add (o := .loop (rec .ready none)) hlB)
    have asg := hassign { B1.add lp (.loop (rec .ready none)) with round := some lp } pre x C ⟨hxa.h, hxa.os, hxa.tape, hxa.output⟩ hok hY
      { tmps := ((ps.toArray.zip (enc x).toArray).foldl (fun t (p, v) => t.setIfInBounds p v) a.tmps), defers := [] } W (by
        have := fr_par ps (enc x) T a.tmps hpsn ⟨hF.size, rfl, hF.get⟩
        simpa using this) ⟨hSW.add.os, hSW.add.tape, hSW.add.output, hSW.add.base, hSW.add.here, hSW.add.apart, hSW.add.nodup⟩
    refine wpIn_mono asg ?_
    rintro e a1 W2 hq
    cases e with
    | normal =>
      obtain ⟨T', C2, hST, hF2, hS3⟩ := hq
      have hS3' : Sat (B1.add lp (.loop (rec .ready none))) C2 W2 := ⟨hS3.os, hS3.tape, hS3.output, hS3.base, hS3.here, hS3.apart, hS3.nodup⟩
      have hS4 := (hS3'.unadd hlB)
      have hl2 := hS4.here (lp, .loop (rec .ready none)) (List.mem_cons_self ..)
      have hS5 := hS4.putHead (o' := .loop { rec .ready none with state := .busy })
      refine ⟨_, run_beginRound hl2 (by rw [hrec]), ?_⟩
      have hxb := hxB.trans (Ext.add (o := .loop { rec .ready none with state := .busy }) hlB)
      have hb := hbody lp { rec .ready none with state := .busy } { B1.add lp (.loop { rec .ready none with state := .busy }) with round := some lp } pre x T' C2 rfl (by simp [Base.add]) ⟨hxb.h, hxb.os, hxb.tape, hxb.output⟩ hok hST a1 _ hF2
        ⟨hS5.add.os, hS5.add.tape, hS5.add.output, hS5.add.base, hS5.add.here, hS5.add.apart, hS5.add.nodup⟩
      refine wpIn_mono hb ?_
      have fin : ∀ (jump : Option Code) (C3 : List Blk) (W3 : World), Sat { B1.add lp (.loop { rec .ready none with state := .busy }) with round := some lp } C3 W3 →
          (Instr.endRound lp jump).run P W3 = .ok (.bool jump.isNone) (W3.putObj lp (.loop (rec (if jump.isNone then .ready else .done) jump))) ∧
          Sat B1 ((lp, .loop (rec (if jump.isNone then .ready else .done) jump)) :: C3) (W3.putObj lp (.loop (rec (if jump.isNone then .ready else .done) jump))) := fun jump C3 W3 h3 => by
        have h3' : Sat (B1.add lp (.loop { rec .ready none with state := .busy })) C3 W3 := ⟨h3.os, h3.tape, h3.output, h3.base, h3.here, h3.apart, h3.nodup⟩
        have h4 := h3'.unadd hlB
        have hl3 := h4.here _ (List.mem_cons_self ..)
        have := run_endRound (P := P) jump hl3
        rw [hrec] at this ⊢
        refine ⟨this, ?_⟩
        have h5 := h4.putHead (o' := .loop (rec (if jump.isNone then .ready else .done) jump))
        rw [hrec] at h5
        exact h5
      rintro e a3 W3 hp
      cases e with
      | normal =>
        obtain ⟨C3, hY3, h3⟩ := hp
        obtain ⟨hr, hS6⟩ := fin none C3 W3 h3
        exact ⟨_, _, hr, _, _, rfl, .inl ⟨rfl, C3, rfl, hY3⟩, hS6⟩
      | ret =>
        obtain ⟨C3, hY3, h3⟩ := hp
        obtain ⟨hr, hS6⟩ := fin (some .ret) C3 W3 h3
        exact ⟨_, _, hr, _, _, rfl, .inr ⟨rfl, _, C3, rfl, hY3⟩, hS6⟩
      | exit id =>
        obtain ⟨C3, hY3, h3⟩ := hp
        obtain ⟨hr, hS6⟩ := fin (some (.exit id)) C3 W3 h3
        exact ⟨_, _, hr, _, _, rfl, .inr ⟨rfl, _, C3, rfl, hY3⟩, hS6⟩
      | goto t =>
        obtain ⟨C3, hY3, h3⟩ := hp
        obtain ⟨hr, hS6⟩ := fin (some (.goto t)) C3 W3 h3
        exact ⟨_, _, hr, _, _, rfl, .inr ⟨rfl, _, C3, rfl, hY3⟩, hS6⟩
      | panic ch => exact hp.elim
      | outgrown => exact hp.elim
    | ret => exact hq.elim
    | exit id => exact hq.elim
    | goto t => exact hq.elim
    | panic ch => exact hq.elim
    | outgrown => exact hq.elim
  · -- BEHIND THE ITERATOR
    rintro e W2 ⟨v, A', rfl, ⟨C', hC', rfl⟩, hS7⟩
    have hF9 : Fr N T { a with defers := [] ++ a.defers } := ⟨hF.size, by simp [hF.dfr], hF.get⟩
    have fin2 : ∀ (st : LoopState) (pe : Option Code) (C : List Blk), st ≠ .busy → Sat B (AI ++ (lp, .loop (rec st pe)) :: C) W2 →
        (Instr.endLoop lp).run P W2 = .ok pe (W2.putObj lp (.loop { rec st pe with state := .exhausted })) ∧ Sat B (AI ++ C) (W2.putObj lp (.loop { rec st pe with state := .exhausted })) := fun st pe C hst h8 => by
      have h9 : Sat B ((lp, .loop (rec st pe)) :: (AI ++ C)) W2 := h8.perm List.perm_middle
      have hl9 := h9.here _ (List.mem_cons_self ..)
      have := run_endLoop (P := P) hl9 (by rw [hrec]; exact hst)
      refine ⟨?_, (h9.putHead (o' := .loop { rec st pe with state := .exhausted })).tail⟩
      rw [hrec] at this ⊢
      exact this
    rcases hC' with ⟨xs, hdn, C, rfl, hY⟩ | ⟨pre, c, C, rfl, hZ⟩
    · obtain ⟨hr, h9⟩ := fin2 .ready none C (by simp) hS7
      exact ⟨none, _, hr, hdone xs C hdn hY _ _ hF9 h9⟩
    · obtain ⟨hr, h9⟩ := fin2 .done (some c) C (by simp) hS7
      exact ⟨some c, _, hr, hstop c pre C hZ _ _ hF9 h9⟩
end
end Go.Sep
