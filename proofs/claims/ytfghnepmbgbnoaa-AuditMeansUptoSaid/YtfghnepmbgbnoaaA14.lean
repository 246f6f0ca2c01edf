import Derived.Test.YtfghnepmbgbnoaaA11
import Derived.Test.YtfghnepmbgbnoaaA12
import Derived.Test.YtfghnepmbgbnoaaA13
namespace Go.Proofs.Ytfghnepmbgbnoaa
open Go Go.Sep Go.Proofs
set_option maxRecDepth 10000
set_option maxHeartbeats 4000000
set_option synthInstance.maxSize 2000
set_option linter.unusedSimpArgs false
set_option linter.unusedVariables false

/-! an event -/
def ActQ (ab vb rb k tot : Nat) (s : SA) (e : Ev) : Value → List Blk → Prop := fun _ A =>
  ∃ s', A = AuB ab s' ++ RB ab vb rb s.r.cm s.r.pn ∧ s'.ok (k + 1) (tot + e.texts.length) ∧ s'.pure = (actF s.pure e).1 ∧ s'.brok = s.brok ++ (actF s.pure e).2 ∧ s.r.same s'.r
theorem act_of {B0 : Base} {ab vb rb k tot k' tot' : Nat} {s : SA} {e : Ev} {f : FuncId} {args : Array Value} {q : Au × List Int} (hq : actF s.pure e = q) (hk : k' ≤ k + 1) (ht : tot' ≤ tot + e.texts.length)
    (h : ConB Try.prog B0 f args (AuB ab s) (ActR ab s k' tot' q)) : ConB Try.prog B0 f args (AuB ab s ++ RB ab vb rb s.r.cm s.r.pn) (ActQ ab vb rb k tot s e) :=
  (h.beside (F := RB ab vb rb s.r.cm s.r.pn)).mono fun v A hR => by
    obtain ⟨_, ⟨s', rfl, h1, h2, h3, h4⟩, rfl⟩ := hR
    subst hq
    exact ⟨s', rfl, h1.mono hk ht, h2, h3, h4⟩
/-- What an event needs, that it may be done. -/
structure EvOk (B0 : Base) (tot : Nat) (e : Ev) : Prop where
  may : mayE e = true
  sin : SIn B0 e.ta e.texts
  cap : e.texts.length ≤ e.tc
  big : tot + e.texts.length ≤ 2000000
theorem EvOk.job {B0 : Base} {tot : Nat} {e : Ev} (h : EvOk B0 tot e) (hk : e.kind = 2 ∨ e.kind = 5 ∨ e.kind = 6 ∨ e.kind = 7 ∨ e.kind = 8 ∨ e.kind = 9 ∨ e.kind = 13 ∨ e.kind = 14) : 1 ≤ e.job ∧ e.job ≤ 8 := by
  have := h.may
  unfold mayE at this
  simp only [Bool.and_eq_true, Bool.or_eq_true, Bool.not_eq_true', decide_eq_true_eq, decide_eq_false_iff_not] at this
  rcases this.2 with h1 | h1
  · exact absurd hk h1
  · exact h1
theorem EvOk.idx {B0 : Base} {tot : Nat} {e : Ev} (h : EvOk B0 tot e) (hk : e.kind = 8 ∨ e.kind = 13 ∨ e.kind = 10 ∨ e.kind = 11) : 0 ≤ e.index ∧ e.index ≤ 1099511627776 := by
  have := h.may
  unfold mayE at this
  simp only [Bool.and_eq_true, Bool.or_eq_true, Bool.not_eq_true', decide_eq_true_eq, decide_eq_false_iff_not] at this
  rcases this.1.2 with h1 | h1
  · exact absurd hk h1
  · exact h1
theorem act_put {B0 : Base} {ab vb rb k tot : Nat} {s : SA} {e : Ev} (h : s.ok k tot) (he : e.kind = 10) :
    ConB Try.prog B0 31 #[.map (some s.r.cm), .agg e.row.toArray] (AuB ab s ++ RB ab vb rb s.r.cm s.r.pn) (ActQ ab vb rb k tot s e) := by
  have hq : actF s.pure e = ({ s.pure with chunks := putT s.pure.chunks e.badge e.index e.text }, []) := by
    unfold actF
    rw [if_neg (by omega), if_neg (by omega), if_neg (by omega), if_neg (by omega), if_neg (by omega), if_neg (by omega), if_neg (by omega), if_neg (by omega), if_neg (by omega), if_pos he]
  have hc := ((put_spec s.r.cm s.chunks e).toB (B0 := B0)).beside (F := (AB ab s.ja s.jobs.length s.jc s.r (.slice s.ba s.brok.length s.bc) :: (s.JG ++ (s.jobs.flatMap JR.G ++ ((s.r.pn, pm (tents s.pieces)) :: (s.r.em, pm (eents s.ends)) :: (s.ends.flatMap EN.G ++ s.BG))))) ++ RB ab vb rb s.r.cm s.r.pn)
  refine (hc.permIn ?_).permOut fun v A' hR => ?_
  · exact perm_of fun c g h1 h2 h3 h4 => by simp only [h1, h2, h4]; omega
  · obtain ⟨_, rfl, rfl⟩ := hR
    refine ⟨_, ⟨{ s with chunks := putT s.chunks e.badge e.index e.text }, rfl, SA.ok.mono (⟨h.oj, h.ojs, h.oe, h.ob, h.few, h.shn0, h.shn1⟩ : SA.ok k tot { s with chunks := putT s.chunks e.badge e.index e.text }) (Nat.le_succ _) (Nat.le_add_right _ _), by rw [hq]; rfl, by rw [hq]; simp, rfl, rfl, rfl, rfl⟩, ?_⟩
    exact perm_of fun c g h1 h2 h3 h4 => by simp only [h1, h2, h4]; omega
theorem act_wrote {B0 : Base} {ab vb rb k tot : Nat} {s : SA} {e : Ev} (h : s.ok k tot) (he : e.kind = 11) :
    ConB Try.prog B0 31 #[.map (some s.r.pn), .agg e.row.toArray] (AuB ab s ++ RB ab vb rb s.r.cm s.r.pn) (ActQ ab vb rb k tot s e) := by
  have hq : actF s.pure e = ({ s.pure with pieces := putT s.pure.pieces e.badge e.index e.text }, []) := by
    unfold actF
    rw [if_neg (by omega), if_neg (by omega), if_neg (by omega), if_neg (by omega), if_neg (by omega), if_neg (by omega), if_neg (by omega), if_neg (by omega), if_neg (by omega), if_neg (by omega), if_pos he]
  have hc := ((put_spec s.r.pn s.pieces e).toB (B0 := B0)).beside (F := (AB ab s.ja s.jobs.length s.jc s.r (.slice s.ba s.brok.length s.bc) :: (s.JG ++ (s.jobs.flatMap JR.G ++ ((s.r.cm, pm (tents s.chunks)) :: (s.r.em, pm (eents s.ends)) :: (s.ends.flatMap EN.G ++ s.BG))))) ++ RB ab vb rb s.r.cm s.r.pn)
  refine (hc.permIn ?_).permOut fun v A' hR => ?_
  · exact perm_of fun c g h1 h2 h3 h4 => by simp only [h1, h2, h4]; omega
  · obtain ⟨_, rfl, rfl⟩ := hR
    refine ⟨_, ⟨{ s with pieces := putT s.pieces e.badge e.index e.text }, rfl, SA.ok.mono (⟨h.oj, h.ojs, h.oe, h.ob, h.few, h.shn0, h.shn1⟩ : SA.ok k tot { s with pieces := putT s.pieces e.badge e.index e.text }) (Nat.le_succ _) (Nat.le_add_right _ _), by rw [hq]; rfl, by rw [hq]; simp, rfl, rfl, rfl, rfl⟩, ?_⟩
    exact perm_of fun c g h1 h2 h3 h4 => by simp only [h1, h2, h4]; omega
theorem act_end {B0 : Base} {ab vb rb k tot : Nat} {s : SA} {e : Ev} (h : s.ok k tot) (he : e.kind = 12) (hk : k ≤ 1000000) :
    ConB Try.prog B0 32 #[.agg e.row.toArray, ptr vb] (AuB ab s ++ RB ab vb rb s.r.cm s.r.pn) (ActQ ab vb rb k tot s e) := by
  have hq : actF s.pure e = ({ s.pure with ends := putE s.pure.ends e }, []) := by
    unfold actF
    rw [if_neg (by omega), if_neg (by omega), if_neg (by omega), if_neg (by omega), if_neg (by omega), if_neg (by omega), if_neg (by omega), if_neg (by omega), if_neg (by omega), if_neg (by omega), if_neg (by omega), if_pos he]
  have hc := ((end_spec ab vb s.ja s.jobs.length s.jc s.r (.slice s.ba s.brok.length s.bc) s.ends e k hk h.oe).toB (B0 := B0)).beside (F := s.JG ++ (s.jobs.flatMap JR.G ++ ((s.r.cm, pm (tents s.chunks)) :: (s.r.pn, pm (tents s.pieces)) :: (s.BG ++ [(rb, cl ((rules ab vb s.r.cm s.r.pn).flatten ++ []) 71)]))))
  refine (hc.permIn ?_).permOut fun v A' hR => ?_
  · exact perm_of fun c g h1 h2 h3 h4 => by simp only [h1, h2, h4]; omega
  · obtain ⟨_, ⟨ends', rfl, hE, hp⟩, rfl⟩ := hR
    refine ⟨_, ⟨{ s with ends := ends' }, rfl, SA.ok.mono (⟨h.oj, h.ojs, hE, h.ob, h.few, h.shn0, h.shn1⟩ : SA.ok (k + 1) tot { s with ends := ends' }) (Nat.le_refl _) (Nat.le_add_right _ _), by rw [hq]; unfold SA.pure; dsimp only; rw [hp], by rw [hq]; simp, rfl, rfl, rfl, rfl⟩, ?_⟩
    exact perm_of fun c g h1 h2 h3 h4 => by simp only [h1, h2, h4]; omega

/-- The rule at a place: its kind; what it does at an event of that kind. -/
theorem rule_at (B0 : Base) (ab vb rb k tot cm pn : Nat) (e : Ev) (hev : EvOk B0 tot e) (hk : k ≤ 100000) (i : Nat) (hi : i < 12) :
    ∃ (K : Int) (f : FuncId) (fi ca : List Value), (rules ab vb cm pn)[i]? = some [.int .i64 K, .func (.func f) fi.toArray ca.toArray] ∧ kinds[i]? = some K ∧ FnOk Try.prog f ∧
      ∀ s : SA, s.r.cm = cm → s.r.pn = pn → s.ok k tot → s.brok.length ≤ 20 → K = e.kind → ConB Try.prog B0 f (fi ++ [Value.agg e.row.toArray] ++ ca).toArray (AuB ab s ++ RB ab vb rb s.r.cm s.r.pn) (ActQ ab vb rb k tot s e) := by
  have hbig := hev.big
  have act : ∀ {s : SA} {q : Au × List Int} (K : Int), K = e.kind → (∀ e : Ev, e.kind = K → actF s.pure e = actF s.pure e) → True := fun _ _ _ => trivial
  match i, hi with
  | 0, _ => exact ⟨2, _, _, _, rfl, rfl, inferInstance, fun s _ _ h hb he => act_of (q := submittedF s.pure e) (by unfold actF; rw [if_pos he.symm]) (Nat.le_succ _) (Nat.le_add_right _ _) ((submitted_spec ab k tot s e h hb (hev.job (by omega))).toB)⟩
  | 1, _ => exact ⟨5, _, _, _, rfl, rfl, inferInstance, fun s _ _ h hb he => act_of (q := grantedF s.pure e) (by unfold actF; rw [if_neg (by omega), if_pos he.symm]) (Nat.le_succ _) (Nat.le_add_right _ _) ((granted_spec ab k tot s e h hb).toB)⟩
  | 2, _ => exact ⟨8, _, _, _, rfl, rfl, inferInstance, fun s _ _ h hb he => act_of (q := storedF s.pure e) (by unfold actF; rw [if_neg (by omega), if_neg (by omega), if_pos he.symm]) (Nat.le_succ _) (Nat.le_refl _) (stored_spec B0 ab k tot s e h hb hev.sin (hev.idx (by omega)).1 (hev.idx (by omega)).2 hbig)⟩
  | 3, _ => exact ⟨6, _, _, _, rfl, rfl, inferInstance, fun s _ _ h hb he => act_of (q := overF s.pure e) (by unfold actF; rw [if_neg (by omega), if_neg (by omega), if_neg (by omega), if_pos he.symm]) (Nat.le_succ _) (Nat.le_add_right _ _) ((over_spec ab k tot s e h hb).toB)⟩
  | 4, _ => exact ⟨7, _, _, _, rfl, rfl, inferInstance, fun s _ _ h hb he => act_of (q := overF s.pure e) (by unfold actF; rw [if_neg (by omega), if_neg (by omega), if_neg (by omega), if_neg (by omega), if_pos he.symm]) (Nat.le_succ _) (Nat.le_add_right _ _) ((over_spec ab k tot s e h hb).toB)⟩
  | 5, _ => exact ⟨9, _, _, _, rfl, rfl, inferInstance, fun s _ _ h hb he => act_of (q := recordedF s.pure e) (by unfold actF; rw [if_neg (by omega), if_neg (by omega), if_neg (by omega), if_neg (by omega), if_neg (by omega), if_pos he.symm]) (Nat.le_succ _) (Nat.le_add_right _ _) ((recorded_spec ab k tot s e h hb (by omega)).toB)⟩
  | 6, _ => exact ⟨13, _, _, _, rfl, rfl, inferInstance, fun s _ _ h hb he => act_of (q := admitsF s.pure e) (by unfold actF; rw [if_neg (by omega), if_neg (by omega), if_neg (by omega), if_neg (by omega), if_neg (by omega), if_neg (by omega), if_pos he.symm]) (Nat.le_succ _) (Nat.le_add_right _ _) ((admits_spec ab k tot s e h hb (hev.job (by omega)) (hev.idx (by omega)).1 (hev.idx (by omega)).2).toB)⟩
  | 7, _ => exact ⟨4, _, _, _, rfl, rfl, inferInstance, fun s _ _ h hb he => act_of (q := upF s.pure e) (by unfold actF; rw [if_neg (by omega), if_neg (by omega), if_neg (by omega), if_neg (by omega), if_neg (by omega), if_neg (by omega), if_neg (by omega), if_pos he.symm]) (Nat.le_succ _) (Nat.le_add_right _ _) ((up_spec ab k tot s e h).toB)⟩
  | 8, _ => exact ⟨14, _, _, _, rfl, rfl, inferInstance, fun s _ _ h hb he => act_of (q := showsF s.pure e) (by unfold actF; rw [if_neg (by omega), if_neg (by omega), if_neg (by omega), if_neg (by omega), if_neg (by omega), if_neg (by omega), if_neg (by omega), if_neg (by omega), if_pos he.symm]) (Nat.le_succ _) (Nat.le_refl _) (shows_spec B0 ab k tot s e h hb hev.sin hev.cap hbig (by omega) (hev.job (by omega)))⟩
  | 9, _ => exact ⟨10, _, _, _, rfl, rfl, inferInstance, fun s hc _ h hb he => by subst hc; exact act_put h he.symm⟩
  | 10, _ => exact ⟨11, _, _, _, rfl, rfl, inferInstance, fun s _ hp h hb he => by subst hp; exact act_wrote h he.symm⟩
  | 11, _ => exact ⟨12, _, _, _, rfl, rfl, inferInstance, fun s _ _ h hb he => act_end h he.symm (by omega)⟩
end Go.Proofs.Ytfghnepmbgbnoaa
