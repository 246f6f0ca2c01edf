import Derived.WalkKit
import Derived.RangeFuncSeq
import Derived.RangeFuncLeaves
import Derived.RangeFuncRecord
import Derived.OrdersIn
import Derived.TacticsIn
/- A small separation logic over the kit's wp: what a call owns is a list of blocks; a frame is a list of slots. -/
namespace Go.Sep
open Go

abbrev Blk := Nat × Obj
abbrev Tm := List (Nat × Value)

/-- What must stay as it is: the blocks that somebody else has, and the streams. -/
structure Base where
  h : Nat → Option Obj
  os : Os
  tape : Nat → Question → Nat
  output : Array (Nat × ByteArray)
  /-- of a round's frame: its loop's record -/
  round : Option Nat

/-- Every machine is let in; of which make the frame is that is walked. -/
def fen (B : Base) : Fence := { fn := fun _ => True, depth := none, alive := false, round := B.round }
theorem fen_room (B : Base) (n : Nat) : (fen B).room n := fun _ h => by simp [fen] at h
def Base.plain (B : Base) : Base := { B with round := none }
/-- What is known of a frame: how many slots; the marks of its ranges over functions. -/
structure Fi where
  n : Nat
  ds : List Nat
def mark (D : Nat) : Deferred := { target := .collected D, args := #[] }

structure Sat (B : Base) (A : List Blk) (w : World) : Prop where
  os : w.os = B.os
  tape : w.tape = B.tape
  output : w.output = B.output
  base : ∀ n o, B.h n = some o → w.heap[n]? = some o
  here : ∀ p ∈ A, w.heap[p.1]? = some p.2
  apart : ∀ p ∈ A, B.h p.1 = none
  nodup : (A.map Prod.fst).Nodup

theorem lt_of_get {w : World} {b : Nat} {o : Obj} (h : w.heap[b]? = some o) : b < w.heap.size := by
  rcases Nat.lt_or_ge b w.heap.size with h' | h'
  · exact h'
  · rw [Array.getElem?_eq_none h'] at h; cases h

theorem Sat.drew {B : Base} {A : List Blk} {w : World} (h : Sat B A w) : Sat B A w.drew :=
  ⟨h.os, h.tape, h.output, h.base, h.here, h.apart, h.nodup⟩

theorem Sat.drewAt {B : Base} {A : List Blk} {w : World} (h : Sat B A w) (n : Nat) : Sat B A { w with drawn := n } :=
  ⟨h.os, h.tape, h.output, h.base, h.here, h.apart, h.nodup⟩

theorem heap_alloc_old {w : World} {o : Obj} {n : Nat} (h : n < w.heap.size) : (w.alloc o).heap[n]? = w.heap[n]? := by
  simp only [World.alloc, Array.getElem?_push]
  rw [if_neg (by omega)]

theorem heap_alloc_at {w : World} {o : Obj} : (w.alloc o).heap[w.heap.size]? = some o := by
  simp only [World.alloc, Array.getElem?_push, if_true]

theorem Sat.alloc {B : Base} {A : List Blk} {w : World} (h : Sat B A w) (o : Obj) : Sat B ((w.heap.size, o) :: A) (w.alloc o) := by
  refine ⟨h.os, h.tape, h.output, fun n o' hn => ?_, fun p hp => ?_, fun p hp => ?_, ?_⟩
  · have h1 := h.base n o' hn
    rw [heap_alloc_old (lt_of_get h1)]; exact h1
  · rcases List.mem_cons.1 hp with rfl | hp
    · exact heap_alloc_at
    · have h1 := h.here p hp
      rw [heap_alloc_old (lt_of_get h1)]; exact h1
  · rcases List.mem_cons.1 hp with rfl | hp
    · cases hb : B.h w.heap.size with
      | none => rfl
      | some o' => have := lt_of_get (h.base _ _ hb); omega
    · exact h.apart p hp
  · simp only [List.map_cons, List.nodup_cons]
    refine ⟨fun hm => ?_, h.nodup⟩
    obtain ⟨p, hp, he⟩ := List.mem_map.1 hm
    have := lt_of_get (h.here p hp)
    omega

/-- Fewer blocks, in whatever order. -/
theorem Sat.sub {B : Base} {A A' : List Blk} {w : World} (h : Sat B A w) (hs : ∀ p ∈ A', p ∈ A) (hn : (A'.map Prod.fst).Nodup) : Sat B A' w :=
  ⟨h.os, h.tape, h.output, h.base, fun p hp => h.here p (hs p hp), fun p hp => h.apart p (hs p hp), hn⟩

theorem Sat.perm {B : Base} {A A' : List Blk} {w : World} (h : Sat B A w) (hp : A.Perm A') : Sat B A' w :=
  h.sub (fun _ hm => hp.mem_iff.2 hm) ((hp.map Prod.fst).nodup_iff.1 h.nodup)

theorem Sat.left {B : Base} {A F : List Blk} {w : World} (h : Sat B (A ++ F) w) : Sat B A w :=
  h.sub (fun _ hm => List.mem_append_left _ hm) (by have := h.nodup; rw [List.map_append] at this; exact (List.nodup_append.1 this).1)

theorem Sat.right {B : Base} {A F : List Blk} {w : World} (h : Sat B (A ++ F) w) : Sat B F w :=
  h.sub (fun _ hm => List.mem_append_right _ hm) (by have := h.nodup; rw [List.map_append] at this; exact (List.nodup_append.1 this).2.1)

/-- One block's content has turned. -/
theorem Sat.put {B : Base} {A1 A2 : List Blk} {b : Nat} {o o' : Obj} {w w' : World} (h : Sat B (A1 ++ (b, o) :: A2) w)
    (hos : w'.os = w.os) (htp : w'.tape = w.tape) (hout : w'.output = w.output)
    (hb : w'.heap[b]? = some o') (hoth : ∀ n, n ≠ b → w'.heap[n]? = w.heap[n]?) : Sat B (A1 ++ (b, o') :: A2) w' := by
  have hnd : ((A1 ++ (b, o') :: A2).map Prod.fst).Nodup := by
    have h1 := h.nodup
    simp only [List.map_append, List.map_cons] at h1 ⊢
    exact h1
  have hkey : ∀ p ∈ A1 ++ (b, o') :: A2, p = (b, o') ∨ (p ∈ A1 ++ (b, o) :: A2 ∧ p.1 ≠ b) := by
    intro p hp
    have h1 := h.nodup
    rw [List.map_append, List.map_cons, List.nodup_append] at h1
    obtain ⟨_, h2, h3⟩ := h1
    rw [List.nodup_cons] at h2
    rcases List.mem_append.1 hp with hp | hp
    · refine .inr ⟨List.mem_append_left _ hp, fun he => ?_⟩
      exact h3 p.1 (List.mem_map_of_mem hp) b (List.mem_cons_self ..) he
    · rcases List.mem_cons.1 hp with rfl | hp
      · exact .inl rfl
      · refine .inr ⟨List.mem_append_right _ (List.mem_cons_of_mem _ hp), fun he => ?_⟩
        exact h2.1 (List.mem_map.2 ⟨p, hp, he⟩)
  have hbn : B.h b = none := h.apart (b, o) (List.mem_append_right _ (List.mem_cons_self ..))
  refine ⟨hos.trans h.os, htp.trans h.tape, hout.trans h.output, fun n on hn => ?_, fun p hp => ?_, fun p hp => ?_, hnd⟩
  · rw [hoth n (fun e => by rw [e, hbn] at hn; cases hn)]; exact h.base n on hn
  · rcases hkey p hp with rfl | ⟨hp, hne⟩
    · exact hb
    · rw [hoth _ hne]; exact h.here p hp
  · rcases hkey p hp with rfl | ⟨hp, _⟩
    · exact hbn
    · exact h.apart p hp

/-- What lies in the frame goes over to the base. -/
def Base.with (B : Base) (F : List Blk) : Base :=
  { B with h := fun n => match (F.find? fun p => p.1 == n) with | some p => some p.2 | none => B.h n }

theorem find_of_mem {F : List Blk} (hn : (F.map Prod.fst).Nodup) {p : Blk} (hp : p ∈ F) : F.find? (fun q => q.1 == p.1) = some p := by
  induction F with
  | nil => cases hp
  | cons q F ih =>
    simp only [List.map_cons, List.nodup_cons] at hn
    rcases List.mem_cons.1 hp with rfl | hp
    · simp
    · have hne : q.1 ≠ p.1 := fun e => hn.1 (e ▸ List.mem_map_of_mem hp)
      rw [List.find?_cons_of_neg (by simpa using hne)]
      exact ih hn.2 hp

theorem find_none {F : List Blk} {n : Nat} (h : ∀ p ∈ F, p.1 ≠ n) : F.find? (fun q => q.1 == n) = none := by
  rw [List.find?_eq_none]
  intro p hp
  simpa using h p hp

theorem Sat.frameIn {B : Base} {A F : List Blk} {w : World} (h : Sat B (A ++ F) w) : Sat (B.with F) A w := by
  have hF := h.right
  have hA := h.left
  refine ⟨h.os, h.tape, h.output, fun n o hn => ?_, hA.here, fun p hp => ?_, hA.nodup⟩
  · simp only [Base.with] at hn
    split at hn
    · rename_i p hp
      have hm := List.mem_of_find?_eq_some hp
      have he := List.find?_some hp
      simp only [beq_iff_eq] at he
      injection hn with hn
      subst he; subst hn
      exact hF.here p hm
    · exact h.base n o hn
  · have hd := h.nodup
    rw [List.map_append, List.nodup_append] at hd
    have : F.find? (fun q => q.1 == p.1) = none := find_none fun q hq e => hd.2.2 p.1 (List.mem_map_of_mem hp) q.1 (List.mem_map_of_mem hq) e.symm
    simp only [Base.with, this]
    exact hA.apart p hp

theorem Sat.frameOut {B : Base} {A A' F : List Blk} {w w' : World} (h0 : Sat B (A ++ F) w) (h : Sat (B.with F) A' w') : Sat B (A' ++ F) w' := by
  have hF := h0.right
  have hin : ∀ p ∈ F, (B.with F).h p.1 = some p.2 := fun p hp => by
    simp only [Base.with, find_of_mem hF.nodup hp]
  have hA' : ∀ p ∈ A', (∀ q ∈ F, q.1 ≠ p.1) ∧ B.h p.1 = none := fun p hp => by
    have h1 := h.apart p hp
    have h2 : ∀ q ∈ F, q.1 ≠ p.1 := fun q hq e => by
      have := hin q hq
      rw [e, h1] at this
      cases this
    refine ⟨h2, ?_⟩
    simp only [Base.with, find_none h2] at h1
    exact h1
  refine ⟨h.os, h.tape, h.output, fun n o hn => ?_, fun p hp => ?_, fun p hp => ?_, ?_⟩
  · refine h.base n o ?_
    have : F.find? (fun q => q.1 == n) = none := find_none fun q hq e => by
      have := hF.apart q hq
      rw [e, hn] at this
      cases this
    simp only [Base.with, this]
    exact hn
  · rcases List.mem_append.1 hp with hp | hp
    · exact h.here p hp
    · exact h.base _ _ (hin p hp)
  · rcases List.mem_append.1 hp with hp | hp
    · exact (hA' p hp).2
    · exact hF.apart p hp
  · rw [List.map_append, List.nodup_append]
    refine ⟨h.nodup, hF.nodup, fun x hx y hy e => ?_⟩
    obtain ⟨p, hp, rfl⟩ := List.mem_map.1 hx
    obtain ⟨q, hq, rfl⟩ := List.mem_map.1 hy
    exact (hA' p hp).1 q hq e.symm

/-- A contract: from just these blocks, beside whatever else there is. -/
def Con (P : Program) (f : FuncId) (args : Array Value) (A : List Blk) (R : Value → List Blk → Prop) : Prop :=
  ∀ (B : Base) (w : World), Sat B A w → Calls P f args w fun e w' => ∃ v A', e = .returned v ∧ R v A' ∧ Sat B A' w'

theorem Con.mono {P : Program} {f : FuncId} {args : Array Value} {A : List Blk} {R R' : Value → List Blk → Prop} (h : Con P f args A R)
    (hr : ∀ v A', R v A' → R' v A') : Con P f args A R' := fun B w hs =>
  (h B w hs).mono fun _ _ ⟨v, A', he, hR, hS⟩ => ⟨v, A', he, hr _ _ hR, hS⟩

theorem Con.frame {P : Program} {f : FuncId} {args : Array Value} {A F : List Blk} {R : Value → List Blk → Prop} (h : Con P f args A R)
    {B : Base} {w : World} (hs : Sat B (A ++ F) w) : Calls P f args w fun e w' => ∃ v A', e = .returned v ∧ R v A' ∧ Sat B (A' ++ F) w' :=
  (h (B.with F) w hs.frameIn).mono fun _ _ ⟨v, A', he, hR, hS⟩ => ⟨v, A', he, hR, hs.frameOut hS⟩

/-! The frame of a function. -/
def look : Tm → Nat → Option Value
  | [], _ => none
  | (j, v) :: T, i => bif Nat.beq i j then some v else look T i

structure Fr (N : Fi) (T : Tm) (a : Act) : Prop where
  size : a.tmps.size = N.n
  dfr : a.defers = N.ds.map mark
  get : ∀ i v, look T i = some v → a.tmps[i]? = some v

def ev (T : Tm) : Operand → Option Value
  | .tmp t => look T t
  | .const v => some v
  | .global g => some (.pointer (some ⟨g, 0, none⟩))
  | .func f => some (.func (.func f) #[] #[])

theorem Fr.eval {N : Fi} {T : Tm} {a : Act} (h : Fr N T a) {x : Operand} {v : Value} (hx : ev T x = some v) : a.eval x = v := by
  cases x with
  | tmp t => simp only [ev] at hx; simp [Act.eval, Array.getD_eq_getD_getElem?, h.get _ _ hx]
  | const u => simpa [ev, Act.eval] using hx
  | global g => simpa [ev, Act.eval] using hx
  | func f => simpa [ev, Act.eval] using hx

theorem Fr.put {N : Fi} {T : Tm} {a : Act} (h : Fr N T a) {d : Nat} (hd : Nat.blt d N.n = true) (v : Value) : Fr N ((d, v) :: T) (a.put (some d) v) := by
  have hd' : d < a.tmps.size := by rw [h.size]; simpa [Nat.blt_eq] using hd
  refine ⟨by simp [Act.put, h.size], h.dfr, fun i u hi => ?_⟩
  simp only [look] at hi
  simp only [Act.put]
  by_cases e : i = d
  · subst e
    simp only [Nat.beq_refl, cond_true, Option.some.injEq] at hi
    subst hi
    simp [hd']
  · have : Nat.beq i d = false := by
      cases hb : Nat.beq i d with
      | false => rfl
      | true => exact absurd (Nat.eq_of_beq_eq_true hb) e
    rw [this] at hi
    simp only [cond_false] at hi
    rw [Array.getElem?_setIfInBounds_ne (by omega)]
    exact h.get i u hi

/-- Slots that are not wanted any more. -/
theorem Fr.keep {N : Fi} {T T' : Tm} {a : Act} (h : Fr N T a) (hk : ∀ i v, look T' i = some v → look T i = some v) : Fr N T' a :=
  ⟨h.size, h.dfr, fun i v hi => h.get i v (hk i v hi)⟩

def pick (T : Tm) : List Nat → Tm
  | [] => []
  | i :: l => match look T i with
    | some v => (i, v) :: pick T l
    | none => pick T l

theorem Fr.pick {N : Fi} {T : Tm} {a : Act} (h : Fr N T a) (l : List Nat) : Fr N (pick T l) a := by
  refine h.keep fun i v hi => ?_
  induction l with
  | nil => simp [Sep.pick, look] at hi
  | cons j l ih =>
    simp only [Sep.pick] at hi
    split at hi
    · rename_i u hu
      simp only [look] at hi
      cases hb : Nat.beq i j with
      | true =>
        rw [hb] at hi
        simp only [cond_true, Option.some.injEq] at hi
        rw [Nat.eq_of_beq_eq_true hb, hu, hi]
      | false =>
        rw [hb] at hi
        exact ih hi
    · exact ih hi

/-! Triples. -/
section
variable (P : Program) (N : Fi) (B : Base) (Q : Exit → Act → World → Prop)

/-- A piece of code, from slots T and blocks A. -/
def Cd (c : Code) (T : Tm) (A : List Blk) : Prop := ∀ a w, Fr N T a → Sat B A w → c.wpIn (fen B) 0 P Q a w

end

section
variable {P : Program} {N : Fi} {B : Base} {Q : Exit → Act → World → Prop} {T : Tm} {A : List Blk}

theorem Cd.seq {x y : Code} (h : Cd P N B (Exit.then (fun a w => y.wpIn (fen B) 0 P Q a w) Q) x T A) : Cd P N B Q (.seq x y) T A :=
  fun a w hF hS => wpIn_seq (h a w hF hS)

theorem Cd.skip (h : ∀ a w, Fr N T a → Sat B A w → Q .normal a w) : Cd P N B Q .skip T A :=
  fun a w hF hS => wpIn_skip (h a w hF hS)

theorem Cd.ret (h : ∀ a w, Fr N T a → Sat B A w → Q .ret a w) : Cd P N B Q .ret T A :=
  fun a w hF hS => wpIn_ret (h a w hF hS)

theorem Cd.exit {id : Nat} (h : ∀ a w, Fr N T a → Sat B A w → Q (.exit id) a w) : Cd P N B Q (.exit id) T A :=
  fun a w hF hS => wpIn_exit (h a w hF hS)

theorem Cd.block {id : Nat} {c : Code} (h : Cd P N B (Exit.inBlock id Q) c T A) : Cd P N B Q (.block id c) T A :=
  fun a w hF hS => wpIn_block (h a w hF hS)

theorem Cd.cond {c : Operand} {x y : Code} {t : Bool} (hc : ev T c = some (.bool t)) (ht : t = true → Cd P N B Q x T A) (hf : t = false → Cd P N B Q y T A) :
    Cd P N B Q (.cond c x y) T A :=
  fun a w hF hS => wpIn_cond_split (hF.eval hc) (fun h => ht h a w hF hS) (fun h => hf h a w hF hS)

theorem Cd.condT {c : Operand} {x y : Code} {t : Bool} (hc : ev T c = some (.bool t)) (h : t = true) (hx : Cd P N B Q x T A) : Cd P N B Q (.cond c x y) T A :=
  Cd.cond hc (fun _ => hx) (fun h' => by rw [h] at h'; cases h')

theorem Cd.condF {c : Operand} {x y : Code} {t : Bool} (hc : ev T c = some (.bool t)) (h : t = false) (hx : Cd P N B Q y T A) : Cd P N B Q (.cond c x y) T A :=
  Cd.cond hc (fun h' => by rw [h] at h'; cases h') (fun _ => hx)

/-- Behind a region, a skip: on with the next. -/
theorem Cd.next {y : Code} {Q' : Exit → Act → World → Prop} (h : Cd P N B Q y T A) : ∀ a w, Fr N T a → Sat B A w → (Exit.then (fun a w => y.wpIn (fen B) 0 P Q a w) Q') .normal a w := h

theorem Cd.keep {c : Code} {T' : Tm} {A' : List Blk} (h : Cd P N B Q c T' A') (hT : ∀ a, Fr N T a → Fr N T' a) (hA : ∀ w, Sat B A w → Sat B A' w) : Cd P N B Q c T A :=
  fun a w hF hS => h a w (hT a hF) (hA w hS)

theorem Cd.mono {c : Code} {Q' : Exit → Act → World → Prop} (h : Cd P N B Q c T A) (hq : ∀ e a w, Q e a w → Q' e a w) : Cd P N B Q' c T A :=
  fun a w hF hS => wpIn_mono (h a w hF hS) hq

/-- Ways that meet again: what holds there, in one or more forms. -/
def Meets {σ : Type} (N : Fi) (B : Base) (I : σ → Prop) (Tf : σ → Tm) (Af : σ → List Blk) (Q : Exit → Act → World → Prop) : Exit → Act → World → Prop
  | .normal, a, w => ∃ s, I s ∧ Fr N (Tf s) a ∧ Sat B (Af s) w
  | e, a, w => Q e a w

theorem Cd.cut {σ : Type} {x y : Code} (I : σ → Prop) (Tf : σ → Tm) (Af : σ → List Blk) (hx : Cd P N B (Meets N B I Tf Af Q) x T A)
    (hy : ∀ s, I s → Cd P N B Q y (Tf s) (Af s)) : Cd P N B Q (.seq x y) T A :=
  Cd.seq (hx.mono fun e a w h => by
    cases e with
    | normal => obtain ⟨s, hI, hF, hS⟩ := h; exact hy s hI a w hF hS
    | _ => exact h)

/-- What a round leaves. -/
def Round {σ : Type} (N : Fi) (B : Base) (I : σ → Prop) (Tf : σ → Tm) (Af : σ → List Blk) (μ : σ → Nat) (m : Nat) (Q : Exit → Act → World → Prop) : Exit → Act → World → Prop
  | .normal, a, w => ∃ s, I s ∧ μ s < m ∧ Fr N (Tf s) a ∧ Sat B (Af s) w
  | e, a, w => Q e a w

theorem Cd.loop {σ : Type} {c : Code} (I : σ → Prop) (Tf : σ → Tm) (Af : σ → List Blk) (μ : σ → Nat) (s0 : σ) (h0 : I s0)
    (hT : ∀ a, Fr N T a → Fr N (Tf s0) a) (hA : ∀ w, Sat B A w → Sat B (Af s0) w)
    (round : ∀ s, I s → Cd P N B (Round N B I Tf Af μ (μ s) Q) c (Tf s) (Af s)) : Cd P N B Q (.loop c) T A := by
  intro a w hF hS b k cs hro hb hr
  have key : ∀ (n : Nat) (s : σ), μ s = n → I s → ∀ a w, Fr N (Tf s) a → Sat B (Af s) w →
      ∃ e a' w', Q e a' w' ∧ ArrivesIn (Machine.fenced P (fen B)) P (lone (b.atR a (.code c :: .inLoop c :: k)) cs w) b k cs e a' w' := by
    intro n
    induction n using Nat.strongRecOn with
    | _ n ih =>
      intro s hn hI a w hF hS
      obtain ⟨e, a₁, w₁, hq, harr⟩ := round s hI a w hF hS b (.inLoop c :: k) cs hro hb hr
      cases e with
      | normal =>
        obtain ⟨s', hI', hlt, hF', hS'⟩ := hq
        obtain ⟨e₂, a₂, w₂, hq₂, harr₂⟩ := ih (μ s') (hn ▸ hlt) s' rfl hI' a₁ w₁ hF' hS'
        exact ⟨e₂, a₂, w₂, hq₂, .of_steps (StepsIn.trans harr (.one (fenced_calm hb hr rfl) stepR_inLoop)) harr₂⟩
      | exit id => exact ⟨_, a₁, w₁, hq, .pass (x := .inLoop c) rfl (fun _ _ => .inl (by simp)) harr⟩
      | goto l => exact ⟨_, a₁, w₁, hq, .pass (x := .inLoop c) rfl (fun _ _ => .inl (by simp)) harr⟩
      | ret => exact ⟨_, a₁, w₁, hq, .pass (x := .inLoop c) rfl (fun _ _ => .inl (by simp)) harr⟩
      | panic ch => exact ⟨_, a₁, w₁, hq, .pass (x := .inLoop c) rfl (fun _ _ => .inl (by simp)) harr⟩
      | outgrown => exact ⟨_, a₁, w₁, hq, .pass (x := .inLoop c) rfl (fun _ _ => .inl (by simp)) harr⟩
  obtain ⟨e, a', w', hq, harr⟩ := key _ s0 rfl h0 a w (hT a hF) (hA w hS)
  exact ⟨e, a', w', hq, .of_steps (.one (fenced_calm hb hr rfl) stepR_loop) harr⟩
end
end Go.Sep
