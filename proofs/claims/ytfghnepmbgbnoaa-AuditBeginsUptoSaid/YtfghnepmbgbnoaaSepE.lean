import Derived.Test.YtfghnepmbgbnoaaSepD
/- The check of an order, as a program; lists of operations in the text's order and in one that serves all; the ground rules. -/
namespace Go.Sep
open Go

/-- number, kind (0 reads nothing, 1 reads memory, 2 writes or makes), which earlier reads must be looked at again behind it. -/
abbrev DI := Nat × Nat × List Nat

def rdF (info : List DI) (j : Nat) : Bool := info.any fun x => x.1 == j && x.2.1 != 2
def ldF (info : List DI) (j : Nat) : Bool := info.any fun x => x.1 == j && x.2.1 == 1

def reach (ops : Array Oper) : Nat → List Nat → List Nat → List Nat
  | 0, _, vis => vis
  | _ + 1, [], vis => vis
  | f + 1, x :: fr, vis => if vis.contains x then reach ops f fr vis else match ops[x]? with
    | some o => reach ops f (bdeps o ++ fr) (x :: vis)
    | none => reach ops f fr (x :: vis)

def reachOf (ops : Array Oper) (e : Nat) : List Nat := match ops[e]? with
  | some o => reach ops (ops.size * ops.size + ops.size + 1) (bdeps o) []
  | none => []

theorem reach_anc {ops : Array Oper} {e : Nat} : ∀ (f : Nat) (fr vis : List Nat), (∀ x ∈ fr, Anc ops e x) → (∀ x ∈ vis, Anc ops e x) → ∀ x ∈ reach ops f fr vis, Anc ops e x
  | 0, _, _, _, h, x, hx => h x hx
  | _ + 1, [], _, _, h, x, hx => h x hx
  | f + 1, y :: fr, vis, h1, h2, x, hx => by
    simp only [reach] at hx
    split at hx
    · exact reach_anc f fr vis (fun z hz => h1 z (List.mem_cons_of_mem _ hz)) h2 x hx
    · have hy := h1 y (List.mem_cons_self ..)
      have h2' : ∀ z ∈ y :: vis, Anc ops e z := fun z hz => by
        rcases List.mem_cons.1 hz with rfl | hz
        · exact hy
        · exact h2 z hz
      split at hx
      · rename_i o ho
        refine reach_anc f _ _ (fun z hz => ?_) h2' x hx
        rcases List.mem_append.1 hz with hz | hz
        · exact .step hy ho hz
        · exact h1 z (List.mem_cons_of_mem _ hz)
      · exact reach_anc f fr _ (fun z hz => h1 z (List.mem_cons_of_mem _ hz)) h2' x hx

theorem reachOf_anc {ops : Array Oper} {e x : Nat} (h : x ∈ reachOf ops e) : Anc ops e x := by
  unfold reachOf at h
  split at h
  · rename_i o ho
    exact reach_anc _ _ _ (fun z hz => .one ho hz) (fun z hz => by cases hz) x h
  · cases h

def nodupB : List Nat → Bool
  | [] => true
  | x :: xs => !xs.contains x && nodupB xs

theorem nodupB_ok : ∀ {l : List Nat}, nodupB l = true → l.Nodup
  | [], _ => List.nodup_nil
  | x :: xs, h => by
    simp only [nodupB, Bool.and_eq_true, Bool.not_eq_true', List.contains_eq_mem, decide_eq_false_iff_not] at h
    exact List.nodup_cons.2 ⟨h.1, nodupB_ok h.2⟩

def opB (ops : Array Oper) (pre : List Nat) (i : Nat) (k : Nat) : Bool :=
  match ops[i]? with
  | none => false
  | some o => ((bdeps o).all fun j => pre.contains j && Nat.blt j i) &&
    (k != 2 || (List.range ops.size).all fun j => pre.contains j || j == i || (match ops[j]? with
      | some oj => (bdeps oj).any fun x => !pre.contains x
      | none => true))

def pendB (ops : Array Oper) (info : List DI) (pre : List Nat) (i k : Nat) (p : List Nat) : Bool :=
  k != 2 || pre.all fun x => !(rdF info x) || !(ldF info x) || p.contains x || ((i :: pre).any fun e => !(rdF info e) && (reachOf ops e).contains x)

def goB (ops : Array Oper) (info : List DI) : List Nat → List DI → Bool
  | _, [] => true
  | pre, (i, k, p) :: rest => opB ops pre i k && pendB ops info pre i k p && goB ops info (pre ++ [i]) rest

def pairB (ops : Array Oper) (info : List DI) (i j : Nat) : Bool :=
  match ops[i]?, ops[j]? with
  | some oi, some oj => (match oi.dst with
    | none => true
    | some d => let lk := (oj.looksAt ops).contains d
      if rdF info i then (i == j || oj.dst != some d) && (!lk || (bdeps oj).contains i) else !lk || i == j || (bdeps oj).contains i || (bdeps oi).contains j)
  | _, _ => true

def canB (ops : Array Oper) (info : List DI) : Bool :=
  nodupB (info.map (·.1)) && (info.all fun x => Nat.blt x.1 ops.size) && ((List.range ops.size).all fun j => (info.map (·.1)).contains j) && (ops.all fun o => notSel o.op) &&
  ((List.range ops.size).all fun i => (List.range ops.size).all fun j => pairB ops info i j) && goB ops info [] info

theorem goB_at {ops : Array Oper} {info : List DI} : ∀ (rest : List DI) (pre : List Nat), goB ops info pre rest = true → ∀ (p : Nat) (x : DI), rest[p]? = some x →
    opB ops (pre ++ (rest.map (·.1)).take p) x.1 x.2.1 = true ∧ pendB ops info (pre ++ (rest.map (·.1)).take p) x.1 x.2.1 x.2.2 = true
  | [], _, _, p, x, h => by simp at h
  | (i, k, q) :: rest, pre, h, p, x, hx => by
    simp only [goB, Bool.and_eq_true] at h
    rcases p with _ | p
    · simp only [List.getElem?_cons_zero, Option.some.injEq] at hx
      subst hx
      simpa using h.1
    · have := goB_at rest (pre ++ [i]) h.2 p x (by simpa using hx)
      simpa using this

section
variable {ops : Array Oper} {info : List DI}

theorem canB_parts (h : canB ops info = true) : (info.map (·.1)).Nodup ∧ (∀ x ∈ info, x.1 < ops.size) ∧ (∀ j, j < ops.size → j ∈ info.map (·.1)) ∧ (∀ (i : Nat) (o : Oper), ops[i]? = some o → notSel o.op = true) ∧
    (∀ i j, i < ops.size → j < ops.size → pairB ops info i j = true) ∧ goB ops info [] info = true := by
  simp only [canB, Bool.and_eq_true, List.all_eq_true, List.mem_range, List.contains_eq_mem, decide_eq_true_eq] at h
  obtain ⟨⟨⟨⟨⟨h1, h2⟩, h3⟩, h4⟩, h5⟩, h6⟩ := h
  refine ⟨nodupB_ok h1, fun x hx => by simpa [Nat.blt_eq] using h2 x hx, h3, fun i o ho => ?_, fun i j hi hj => h5 i hi j hj, h6⟩
  rw [Array.all_eq_true] at h4
  obtain ⟨hi, he⟩ := Array.getElem?_eq_some_iff.1 ho
  rw [← he]; exact h4 i hi

theorem rdF_at (hn : (info.map (·.1)).Nodup) {p : Nat} {x : DI} (h : info[p]? = some x) : rdF info x.1 = (x.2.1 != 2) ∧ ldF info x.1 = (x.2.1 == 1) := by
  have hx := List.mem_of_getElem? h
  have huniq : ∀ y ∈ info, y.1 = x.1 → y = x := by
    intro y hy e
    obtain ⟨q, hq⟩ := List.getElem?_of_mem hy
    obtain ⟨h1, h2⟩ := List.getElem?_eq_some_iff.1 hq
    obtain ⟨h3, h4⟩ := List.getElem?_eq_some_iff.1 h
    rcases Nat.lt_trichotomy q p with hlt | rfl | hlt
    · exact absurd (by rw [List.getElem_map, List.getElem_map, h2, h4, e]) (List.pairwise_iff_getElem.1 hn q p (by rw [List.length_map]; exact h1) (by rw [List.length_map]; exact h3) hlt)
    · exact h2.symm.trans h4
    · exact absurd (by rw [List.getElem_map, List.getElem_map, h2, h4, e]) (List.pairwise_iff_getElem.1 hn p q (by rw [List.length_map]; exact h3) (by rw [List.length_map]; exact h1) hlt)
  constructor
  · unfold rdF
    rw [Bool.eq_iff_iff]
    simp only [List.any_eq_true, Bool.and_eq_true, beq_iff_eq]
    constructor
    · rintro ⟨y, hy, e, hk⟩
      rw [← huniq y hy e]; exact hk
    · intro hk; exact ⟨x, hx, rfl, hk⟩
  · unfold ldF
    rw [Bool.eq_iff_iff]
    simp only [List.any_eq_true, Bool.and_eq_true, beq_iff_eq]
    constructor
    · rintro ⟨y, hy, e, hk⟩
      rw [← huniq y hy e]; exact hk
    · intro hk; exact ⟨x, hx, rfl, hk⟩

theorem canB_ok (h : canB ops info = true) : CanO ops (info.map (·.1)) (rdF info) := by
  obtain ⟨h1, h2, h3, h4, h5, h6⟩ := canB_parts h
  have at_ : ∀ (p i : Nat), (info.map (·.1))[p]? = some i → ∃ x : DI, info[p]? = some x ∧ x.1 = i := fun p i hp => by
    rw [List.getElem?_map] at hp
    cases hx : info[p]? with
    | none => rw [hx] at hp; cases hp
    | some x => rw [hx] at hp; exact ⟨x, rfl, Option.some.inj hp⟩
  have lt_ : ∀ (i : Nat) (o : Oper), ops[i]? = some o → i < ops.size := fun i o ho => (Array.getElem?_eq_some_iff.1 ho).1
  refine ⟨fun j => ⟨fun hj => ?_, h3 j⟩, h1, fun p i o hp ho j hj => ?_, fun p i hp hr j oj hoj hjt hji => ?_, h4, fun i j oi oj d hi hj hr hd hne => ?_, fun i j oi oj d hi hj hr hd hl => ?_, fun i j oi oj d hi hj hr hd hl => ?_⟩
  · obtain ⟨x, hx, rfl⟩ := List.mem_map.1 hj
    exact h2 x hx
  · obtain ⟨x, hx, rfl⟩ := at_ p i hp
    have h7 := (goB_at info [] h6 p x hx).1
    unfold opB at h7
    rw [ho] at h7
    simp only [List.nil_append, Bool.and_eq_true, List.all_eq_true, List.contains_eq_mem, decide_eq_true_eq, Nat.blt_eq] at h7
    exact h7.1 j hj
  · obtain ⟨x, hx, rfl⟩ := at_ p i hp
    have h7 := (goB_at info [] h6 p x hx).1
    have hk : x.2.1 = 2 := by
      rw [(rdF_at h1 hx).1] at hr
      simpa using hr
    unfold opB at h7
    split at h7
    · cases h7
    · simp only [hk, List.nil_append, Bool.and_eq_true, List.all_eq_true, Bool.or_eq_true, List.mem_range, List.contains_eq_mem, decide_eq_true_eq, beq_iff_eq] at h7
      rcases h7.2 with h8 | h8
      · simp at h8
      · rcases h8 j (lt_ j oj hoj) with (h9 | h9) | h9
        · exact absurd h9 hjt
        · exact absurd h9 hji
        · rw [hoj] at h9
          simp only [List.any_eq_true, Bool.not_eq_true', decide_eq_false_iff_not] at h9
          exact h9
  · have h7 := h5 i j (lt_ i oi hi) (lt_ j oj hj)
    simp only [pairB, hi, hj, hd, hr, if_true, Bool.and_eq_true, Bool.or_eq_true, beq_iff_eq, bne_iff_ne] at h7
    rcases h7.1 with h8 | h8
    · exact absurd h8 hne
    · exact h8
  · have h7 := h5 i j (lt_ i oi hi) (lt_ j oj hj)
    simp only [pairB, hi, hj, hd, hr, if_true, Bool.and_eq_true, Bool.or_eq_true, Bool.not_eq_true', List.contains_eq_mem, decide_eq_false_iff_not, decide_eq_true_eq] at h7
    rcases h7.2 with h8 | h8
    · exact absurd hl h8
    · exact h8
  · have h7 := h5 i j (lt_ i oi hi) (lt_ j oj hj)
    simp only [pairB, hi, hj, hd, hr, Bool.false_eq_true, if_false, Bool.or_eq_true, Bool.not_eq_true', List.contains_eq_mem, decide_eq_false_iff_not, decide_eq_true_eq, beq_iff_eq] at h7
    rcases h7 with ((h8 | h8) | h8) | h8
    · exact absurd hl h8
    · exact .inl h8
    · exact .inr (.inl h8)
    · exact .inr (.inr h8)

theorem canB_pend (h : canB ops info = true) {p : Nat} {x : DI} (hx : info[p]? = some x) (hk : x.2.1 = 2) :
    ∀ i, i ∈ (info.map (·.1)).take p → rdF info i = true → ldF info i = true → i ∈ x.2.2 ∨ ∃ e, e ∈ (info.map (·.1)).take (p + 1) ∧ rdF info e = false ∧ Anc ops e i := by
  obtain ⟨h1, h2, h3, h4, h5, h6⟩ := canB_parts h
  have h7 := (goB_at info [] h6 p x hx).2
  have hp : (info.map (·.1))[p]? = some x.1 := by rw [List.getElem?_map, hx]; rfl
  intro i hi hr hl
  simp only [pendB, hk, List.nil_append, Bool.or_eq_true, List.all_eq_true] at h7
  rcases h7 with h8 | h8
  · simp at h8
  · rcases h8 i hi with ((h9 | h9) | h9) | h9
    · rw [hr] at h9; simp at h9
    · rw [hl] at h9; simp at h9
    · exact .inl (by simpa using h9)
    · simp only [List.any_eq_true, Bool.and_eq_true, Bool.not_eq_true', List.contains_eq_mem, decide_eq_true_eq] at h9
      obtain ⟨e, he, he1, he2⟩ := h9
      refine .inr ⟨e, (take_succ_mem hp).2 ?_, he1, reachOf_anc he2⟩
      rcases List.mem_cons.1 he with rfl | he
      · exact .inr rfl
      · exact .inl he
end

/-! Lists of operations. -/
abbrev Md := Option (List DI × List DI)
def Md.tl : Md → Md
  | none => none
  | some (info, r) => some (info, r.tail)
/-- may the next be taken for a read (that reads nothing; that reads memory)? -/
def Md.rd (p : Bool) : Md → Bool
  | none => true
  | some (_, (_, k, _) :: _) => if p then k != 2 else k == 1
  | some (_, []) => false
def Md.eff : Md → Bool
  | none => true
  | some (_, (_, k, _) :: _) => k == 2
  | some (_, []) => false
def Md.pend : Md → List Nat
  | none => []
  | some (_, (_, _, p) :: _) => p
  | some (_, []) => []

section
variable (P : Program) (N : Fi) (B : Base) (Q : Exit → Act → World → Prop) (ops : Array Oper)
def Ops (m : Md) (l : List Oper) (T : Tm) (A : List Blk) : Prop :=
  match m with
  | none => ∀ a w, Fr N T a → Sat B A w → wpListIn (fen B) 0 P ops Q l a w
  | some (info, rest) => canB ops info = true → rest.length = l.length → rest = info.drop (info.length - rest.length) → rest.length ≤ info.length → DSem P N B Q ops (info.map (·.1)) (rdF info) (ldF info) l T A

/-- A read that may be owed, in a later state. -/
def Still (T : Tm) (A : List Blk) (i : Nat) : Prop :=
  ∃ oi d u, ops[i]? = some oi ∧ oi.dst = some d ∧ look T d = some u ∧ ∀ a w, Fr N T a → Sat B A w → Steps1 P ops oi a w u
end

/-- Does the guard let it run? -/
def gst (ops : Array Oper) (T : Tm) : Option (Nat × Bool) → Option Bool
  | none => some true
  | some (j, want) => match (ops[j]?).bind (·.dst) with
    | none => none
    | some dj => match look T dj with
      | some (.bool b) => some (b == want)
      | _ => none

section
variable {P : Program} {N : Fi} {B : Base} {Q : Exit → Act → World → Prop} {T : Tm} {A : List Blk} {ops : Array Oper} {l : List Oper} {m : Md} {o : Oper}

theorem gst_wanted {b : Bool} {a : Act} (hF : Fr N T a) (h : gst ops T o.guard = some b) : Region.wanted o (yielded ops a.tmps) = b := by
  unfold Region.wanted
  cases hg : o.guard with
  | none => rw [hg] at h; simpa [gst] using h
  | some p =>
    obtain ⟨j, want⟩ := p
    rw [hg] at h
    simp only [gst] at h
    split at h
    · cases h
    · rename_i dj hdj
      split at h
      · rename_i c hc
        simp only [Option.some.injEq] at h
        have : yielded ops a.tmps j = some c := by
          unfold yielded
          rw [hdj]
          simp [hF.get _ _ hc]
        simp [this, ← h]
      · cases h

theorem info_at {info rest : List DI} {x : DI} (h1 : rest.length + 1 ≤ info.length) (h : x :: rest = info.drop (info.length - (rest.length + 1))) :
    info[info.length - (rest.length + 1)]? = some x ∧ rest = info.drop (info.length - rest.length) := by
  have hlt : info.length - (rest.length + 1) < info.length := by omega
  rw [List.drop_eq_getElem_cons hlt] at h
  injection h with h2 h3
  refine ⟨by rw [List.getElem?_eq_getElem hlt, h2], ?_⟩
  rw [h3]
  congr 1
  simp
  omega

theorem Ops.rdG (p : Bool) (hm : m.rd p = true) {d : Nat} {v : Value} (hd : o.dst = some d) (hN : Nat.blt d N.n = true)
    (hst : ∀ a w, Fr N T a → (p = true ∨ Sat B A w) → Steps1 P ops o a w v) (k : Ops P N B Q ops m.tl l ((d, v) :: T) A) : Ops P N B Q ops m (o :: l) T A := by
  match m, hm, k with
  | none, _, k =>
    intro a w hF hS
    unfold wpListIn
    rcases hst a w hF (.inr hS) with ⟨hw, hr⟩ | ⟨hw, hv⟩
    · rw [if_pos hw]
      unfold Oper.wpIn
      refine ⟨fun _ _ => trivial, ?_⟩
      rw [semAt_of_value hr, hr, Oper.uponIn_value, hd]
      exact k _ _ (hF.put hN v) hS
    · rw [if_neg (by rw [hw]; simp), hd, ← hv]
      exact ⟨fun _ _ => trivial, k _ _ (hF.put hN v) hS⟩
  | some (info, x :: rest), hm, k =>
    intro hc hlen hdr hle
    simp only [List.length_cons, Nat.add_right_cancel_iff] at hlen hdr hle
    obtain ⟨hx, hdr'⟩ := info_at hle hdr
    refine DSem.read (canB_ok hc) p (fun i hi => ?_) hd hN hst (k hc hlen hdr' (by show rest.length ≤ _; omega))
    rw [List.getElem?_map, List.length_map, ← hlen, hx] at hi
    obtain rfl : x.1 = i := Option.some.inj hi
    obtain ⟨h1, h2⟩ := rdF_at (canB_parts hc).1 hx
    rw [h1, h2]
    obtain ⟨i, kd, pd⟩ := x
    simp only [Md.rd] at hm
    cases p with
    | true => exact ⟨by simpa using hm, .inl rfl⟩
    | false =>
      simp only [Bool.false_eq_true, if_false, beq_iff_eq] at hm
      subst hm
      exact ⟨rfl, .inr rfl⟩

theorem Ops.effG (hm : m.eff = true) (hN : ∀ d, o.dst = some d → Nat.blt d N.n = true) {R : Value → List Blk → Prop}
    (he : ∀ a w, Fr N T a → Sat B A w → (Region.wanted o (yielded ops a.tmps) = true ∧ effPost P B R ((execOp a.eval o).run P w)) ∨ (Region.wanted o (yielded ops a.tmps) = false ∧ ∃ A', R undef A' ∧ Sat B A' w))
    (hs : ∀ v A', R v A' → ∀ i ∈ m.pend, Still P N B ops (putT o.dst v T) A' i) (k : ∀ v A', R v A' → Ops P N B Q ops m.tl l (putT o.dst v T) A') : Ops P N B Q ops m (o :: l) T A := by
  match m, hm, hs, k with
  | none, _, _, k =>
    intro a w hF hS
    unfold wpListIn
    rcases he a w hF hS with ⟨hw, hp⟩ | ⟨hw, A', hR, hS'⟩
    · rw [if_pos hw]
      exact wp_of_effPost hp fun v A' w' hR hS' => k v A' hR _ _ (hF.putT hN v) hS'
    · rw [if_neg (by rw [hw]; simp)]
      exact ⟨fun _ _ => trivial, k _ A' hR _ _ (hF.putT hN undef) hS'⟩
  | some (info, x :: rest), hm, hs, k =>
    intro hc hlen hdr hle
    simp only [List.length_cons, Nat.add_right_cancel_iff] at hlen hdr hle
    obtain ⟨hx, hdr'⟩ := info_at hle hdr
    obtain ⟨i, kd, pd⟩ := x
    simp only [Md.eff, beq_iff_eq] at hm
    subst hm
    refine DSem.eff (canB_ok hc) (pend := pd) (fun i hi => ?_) hN ?_ he (fun v A' hR => ⟨hs v A' hR, k v A' hR hc hlen hdr' (by show rest.length ≤ _; omega)⟩)
    · rw [List.getElem?_map, List.length_map, ← hlen, hx] at hi
      obtain rfl := Option.some.inj hi
      rw [(rdF_at (canB_parts hc).1 hx).1]
      rfl
    · have := canB_pend hc hx rfl
      rw [List.length_map, ← hlen, show info.length - rest.length = info.length - (rest.length + 1) + 1 from by omega]
      exact this

theorem Ops.nilN (h : ∀ a w, Fr N T a → Sat B A w → Q .normal a w) : Ops P N B Q ops m [] T A := by
  match m with
  | none => exact fun a w hF hS => wpListIn_nil (h a w hF hS)
  | some (info, rest) => exact fun hc _ _ _ => DSem.nil (canB_ok hc) h

theorem Ops.nil {y : Code} {Q' : Exit → Act → World → Prop} (h : Cd P N B Q y T A) : Ops P N B (Exit.then (fun a w => y.wpIn (fen B) 0 P Q a w) Q') ops m [] T A := Ops.nilN h

theorem Cd.reg {id : Nat} {l : List Oper} (h : Ops P N B Q l.toArray none l T A) : Cd P N B Q (.region id l.toArray false) T A :=
  fun a w hF hS => wpIn_region_lit (h a w hF hS)

def nth : List Oper → Nat → Option Oper
  | [], _ => none
  | x :: _, 0 => some x
  | _ :: xs, n + 1 => nth xs n

theorem nth_eq : ∀ (l : List Oper) (n : Nat), nth l n = l[n]?
  | [], n => by simp [nth]
  | x :: xs, 0 => by simp [nth]
  | x :: xs, n + 1 => by simp [nth, nth_eq xs n]

def picked (l : List Oper) : List DI → List Oper
  | [] => []
  | x :: r => match nth l x.1 with
    | some o => o :: picked l r
    | none => picked l r

theorem picked_map {l : List Oper} : ∀ {r : List DI}, (∀ x ∈ r, x.1 < l.length) → (picked l r).map some = (r.map (·.1)).map (l.toArray[·]?) ∧ (picked l r).length = r.length
  | [], _ => by simp [picked]
  | x :: r, h => by
    have hx := h x (List.mem_cons_self ..)
    obtain ⟨h1, h2⟩ := picked_map (l := l) (r := r) fun y hy => h y (List.mem_cons_of_mem _ hy)
    simp only [picked, nth_eq, List.getElem?_eq_getElem hx, List.map_cons, List.length_cons, h1, h2]
    simp [hx]

theorem getD_repl (m j : Nat) : (Array.replicate m false).getD j false = false := by
  rcases Nat.lt_or_ge j m with h | h
  · simp [h]
  · simp [h]

/-- A region that draws its order. -/
theorem Cd.draw {id : Nat} {l : List Oper} (info : List DI) (hmix : P.follows .mixedOrders = true) (hc : canB l.toArray info = true) {l' : List Oper} (hl : picked l info = l')
    (h : Ops P N B Q l.toArray (some (info, info)) l' T A) : Cd P N B Q (.region id l.toArray true) T A := by
  intro a w hF hS
  refine wpIn_region_any hmix ?_
  obtain ⟨h1, h2, h3, h4, h5, h6⟩ := canB_parts hc
  obtain ⟨e1, e2⟩ := picked_map (l := l) (r := info) fun x hx => by simpa using h2 x hx
  rw [hl] at e1 e2
  have hlen : info.length = l.length := by
    have hsub : ∀ x ∈ info.map (·.1), x ∈ List.range l.length := fun x hx => by
      obtain ⟨y, hy, rfl⟩ := List.mem_map.1 hx
      simpa using h2 y hy
    have hsup : ∀ x ∈ List.range l.length, x ∈ info.map (·.1) := fun x hx => h3 x (by simpa using hx)
    have := ((List.perm_ext_iff_of_nodup h1 List.nodup_range).2 fun x => ⟨hsub x, hsup x⟩).length_eq
    simpa using this
  have key := h hc e2.symm (by simp) (Nat.le_refl _) (by simp [e2]) (by rw [List.length_map, e2]; simpa using e1) [] a { w with drawn := w.drawn + 1 } (Array.replicate l.toArray.size false) (by simp) (by simp) (by simp) hF (hS.drewAt _)
    (by simp) (by simp) (fun j hj => by rw [getD_repl]; simp [e2]) (fun j o _ hj => by rw [getD_repl] at hj; cases hj)
  rw [show l.toArray.size = l'.length + ([] : List Lg).length from by simp [e2, hlen]]
  rw [show l.toArray.size = l'.length + ([] : List Lg).length from by simp [e2, hlen]] at key
  exact key
end
end Go.Sep
