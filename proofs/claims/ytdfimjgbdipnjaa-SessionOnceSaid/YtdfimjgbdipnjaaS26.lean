import Derived.Test.YtdfimjgbdipnjaaS25
import Derived.Test.YtdfimjgbdipnjaaS15
namespace Go.Proofs.Ytdfimjgbdipnjaa
open Go Go.Sep Go.Proofs
set_option maxRecDepth 10000
set_option linter.unusedSimpArgs false
set_option linter.unusedVariables false

/-! The plain law of SessionOnce: what holds of a caller, a table and what is under way between both. -/
/-- An asking: its session, its number, its place among all askings. -/
structure Aq where
  s : Int
  n : Int
  a : Int
def AnsOk (deeds : List De) (s n i : Int) : Prop := 1 ≤ i ∧ ∃ e, deeds[(i - 1).toNat]? = some e ∧ e.session = s ∧ e.number = n
def WayOk (own : Int → Int) (aq : List Aq) (life used : Int) (deeds : List De) (x : Sd) : Prop :=
  1 ≤ x.life ∧ x.life ≤ life ∧
  ((x.table = true ∧ (x.m.kind = 1 ∨ (x.m.kind ≠ 1 ∧ (⟨x.m.session, x.m.number, x.asking⟩ : Aq) ∈ aq))) ∨
   (x.table = false ∧ ((x.m.kind = 7 ∧ 1 ≤ x.m.session ∧ x.m.session ≤ used ∧ own x.m.session = x.life) ∨ x.m.kind = 8 ∨ ((x.m.kind = 10 ∨ x.m.kind = 11 ∨ x.m.kind = 13) ∧ AnsOk deeds x.m.session x.m.number x.answer))))
def RowOk (own : Int → Int) (used : Int) (deeds : List De) (d : Dk) : Prop :=
  d.life = 0 ∨ (1 ≤ d.life ∧ 1 ≤ d.session ∧ d.session ≤ used ∧ own d.session = d.life ∧ d.last = lastOf deeds d.session ∧ (1 ≤ d.last → ∃ i : Nat, d.reply = textB i ∧ i ≤ deeds.length ∧ AnsOk deeds d.session d.last i))
structure JI (k : Nat) (own : Int → Int) (aq : List Aq) (s : CS) (d : Dk) (life used asked : Int) (way : List Sd) (deeds : List De) : Prop where
  cal : CInv s
  kinds : s.m.kind = 0 ∨ s.m.kind = 1 ∨ (2 ≤ s.m.kind ∧ s.m.session = s.session ∧ s.session ≠ 0 ∧ s.m.number = s.last ∧ (⟨s.m.session, s.m.number, asked⟩ : Aq) ∈ aq)
  ses : s.session ≠ 0 → 1 ≤ s.session ∧ s.session ≤ used ∧ own s.session = life ∧ s.session ≤ s.greatest
  last : s.last ≤ k
  life0 : 1 ≤ life
  life1 : life ≤ k + 1
  used0 : 0 ≤ used
  used1 : used ≤ k
  asked0 : 0 ≤ asked
  asked1 : asked ≤ k
  wlen : way.length ≤ k
  dlen : deeds.length ≤ k
  aqU : ∀ p ∈ aq, ∀ q ∈ aq, p.s = q.s → p.n = q.n → p.a = q.a
  aqB : ∀ p ∈ aq, 1 ≤ p.s ∧ p.s ≤ used ∧ 1 ≤ p.n ∧ own p.s ≤ life ∧ (own p.s = life → p.s ≤ s.greatest) ∧ (p.s = s.session → p.n ≤ s.last)
  wy : ∀ x ∈ way, WayOk own aq life used deeds x
  row : RowOk own used deeds d
  rl0 : 0 ≤ d.last
  rl1 : d.last ≤ k
  de : ∀ e ∈ deeds, (⟨e.session, e.number, e.asking⟩ : Aq) ∈ aq

section
variable {k : Nat} {own : Int → Int} {aq : List Aq} {s : CS} {d : Dk} {life used asked : Int} {way : List Sd} {deeds : List De}

theorem JI.start : JI 0 (fun _ => 0) [] (CS.new 2) (Dk.zero 0) 1 0 0 [] [] :=
  ⟨CInv.new (by decide) (by decide), .inl rfl, fun h => absurd rfl h, Int.le_refl _, Int.le_refl _, by decide, Int.le_refl _, Int.le_refl _, Int.le_refl _, Int.le_refl _, Nat.le_refl _, Nat.le_refl _, fun p hp => (by cases hp), fun p hp => (by cases hp), fun p hp => (by cases hp), .inl rfl, Int.le_refl _, Int.le_refl _, fun p hp => (by cases hp)⟩
theorem JI.more (h : JI k own aq s d life used asked way deeds) : JI (k + 1) own aq s d life used asked way deeds :=
  { h with
    last := by have := h.last; omega, life1 := by have := h.life1; omega, used1 := by have := h.used1; omega, asked1 := by have := h.asked1; omega, wlen := by have := h.wlen; omega, dlen := by have := h.dlen; omega, rl1 := by have := h.rl1; omega }
/-- Less is under way. -/
theorem JI.less {way' : List Sd} (h : JI k own aq s d life used asked way deeds) (hl : way'.length ≤ way.length) (hs : ∀ x ∈ way', x ∈ way) : JI k own aq s d life used asked way' deeds :=
  { h with
    wlen := Nat.le_trans hl h.wlen, wy := fun x hx => h.wy x (hs x hx) }
/-- One message more is under way. -/
theorem JI.said {x : Sd} (h : JI k own aq s d life used asked way deeds) (hx : WayOk own aq life used deeds x) : JI (k + 1) own aq s d life used asked (way ++ [x]) deeds :=
  { h.more with
    wlen := by rw [List.length_append]; have := h.wlen; show way.length + 1 ≤ k + 1; omega, wy := fun y hy => by
      rcases List.mem_append.1 hy with hy | hy
      · exact h.wy y hy
      · obtain rfl := List.mem_singleton.1 hy; exact hx }

/-! asking -/
theorem JI.hello (h : JI k own aq s d life used asked way deeds) (hb : s.m.kind = 0) : JI (k + 1) own aq (helloF s).2 d life used (asked + 1) way deeds := by
  have h1 := h.more
  have e : (helloF s).2 = { s with m := Mg.hello, timer := 0, session := 0, last := 0 } := by unfold helloF; rw [if_pos hb]
  have hc := helloF_inv h.cal
  rw [e] at hc ⊢
  exact { h1 with
    cal := hc, kinds := .inr (.inl rfl), ses := fun h => absurd rfl h, last := by show (0 : Int) ≤ ((k + 1 : Nat) : Int); omega, asked0 := by have := h.asked0; omega, asked1 := by have := h.asked1; omega, aqB := fun p hp => by
      obtain ⟨a1, a2, a3, a4, a5, a6⟩ := h.aqB p hp
      exact ⟨a1, a2, a3, a4, a5, fun (hz : p.s = 0) => by omega⟩ }
theorem askF_ok {m : Mg} (h : JI k own aq s d life used asked way deeds) (hk : k ≤ 1048576) (hb : s.m.kind = 0) (hs : s.session ≠ 0) (h0 : 2 ≤ m.kind) (h1 : m.kind ≤ 4) :
    askF s m = (0, { s with m := { m with session := s.session, number := s.last + 1 }, timer := 0, last := s.last + 1 }) := by
  have := h.last; have := h.cal.l0
  unfold askF
  rw [if_neg (by omega), if_neg (by omega), if_neg (by omega)]
theorem JI.ask {m : Mg} (h : JI k own aq s d life used asked way deeds) (hk : k ≤ 1048576) (hb : s.m.kind = 0) (hs : s.session ≠ 0) (h0 : 2 ≤ m.kind) (h1 : m.kind ≤ 4) :
    ∃ aq', JI (k + 1) own aq' (askF s m).2 d life used (asked + 1) way deeds := by
  have hm := h.more
  have e := askF_ok h hk hb hs h0 h1
  have hc := askF_inv (m := m) h.cal
  rw [e] at hc ⊢
  have hl := h.last; have hl0 := h.cal.l0
  obtain ⟨b1, b2, b3, b4⟩ := h.ses hs
  have hin : ∀ {p : Aq}, p ∈ aq → p ∈ aq ++ [⟨s.session, s.last + 1, asked + 1⟩] := fun hp => List.mem_append.2 (.inl hp)
  refine ⟨aq ++ [⟨s.session, s.last + 1, asked + 1⟩], { hm with
    cal := hc, kinds := .inr (.inr ⟨h0, rfl, hs, rfl, by simp⟩), ses := fun _ => ⟨b1, b2, b3, b4⟩, last := by show s.last + 1 ≤ ((k + 1 : Nat) : Int); omega, asked0 := by have := h.asked0; omega, asked1 := by have := h.asked1; omega, aqU := ?_, aqB := ?_, wy := ?_, de := fun e he => hin (h.de e he) }⟩
  · intro p hp q hq e1 e2
    rcases List.mem_append.1 hp with hp | hp <;> rcases List.mem_append.1 hq with hq | hq
    · exact h.aqU p hp q hq e1 e2
    · obtain rfl := List.mem_singleton.1 hq
      have := (h.aqB p hp).2.2.2.2.2 e1
      dsimp only at e2; omega
    · obtain rfl := List.mem_singleton.1 hp
      have := (h.aqB q hq).2.2.2.2.2 e1.symm
      dsimp only at e2; omega
    · obtain rfl := List.mem_singleton.1 hp
      obtain rfl := List.mem_singleton.1 hq
      rfl
  · intro p hp
    rcases List.mem_append.1 hp with hp | hp
    · obtain ⟨a1, a2, a3, a4, a5, a6⟩ := h.aqB p hp
      exact ⟨a1, a2, a3, a4, a5, fun (hz : p.s = s.session) => by have := a6 hz; show p.n ≤ s.last + 1; omega⟩
    · obtain rfl := List.mem_singleton.1 hp
      exact ⟨b1, b2, by show 1 ≤ s.last + 1; omega, by show own s.session ≤ life; omega, fun _ => b4, fun _ => Int.le_refl _⟩
  · intro x hx
    obtain ⟨c1, c2, c3⟩ := h.wy x hx
    refine ⟨c1, c2, ?_⟩
    rcases c3 with ⟨t, h1 | ⟨h1, h2⟩⟩ | c3
    · exact .inl ⟨t, .inl h1⟩
    · exact .inl ⟨t, .inr ⟨h1, hin h2⟩⟩
    · exact .inr c3

/-! ticking, saying -/
theorem JI.tick (h : JI k own aq s d life used asked way deeds) : JI k own aq { s with timer := max 0 (s.timer - 1) } d life used asked way deeds :=
  { h with
    cal := tick_inv h.cal, kinds := h.kinds, ses := h.ses, last := h.last, aqB := h.aqB }
theorem JI.due_no (h : JI k own aq s d life used asked way deeds) (hd : (dueF s).2.1 = false) : JI k own aq (dueF s).2.2 d life used asked way deeds := by
  have e : (dueF s).2.2 = s := by unfold dueF at hd ⊢; split at hd <;> simp_all
  rw [e]; exact h
theorem JI.due_yes (h : JI k own aq s d life used asked way deeds) (hd : (dueF s).2.1 = true) : JI (k + 1) own aq (dueF s).2.2 d life used asked (way ++ [⟨(dueF s).1, true, life, asked, 0⟩]) deeds := by
  have e : dueF s = (s.m, true, { s with timer := s.resend }) ∧ s.m.kind ≠ 0 := by
    unfold dueF at hd ⊢
    split at hd
    · cases hd
    · rename_i hn
      rw [if_neg hn]
      exact ⟨rfl, fun h0 => hn (.inl h0)⟩
  have hc := dueF_inv h.cal
  rw [e.1] at hc ⊢
  have h1 : JI k own aq { s with timer := s.resend } d life used asked way deeds := { h with
    cal := hc, kinds := h.kinds, ses := h.ses, last := h.last, aqB := h.aqB }
  refine h1.said ⟨h.life0, Int.le_refl _, .inl ⟨rfl, ?_⟩⟩
  rcases h.kinds with h0 | h0 | ⟨h0, _, _, _, h5⟩
  · exact absurd h0 e.2
  · exact .inl h0
  · exact .inr ⟨by show s.m.kind ≠ 1; omega, h5⟩

/-! the table -/
theorem RowOk.more {e : De} {deeds : List De} (h : RowOk own used deeds d) (hn : d.life = 0 ∨ e.session ≠ d.session) : RowOk own used (deeds ++ [e]) d := by
  rcases h with h | ⟨h1, h2, h3, h4, h5, h6⟩
  · exact .inl h
  · rcases hn with hn | hn
    · exact .inl hn
    · refine .inr ⟨h1, h2, h3, h4, by rw [lastOf_app, if_neg hn]; exact h5, fun hl => ?_⟩
      obtain ⟨i, e1, e2, e3, x, e4, e5⟩ := h6 hl
      exact ⟨i, e1, by rw [List.length_append]; omega, e3, x, by rw [List.getElem?_append_left (List.getElem?_eq_some_iff.1 e4).1]; exact e4, e5⟩
theorem AnsOk.more {e : De} {a b i : Int} (h : AnsOk deeds a b i) : AnsOk (deeds ++ [e]) a b i := by
  obtain ⟨h1, x, h2, h3⟩ := h
  exact ⟨h1, x, by rw [List.getElem?_append_left (List.getElem?_eq_some_iff.1 h2).1]; exact h2, h3⟩
theorem lastOf_none {l : List De} {s : Int} (h : ∀ e ∈ l, e.session ≠ s) : lastOf l s = 0 := by
  unfold lastOf
  suffices ∀ acc : Int, l.foldl (fun acc e => if e.session = s then e.number else acc) acc = acc from this 0
  induction l with
  | nil => intro acc; rfl
  | cons e l ih =>
    intro acc
    rw [List.foldl_cons, if_neg (h e (List.mem_cons_self ..))]
    exact ih (fun x hx => h x (List.mem_cons_of_mem _ hx)) acc
def welcomeS (session life : Int) : Sd := ⟨⟨7, session, 0, 0, 0, 0, 0, 0, 0, ⟨#[]⟩, ⟨#[]⟩⟩, false, life, 0, 0⟩
def staleS (x : Sd) : Sd := ⟨⟨8, x.m.session, x.m.number, 0, 0, 0, 0, 0, 0, ⟨#[]⟩, ⟨#[]⟩⟩, false, x.life, 0, 0⟩
theorem replyK_in (a : Int) : replyK a = 10 ∨ replyK a = 11 ∨ replyK a = 13 := by
  unfold replyK; split
  · exact .inr (.inr rfl)
  · split
    · exact .inr (.inl rfl)
    · exact .inl rfl
theorem JI.known {x : Sd} (h : JI k own aq s d life used asked way deeds) (hx : WayOk own aq life used deeds x) (hd : d.life = x.life) : JI (k + 1) own aq s d life used asked (way ++ [welcomeS d.session x.life]) deeds := by
  have h1 := hx.1
  refine h.said ⟨h1, hx.2.1, .inr ⟨rfl, .inl ⟨rfl, ?_⟩⟩⟩
  rcases h.row with h0 | ⟨_, h2, h3, h4, _, _⟩
  · omega
  · exact ⟨h2, h3, by show own d.session = x.life; omega⟩
theorem JI.fresh {x : Sd} (h : JI k own aq s d life used asked way deeds) (hx : WayOk own aq life used deeds x) :
    ∃ own', JI (k + 1) own' aq s ⟨0, x.life, used + 1, 0, ⟨#[]⟩⟩ life (used + 1) asked (way ++ [welcomeS (used + 1) x.life]) deeds := by
  have hm := h.more
  have hu0 := h.used0; have hu1 := h.used1
  have old : ∀ t : Int, t ≤ used → (fun t => if t = used + 1 then x.life else own t) t = own t := fun t ht => if_neg (by omega)
  have new : (fun t => if t = used + 1 then x.life else own t) (used + 1) = x.life := if_pos rfl
  refine ⟨fun t => if t = used + 1 then x.life else own t, ?_⟩
  generalize hown : (fun t => if t = used + 1 then x.life else own t) = own' at old new
  have hw : ∀ y, WayOk own aq life used deeds y → WayOk own' aq life (used + 1) deeds y := fun y ⟨c1, c2, c3⟩ => by
    refine ⟨c1, c2, ?_⟩
    rcases c3 with c3 | ⟨t, ⟨k7, c4, c5, c6⟩ | c7⟩
    · exact .inl c3
    · exact .inr ⟨t, .inl ⟨k7, c4, by omega, by rw [old _ c5]; exact c6⟩⟩
    · exact .inr ⟨t, .inr c7⟩
  exact { hm with
    ses := fun hs => by
      obtain ⟨b1, b2, b3, b4⟩ := h.ses hs
      exact ⟨b1, by omega, by rw [old _ b2]; exact b3, b4⟩
    used0 := by omega
    used1 := by omega
    wlen := by rw [List.length_append]; have := h.wlen; show way.length + 1 ≤ k + 1; omega
    aqB := fun p hp => by
      obtain ⟨a1, a2, a3, a4, a5, a6⟩ := h.aqB p hp
      rw [old _ a2]
      exact ⟨a1, by omega, a3, a4, a5, a6⟩
    wy := fun y hy => by
      rcases List.mem_append.1 hy with hy | hy
      · exact hw y (h.wy y hy)
      · obtain rfl := List.mem_singleton.1 hy
        exact ⟨hx.1, hx.2.1, .inr ⟨rfl, .inl ⟨rfl, by show 1 ≤ used + 1; omega, Int.le_refl _, new⟩⟩⟩
    row := .inr ⟨hx.1, by show 1 ≤ used + 1; omega, Int.le_refl _, new, by
      show (0 : Int) = lastOf deeds (used + 1)
      refine (lastOf_none fun e he => ?_).symm
      have := (h.aqB _ (h.de e he)).2.1
      dsimp only at this; omega, fun (hl : (1 : Int) ≤ 0) => by omega⟩
    rl0 := Int.le_refl _
    rl1 := by show (0 : Int) ≤ ((k + 1 : Nat) : Int); omega }
theorem JI.stale {x : Sd} (h : JI k own aq s d life used asked way deeds) (hx : WayOk own aq life used deeds x) : JI (k + 1) own aq s d life used asked (way ++ [staleS x]) deeds :=
  h.said ⟨hx.1, hx.2.1, .inr ⟨rfl, .inr (.inl rfl)⟩⟩
theorem JI.again {x : Sd} (h : JI k own aq s d life used asked way deeds) (hx : WayOk own aq life used deeds x) (h0 : d.life ≠ 0) (h1 : d.session = x.m.session) (h2 : x.m.number = d.last) (h3 : 1 ≤ x.m.number) :
    ∃ i : Nat, d.reply = textB i ∧ i ≤ k ∧ JI (k + 1) own aq s d life used asked (way ++ [replyS x i]) deeds := by
  rcases h.row with h4 | ⟨_, _, _, _, _, h5⟩
  · exact absurd h4 h0
  · obtain ⟨i, e1, e2, e3⟩ := h5 (by omega)
    refine ⟨i, e1, Nat.le_trans e2 h.dlen, h.said ⟨hx.1, hx.2.1, .inr ⟨rfl, .inr (.inr ⟨replyK_in _, ?_⟩)⟩⟩⟩
    show AnsOk deeds x.m.session x.m.number i
    rw [← h1, h2]; exact e3
theorem JI.new {x : Sd} (h : JI k own aq s d life used asked way deeds) (hx : WayOk own aq life used deeds x) (ht : x.table = true) (hk1 : x.m.kind ≠ 1) (h0 : d.life ≠ 0) (h1 : d.session = x.m.session) (h2 : x.m.number = d.last + 1) :
    x.m.number = lastOf deeds x.m.session + 1 ∧ JI (k + 1) own aq s { d with last := d.last + 1, reply := textB (deeds.length + 1) } life used asked (way ++ [replyS x ((deeds.length + 1 : Nat) : Int)]) (deeds ++ [⟨x.m.session, x.m.number, x.asking⟩]) := by
  have hm := h.more
  have hq : (⟨x.m.session, x.m.number, x.asking⟩ : Aq) ∈ aq := by
    rcases hx.2.2 with ⟨_, c | c⟩ | ⟨c, _⟩
    · exact absurd c hk1
    · exact c.2
    · rw [ht] at c; cases c
  have hr0 := h.rl0; have hr1 := h.rl1
  rcases h.row with h4 | ⟨r1, r2, r3, r4, r5, _⟩
  · exact absurd h4 h0
  have hans : AnsOk (deeds ++ [⟨x.m.session, x.m.number, x.asking⟩]) x.m.session x.m.number ((deeds.length + 1 : Nat) : Int) := by
    refine ⟨by omega, ⟨x.m.session, x.m.number, x.asking⟩, ?_, rfl, rfl⟩
    rw [show (((deeds.length + 1 : Nat) : Int) - 1).toNat = deeds.length from by omega, List.getElem?_append_right (Nat.le_refl _), Nat.sub_self]
    rfl
  refine ⟨by rw [← h1, ← r5]; exact h2, { hm with
    wlen := ?_, dlen := ?_, wy := ?_, row := ?_, rl0 := ?_, rl1 := ?_, de := ?_ }⟩
  · rw [List.length_append]; have := h.wlen; show way.length + 1 ≤ k + 1; omega
  · rw [List.length_append]; have := h.dlen; show deeds.length + 1 ≤ k + 1; omega
  · intro y hy
    rcases List.mem_append.1 hy with hy | hy
    · obtain ⟨c1, c2, c3⟩ := h.wy y hy
      refine ⟨c1, c2, ?_⟩
      rcases c3 with c3 | ⟨t, c4 | c4 | ⟨c4, c5⟩⟩
      · exact .inl c3
      · exact .inr ⟨t, .inl c4⟩
      · exact .inr ⟨t, .inr (.inl c4)⟩
      · exact .inr ⟨t, .inr (.inr ⟨c4, c5.more⟩)⟩
    · obtain rfl := List.mem_singleton.1 hy
      exact ⟨hx.1, hx.2.1, .inr ⟨rfl, .inr (.inr ⟨replyK_in _, hans⟩)⟩⟩
  · refine .inr ⟨r1, r2, r3, r4, ?_, fun _ => ⟨deeds.length + 1, rfl, by rw [List.length_append]; exact Nat.le_refl _, ?_⟩⟩
    · rw [lastOf_app, if_pos h1.symm]; show d.last + 1 = x.m.number; omega
    · show AnsOk _ d.session (d.last + 1) _
      rw [h1, ← h2]; exact hans
  · show 0 ≤ d.last + 1; omega
  · show d.last + 1 ≤ ((k + 1 : Nat) : Int); omega
  · intro e he
    rcases List.mem_append.1 he with he | he
    · exact h.de e he
    · obtain rfl := List.mem_singleton.1 he
      exact hq

/-! the caller -/
theorem JI.hear {x : Sd} (h : JI k own aq s d life used asked way deeds) (hx : WayOk own aq life used deeds x) (ht : x.table = false) (hl : x.life = life) :
    JI k own aq (hearF s x.m).2 d life used asked way deeds ∧ ((hearF s x.m).1 = 3 → 1 ≤ x.answer ∧ deeds[(x.answer - 1).toNat]? = some ⟨s.session, s.m.number, asked⟩) := by
  have hc := hearF_inv (m := x.m) h.cal
  have hg := h.cal.g0
  have hk := h.cal.k
  unfold hearF at hc ⊢
  split at hc
  · rename_i hw
    rw [if_pos hw]
    refine ⟨?_, fun (h3 : (1 : Int) = 3) => by omega⟩
    have hwel : 1 ≤ x.m.session ∧ x.m.session ≤ used ∧ own x.m.session = life := by
      rcases hx.2.2 with ⟨c, _⟩ | ⟨_, ⟨_, c1, c2, c3⟩ | c | ⟨c, _⟩⟩
      · rw [ht] at c; cases c
      · exact ⟨c1, c2, by rw [c3, hl]⟩
      · omega
      · omega
    exact { h with
    cal := hc, kinds := .inl rfl, ses := fun _ => ⟨hwel.1, hwel.2.1, hwel.2.2, Int.le_refl _⟩, last := by show (0 : Int) ≤ k; omega, aqB := fun p hp => by
      obtain ⟨a1, a2, a3, a4, a5, a6⟩ := h.aqB p hp
      refine ⟨a1, a2, a3, a4, fun ho => ?_, fun (hs : p.s = x.m.session) => ?_⟩
      · have := a5 ho; show p.s ≤ x.m.session; omega
      · have := a5 (by rw [hs]; exact hwel.2.2)
        omega }
  · rename_i hw
    rw [if_neg hw]
    split at hc
    · rename_i hn
      rw [if_pos hn]
      exact ⟨h, fun (h3 : (0 : Int) = 3) => by omega⟩
    · rename_i hn
      rw [if_neg hn]
      have hn' : s.m.number ≠ 0 ∧ x.m.session = s.m.session ∧ x.m.number = s.m.number := by omega
      obtain ⟨n1, n2, n3⟩ := hn'
      obtain ⟨q1, q2, q3, q4, q5⟩ : 2 ≤ s.m.kind ∧ s.m.session = s.session ∧ s.session ≠ 0 ∧ s.m.number = s.last ∧ (⟨s.m.session, s.m.number, asked⟩ : Aq) ∈ aq := by
        rcases h.kinds with c | c | c
        · omega
        · omega
        · exact c
      split at hc
      · rename_i h8
        rw [if_pos h8]
        exact ⟨{ h with
    cal := hc, kinds := .inl rfl, ses := fun h => absurd rfl h, last := by show (0 : Int) ≤ k; omega, aqB := fun p hp => by
          obtain ⟨a1, a2, a3, a4, a5, a6⟩ := h.aqB p hp
          exact ⟨a1, a2, a3, a4, a5, fun (hz : p.s = 0) => by omega⟩ }, fun (h3 : (2 : Int) = 3) => by omega⟩
      · rename_i h8
        rw [if_neg h8]
        split at hc
        · rename_i hf
          rw [if_pos hf]
          refine ⟨{ h with
    cal := hc, kinds := .inl rfl, ses := h.ses, last := h.last, aqB := h.aqB }, fun _ => ?_⟩
          have hfk : x.m.kind = 9 ∨ x.m.kind = 10 ∨ x.m.kind = 11 ∨ x.m.kind = 12 ∨ x.m.kind = 13 := by
            simp only [fitsB, decide_eq_true_eq] at hf
            omega
          obtain ⟨e1, e, e2, e3, e4⟩ : AnsOk deeds x.m.session x.m.number x.answer := by
            rcases hx.2.2 with ⟨c, _⟩ | ⟨_, ⟨c, _⟩ | c | ⟨_, c⟩⟩
            · rw [ht] at c; cases c
            · omega
            · omega
            · exact c
          refine ⟨e1, ?_⟩
          rw [e2]
          have := h.aqU _ (h.de e (List.mem_of_getElem? e2)) _ q5 (by show e.session = s.m.session; rw [e3, n2]) (by show e.number = s.m.number; rw [e4, n3])
          dsimp only at this
          obtain ⟨e5, e6, e7⟩ := e
          dsimp only at this e3 e4
          rw [this, e3, e4, n2, n3, q2]
        · rename_i hf
          rw [if_neg hf]
          exact ⟨h, fun (h3 : (0 : Int) = 3) => by omega⟩

/-! forgotten tables, new lives -/
theorem JI.forget (h : JI k own aq s d life used asked way deeds) : JI k own aq s (Dk.zero 0) life used asked way deeds :=
  { h with
    row := .inl rfl, rl0 := Int.le_refl _, rl1 := by show (0 : Int) ≤ k; omega }
theorem JI.born (h : JI k own aq s d life used asked way deeds) : JI (k + 1) own aq (CS.new 2) d (life + 1) used asked way deeds := by
  have hm := h.more
  have h0 := h.life0; have h1 := h.life1
  exact { hm with
    cal := CInv.new (by decide) (by decide), kinds := .inl rfl, ses := fun h => absurd rfl h, last := by show (0 : Int) ≤ ((k + 1 : Nat) : Int); omega, life0 := by omega, life1 := by omega, aqB := fun p hp => by
      obtain ⟨a1, a2, a3, a4, a5, a6⟩ := h.aqB p hp
      exact ⟨a1, a2, a3, by omega, fun ho => by omega, fun (hz : p.s = 0) => by omega⟩, wy := fun x hx => by
      obtain ⟨c1, c2, c3⟩ := h.wy x hx
      exact ⟨c1, by omega, c3⟩ }
end
end Go.Proofs.Ytdfimjgbdipnjaa
