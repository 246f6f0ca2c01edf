import Derived.Test.YtfghnepmbgbnoaaSep5
/- Slices that the call owns: rows of so many cells each. -/
namespace Go.Sep
open Go

theorem Sat.split {B : Base} {A A1 : List Blk} {F : List Blk} [h : Split A A1 F] {w : World} (hS : Sat B A w) : Sat B A1 w := (hS.perm h.perm).left

/-- Rows of sz cells each, each cell one. -/
def RowsOk (sz : Nat) (rows : List (List Value)) : Prop := ∀ r ∈ rows, r.length = sz ∧ oneAll r = true

theorem RowsOk.len {sz : Nat} : ∀ {rows : List (List Value)}, RowsOk sz rows → rows.flatten.length = rows.length * sz
  | [], _ => by simp
  | r :: rows, h => by
    have h1 := (h r (List.mem_cons_self ..)).1
    have h2 := RowsOk.len (rows := rows) fun x hx => h x (List.mem_cons_of_mem _ hx)
    simp [h1, h2, Nat.add_mul, Nat.add_comm]

theorem RowsOk.at_ {sz : Nat} : ∀ {rows : List (List Value)}, RowsOk sz rows → ∀ {i k : Nat} {r : List Value}, rows[i]? = some r → k < sz → rows.flatten[i * sz + k]? = r[k]?
  | [], _, i, k, r, hi, _ => by simp at hi
  | x :: rows, h, 0, k, r, hi, hk => by
    simp only [List.getElem?_cons_zero, Option.some.injEq] at hi
    subst hi
    have := (h x (List.mem_cons_self ..)).1
    simp only [List.flatten_cons, Nat.zero_mul, Nat.zero_add]
    rw [List.getElem?_append_left (by omega)]
  | x :: rows, h, i + 1, k, r, hi, hk => by
    have h1 := (h x (List.mem_cons_self ..)).1
    have ih := RowsOk.at_ (rows := rows) (fun y hy => h y (List.mem_cons_of_mem _ hy)) (i := i) (k := k) (r := r) (by simpa using hi) hk
    simp only [List.flatten_cons]
    rw [List.getElem?_append_right (by rw [h1, Nat.add_mul]; omega), h1, show (i + 1) * sz + k - sz = i * sz + k from by rw [Nat.add_mul]; omega]
    exact ih

theorem RowsOk.app {sz : Nat} {a b : List (List Value)} (ha : RowsOk sz a) (hb : RowsOk sz b) : RowsOk sz (a ++ b) := fun r hr => by
  rcases List.mem_append.1 hr with h | h
  · exact ha r h
  · exact hb r h

theorem RowsOk.one {sz : Nat} {r : List Value} (h : r.length = sz) (h1 : oneAll r = true) : RowsOk sz [r] := fun x hx => by
  rw [List.mem_singleton.1 hx]; exact ⟨h, h1⟩

theorem RowsOk.nil {sz : Nat} : RowsOk sz [] := fun _ h => by cases h

/-- The slice value sv has just these rows, and its blocks are G: none where it is nil, else one of its own. -/
def Own (E sz : Nat) (sv : Value) (rows : List (List Value)) (G : List Blk) : Prop :=
  RowsOk sz rows ∧ ((sv = .slice none 0 0 ∧ rows = [] ∧ G = []) ∨
    ∃ g c spare, sv = .slice (some ⟨g, 0, none⟩) rows.length c ∧ G = [(g, cl (rows.flatten ++ spare) E)] ∧ rows.flatten.length + spare.length = c * sz ∧ rows.length ≤ c)

theorem Own.none {E sz : Nat} : Own E sz (.slice none 0 0) [] [] := ⟨RowsOk.nil, .inl ⟨rfl, rfl, rfl⟩⟩

theorem Own.form {E sz : Nat} {sv : Value} {rows : List (List Value)} {G : List Blk} (h : Own E sz sv rows G) : ∃ a c, sv = .slice a rows.length c := by
  rcases h.2 with ⟨rfl, rfl, _⟩ | ⟨g, c, _, rfl, _⟩
  · exact ⟨_, _, rfl⟩
  · exact ⟨_, _, rfl⟩

theorem Own.some_ {E sz : Nat} {sv : Value} {rows : List (List Value)} {G : List Blk} (h : Own E sz sv rows G) (hn : 0 < rows.length) :
    ∃ g c spare, sv = .slice (some ⟨g, 0, .none⟩) rows.length c ∧ G = [(g, cl (rows.flatten ++ spare) E)] ∧ rows.flatten.length + spare.length = c * sz ∧ rows.length ≤ c := by
  rcases h.2 with ⟨_, rfl, _⟩ | h
  · simp at hn
  · exact h

section
variable {P : Program} {N : Fi} {B : Base} {Q : Exit → Act → World → Prop} {T : Tm} {A : List Blk} {ops : Array Oper} {l : List Oper}
variable {d : Nat} {ty : TypeId} {pos : String} {af : Array Edge} {m : Md} {gd : Option (Nat × Bool)}

/-- A row is loaded. -/
theorem Ops.ldRow {t : TypeId} {x : Operand} {b i : Nat} {sz bs : Nat} {zc r : List Value} {rows : List (List Value)} {spare : List Value} {E : TypeId} (hm : m.rd false = true) (hg : gst ops T gd = some true) [ht : Ty P t true sz bs zc]
    (hx : ev T x = some (.pointer (some ⟨b, i * sz, none⟩))) [hb : Has A b (cl (rows.flatten ++ spare) E)] (hr : RowsOk sz rows) (hi : rows[i]? = some r) (hd : Nat.blt d N.n = true)
    (k : Ops P N B Q ops m.tl l ((d, .agg r.toArray) :: T) A) : Ops P N B Q ops m (⟨some d, .load t x, ty, pos, af, gd⟩ :: l) T A :=
  Ops.readV hm hg hd (fun a w hF hS => by
    have hl := (hr r (List.mem_of_getElem? hi)).1
    simp [execOp, hF.eval hx, run_loadAtN ht hl (fun j u hu => by
      have hj : j < sz := by rw [← hl]; exact (List.getElem?_eq_some_iff.1 hu).1
      have h1 := hr.at_ hi hj
      rw [cell_of (hS.here _ hb.mem), List.getElem?_append_left (List.getElem?_eq_some_iff.1 (h1.trans hu)).1, h1, hu])]) k

/-- One cell of a row is loaded. -/
theorem Ops.ldRow1 {t : TypeId} {x : Operand} {b i o : Nat} {sz sz' bs : Nat} {zc r : List Value} {rows : List (List Value)} {spare : List Value} {E : TypeId} {v : Value} (hm : m.rd false = true) (hg : gst ops T gd = some true) [ht : Ty P t false sz' bs zc]
    (hx : ev T x = some (.pointer (some ⟨b, i * sz + o, none⟩))) [hb : Has A b (cl (rows.flatten ++ spare) E)] (hr : RowsOk sz rows) (hi : rows[i]? = some r) (hv : r[o]? = some v) (hd : Nat.blt d N.n = true)
    (k : Ops P N B Q ops m.tl l ((d, v) :: T) A) : Ops P N B Q ops m (⟨some d, .load t x, ty, pos, af, gd⟩ :: l) T A :=
  Ops.readV hm hg hd (fun a w hF hS => by
    have hl := (hr r (List.mem_of_getElem? hi)).1
    have ho : o < sz := by rw [← hl]; exact (List.getElem?_eq_some_iff.1 hv).1
    have h1 := hr.at_ hi ho
    have hc : w.cell? ⟨b, i * sz + o, none⟩ = some v := by
      rw [cell_of (hS.here _ hb.mem), List.getElem?_append_left (List.getElem?_eq_some_iff.1 (h1.trans hv)).1, h1, hv]
    simp [execOp, hF.eval hx, run_loadAt1 ht hc]) k
end

theorem ins_app (a s n : List Value) : ins (a ++ s) a.length n = a ++ n ++ s.drop n.length := by
  simp [ins, List.drop_append]

/-! append -/
section
variable {P : Program} {B : Base}
theorem run_firstCells {w : World} {g size n : Nat} {l : List Value} {E : TypeId} {a : Value} {len cap : Nat} (ha : a = .slice (some ⟨g, 0, none⟩) len cap) (hb : w.heap[g]? = some (cl l E)) (hn : n * size ≤ l.length) :
    (Builtin.firstCells size n a).run P w = .ok (l.take (n * size)).toArray w := by
  subst ha
  simp only [Builtin.firstCells]
  exact run_loadCells (by simp; omega) fun j u hu => by
    have hj : j < n * size := by
      have := (List.getElem?_eq_some_iff.1 hu).1
      simp at this; omega
    rw [List.getElem?_take_of_lt hj] at hu
    rw [cell_of hb]
    simpa using hu

theorem nextcap_le {need c : Nat} (h : c < need) : Builtin.nextslicecap need c ≤ need + need / 4 + 512 := by
  unfold Builtin.nextslicecap
  split
  · omega
  · split
    · omega
    · have hg : ∀ (r c : Nat), c ≤ need + (need + 768) / 4 → Builtin.growBy need r c ≤ need + (need + 768) / 4 := by
        intro r
        induction r with
        | zero => intro c hc; simpa [Builtin.growBy] using hc
        | succ r ih =>
          intro c hc
          simp only [Builtin.growBy]
          split
          · exact hc
          · rename_i hlt
            exact ih _ (by omega)
      have := hg 4 c (by omega)
      omega

theorem effPost_mono {R R' : Value → List Blk → Prop} {r : Result Next} (h : effPost P B R r) (hr : ∀ v A', R v A' → ∃ A'', R' v A'' ∧ ∀ w, Sat B A' w → Sat B A'' w) : effPost P B R' r := by
  cases r with
  | ok n w =>
    cases n <;> simp only [effPost] at h ⊢
    case value v => obtain ⟨A', h1, h2⟩ := h; obtain ⟨A'', h3, h4⟩ := hr _ _ h1; exact ⟨A'', h3, h4 _ h2⟩
    case skip => obtain ⟨A', h1, h2⟩ := h; obtain ⟨A'', h3, h4⟩ := hr _ _ h1; exact ⟨A'', h3, h4 _ h2⟩
    case enter f args => exact h.mono fun e w' ⟨v, A', he, h1, h2⟩ => by obtain ⟨A'', h3, h4⟩ := hr _ _ h1; exact ⟨v, A'', he, h3, h4 _ h2⟩
    case round l f tmps assign body => exact h.mono fun e w' ⟨v, A', he, h1, h2⟩ => by obtain ⟨A'', h3, h4⟩ := hr _ _ h1; exact ⟨v, A'', he, h3, h4 _ h2⟩
  | halt x w => simp only [effPost] at h

theorem _root_.Go.Sep.Sat.tail {p : Blk} {A : List Blk} {w : World} (h : Sat B (p :: A) w) : Sat B A w := Sat.right (A := [p]) h

/-- What append leaves, as far as one may know: the rows, in a block of one's own. -/
def AppR (E sz : Nat) (rows news : List (List Value)) (F : List Blk) : Value → List Blk → Prop :=
  fun v X => ∃ G, Own E sz v (rows ++ news) G ∧ X = G ++ F

/-- append of rows that are read from somewhere. -/
theorem run_append {w : World} {t ty e sz bs : Nat} {ge : Bool} {zc : List Value} (ht : TyD P t (.slice e)) (he : Ty P e ge sz bs zc) (hzc : zc.length = sz)
    {sv xv : Value} {rows news : List (List Value)} {G F : List Blk} (hS : Sat B (G ++ F) w) (hown : Own e sz sv rows G) (hnew : RowsOk sz news)
    (hlen : (Builtin.lenOf xv).run P w = .ok news.length w) (hx : (Builtin.firstCells sz news.length xv).run P w = .ok news.flatten.toArray w) (hx' : ∀ w', Sat B (G ++ F) w' → (Builtin.firstCells sz news.length xv).run P w' = .ok news.flatten.toArray w')
    (hbytes : (rows.length + news.length + (rows.length + news.length) / 4 + 512) * bs ≤ 281474976710656) (hmax : rows.length + news.length ≤ 9223372036854775807) :
    effPost P B (AppR e sz rows news F) ((do pure (Next.value (← Builtin.append_ #[t, t] ty #[sv, xv])) : Sem Next).run P w) := by
  obtain ⟨a, c, hsv⟩ := hown.form
  obtain ⟨i, hi, his, hib⟩ := he.run_info (w := w)
  have hone : ∀ u ∈ news.flatten, u.oneCell' = true := fun u hu => by
    obtain ⟨r, hr, hu⟩ := List.mem_flatten.1 hu
    exact oneAll_mem (hnew r hr).2 u hu
  have hnl := hnew.len
  have hrl := hown.1.len
  by_cases hcap : rows.length + news.length ≤ c
  · rcases hown.2 with ⟨h1, h2, h3⟩ | ⟨g, c', spare, h1, h2, h3, h4⟩
    · subst h2; subst h3
      rw [hsv] at h1
      injection h1 with h1 h1' h1''
      subst h1
      have hn0 : news = [] := List.eq_nil_of_length_eq_zero (by simp at hcap; omega)
      subst hn0
      have hx0 : (Builtin.firstCells sz 0 xv).run P w = .ok #[] w := by simpa using hx
      have : (Builtin.append_ #[t, t] ty #[sv, xv]).run P w = .ok sv w := by
        simp [Builtin.append_, ht.run_und, he.run_size, hsv, h1'', hlen, hx0]
      simp only [Sem.run_bind, this, Result.andThen_ok, Sem.run_pure, effPost]
      exact ⟨F, ⟨[], by rw [hsv]; simpa [h1''] using (Own.none (E := e) (sz := sz)), rfl⟩, by simpa using hS⟩
    · rw [hsv] at h1
      injection h1 with h1 h1' h1''
      subst h1; subst h1''; subst h2
      have hfit : rows.flatten.length + news.flatten.length ≤ (rows.flatten ++ spare).length := by
        rw [List.length_append, h3, hrl, hnl, ← Nat.add_mul]
        exact Nat.mul_le_mul_right _ hcap
      obtain ⟨w', hr, hS'⟩ := run_storeCells (P := P) (A1 := []) (A2 := F) (b := g) (E := e) (off := rows.length * sz) news.flatten 0 (rows.flatten ++ spare) w (by simpa using hS) hone (by rw [← hrl]; omega)
      have : (Builtin.append_ #[t, t] ty #[sv, xv]).run P w = .ok (.slice (some ⟨g, 0, none⟩) (rows.length + news.length) c) w' := by
        simp [Builtin.append_, ht.run_und, he.run_size, hsv, hlen, hcap, hx, add_none, hr]
      simp only [Sem.run_bind, this, Result.andThen_ok, Sem.run_pure, effPost]
      refine ⟨_, ⟨[(g, cl (ins (rows.flatten ++ spare) (rows.length * sz + 0) news.flatten) e)], ⟨hown.1.app hnew, .inr ⟨g, c, spare.drop news.flatten.length, by simp, ?_, ?_, by simpa using hcap⟩⟩, rfl⟩, by simpa using hS'⟩
      · rw [Nat.add_zero, ← hrl, ins_app, List.flatten_append]
      · simp only [List.length_append] at hfit
        simp only [List.flatten_append, List.length_append, List.length_drop]
        omega
  · have hle := nextcap_le (need := rows.length + news.length) (c := c) (by omega)
    have hb2 : ¬ (Builtin.nextslicecap (rows.length + news.length) c * bs > 2 ^ 48) := by
      have := Nat.mul_le_mul_right bs hle
      rw [show (2:Nat) ^ 48 = 281474976710656 from rfl]
      omega
    have hm2 : ¬ (IntKind.i64.max < (rows.length : Int) + (news.length : Int)) := by
      rw [show IntKind.i64.max = 9223372036854775807 from rfl]
      omega
    obtain ⟨z, hz, hzcell⟩ := he.run_zero (w := w.drew)
    have hold : ∀ w', Sat B (G ++ F) w' → (Builtin.firstCells sz rows.length sv).run P w' = .ok rows.flatten.toArray w' := by
      intro w' hS'
      rcases hown.2 with ⟨h1, h2, h3⟩ | ⟨g, c', spare, h1, h2, h3, h4⟩
      · subst h1; subst h2
        simp [Builtin.firstCells]
      · subst h2
        have := run_firstCells (P := P) (size := sz) (n := rows.length) h1 (hS'.here (g, cl (rows.flatten ++ spare) e) (by simp)) (by rw [List.length_append, hrl]; omega)
        rw [this, ← hrl]
        simp
    generalize hq : Question.appendCap (rows.length + news.length) c e = q
    have hfo : q.forced = false := by subst hq; rfl
    have hcut : rows.length + news.length ≤ q.cut (w.tape w.drawn q) := by
      subst hq
      simp only [Question.cut]
      omega
    have hS2 : Sat B (G ++ F) w.drew := hS.drew
    obtain ⟨i3, hi3, his3, hib3⟩ := he.run_info (w := w.drew)
    generalize hnce : q.cut (w.tape w.drawn q) = nc at hcut
    have hrest : (Builtin.zeroCells zc.toArray (nc - (rows.length + news.length))).size = (nc - (rows.length + news.length)) * sz := by
      simp [Builtin.zeroCells, hzc]
    have : (Builtin.append_ #[t, t] ty #[sv, xv]).run P w =
        .ok (.slice (some ⟨w.heap.size, 0, none⟩) (rows.length + news.length) nc) (w.drew.alloc (.cells (rows.flatten.toArray ++ news.flatten.toArray ++ Builtin.zeroCells zc.toArray (nc - (rows.length + news.length))) e)) := by
      unfold Builtin.append_
      clear hle hbytes hmax
      generalize (2:Nat) ^ 48 = M at hb2 ⊢
      generalize IntKind.i64.max = M2 at hm2 ⊢
      have hold2 := hold _ hS2
      have hx2 := hx' _ hS2
      rw [hsv] at hold2
      simp [ht.run_und, he.run_size, hsv, hlen, hcap, hi, hib, hm2, hb2, hq, hfo, hnce, hi3, hold2, hx2, hz, hzcell, newRow]
      simp only [← List.append_toArray, Array.append_assoc]
    simp only [Sem.run_bind, this, Result.andThen_ok, Sem.run_pure, effPost]
    refine ⟨_, ⟨[(w.heap.size, cl ((rows ++ news).flatten ++ (Builtin.zeroCells zc.toArray (nc - (rows.length + news.length))).toList) e)], ⟨hown.1.app hnew, .inr ⟨w.heap.size, nc, _, by simp, rfl, ?_, by simpa using hcut⟩⟩, rfl⟩, ?_⟩
    · have h8 := (hown.1.app hnew).len
      rw [List.length_append] at h8
      have h7 : (Builtin.zeroCells zc.toArray (nc - (rows.length + news.length))).toList.length = _ := Array.length_toList
      rw [h8, h7, hrest, ← Nat.add_mul]
      congr 1
      omega
    · have h9 := hS2.right.alloc (.cells (rows.flatten.toArray ++ news.flatten.toArray ++ Builtin.zeroCells zc.toArray (nc - (rows.length + news.length))) e)
      have e9 : (Obj.cells (rows.flatten.toArray ++ news.flatten.toArray ++ Builtin.zeroCells zc.toArray (nc - (rows.length + news.length))) e) = cl ((rows ++ news).flatten ++ (Builtin.zeroCells zc.toArray (nc - (rows.length + news.length))).toList) e := by
        simp [cl]
      rw [e9] at h9 ⊢
      exact h9
end

section
variable {P : Program} {N : Fi} {B : Base} {Q : Exit → Act → World → Prop} {T : Tm} {A : List Blk} {ops : Array Oper} {l : List Oper}
variable {d : Nat} {ty : TypeId} {pos : String} {af : Array Edge} {m : Md} {gd : Option (Nat × Bool)}

/-- append(s, x..): the source is a row that the text has just built. -/
theorem Ops.app1 {t e sz bs g0 c0 : Nat} {ge : Bool} {zc r : List Value} {x y : Operand} {sv : Value} {rows : List (List Value)} {G A1 F : List Blk} (hown : Own e sz sv rows G) (hbytes : (rows.length + 1 + (rows.length + 1) / 4 + 512) * bs ≤ 281474976710656) (hmax : rows.length + 1 ≤ 9223372036854775807)
    (hm : m.eff = true) (hg : gst ops T gd = some true) [ht : TyD P t (.slice e)] [he : Ty P e ge sz bs zc] (hx : ev T x = some sv) (hy : ev T y = some (.slice (some ⟨g0, 0, none⟩) 1 c0)) [h0 : Pop A g0 (cl r e) A1] [hs : Split A1 G F]
    (hr : r.length = sz) (hone : oneAll r = true) (hzc : zc.length = sz) (hp : Pd P N B ops m T (some d) (AppR e sz rows [r] F)) (hd : Nat.blt d N.n = true)
    (k : ∀ v G', Own e sz v (rows ++ [r]) G' → Ops P N B Q ops m.tl l ((d, v) :: T) (G' ++ F)) :
    Ops P N B Q ops m (⟨some d, .call { callee := .builtin .append, args := #[x, y], argTypes := #[t, t] }, ty, pos, af, gd⟩ :: l) T A := by
  have hperm : A.Perm (G ++ (g0, cl r e) :: F) := h0.perm.trans ((hs.perm.cons _).trans List.perm_middle.symm)
  have hread : ∀ w, Sat B (G ++ (g0, cl r e) :: F) w → (Builtin.firstCells sz 1 (.slice (some ⟨g0, 0, none⟩) 1 c0)).run P w = .ok r.toArray w := fun w hS => by
    have := run_firstCells (P := P) (size := sz) (n := 1) (a := .slice (some ⟨g0, 0, none⟩) 1 c0) rfl (hS.here (g0, cl r e) (by simp)) (by omega)
    rw [this, Nat.one_mul, ← hr, List.take_length]
  refine Ops.effV (R := AppR e sz rows [r] F) hm hp hg hd (fun a w hF hS => ?_) fun v X ⟨G', hG', hX⟩ => ?_
  · have hS' := hS.perm hperm
    have := run_append (P := P) (w := w) (ty := ty) (sv := sv) (xv := .slice (some ⟨g0, 0, none⟩) 1 c0) (news := [r]) ht he hzc hS' hown (RowsOk.one hr hone) (by simp [Builtin.lenOf]) (by simpa using hread w hS') (fun w' h' => by simpa using hread w' h') (by simpa using hbytes) (by simpa using hmax)
    simp only [execOp, resolve, invoke, builtin, Sem.run_bind, Sem.run_pure, Result.andThen_ok, List.map_toArray, List.map_cons, List.map_nil, hF.eval hx, hF.eval hy] at this ⊢
    exact effPost_mono this fun v A' ⟨G', h1, h2⟩ => ⟨G' ++ F, ⟨G', h1, rfl⟩, fun w hS => by
      subst h2
      exact (hS.perm List.perm_middle).tail⟩
  · rw [hX]
    exact k v G' hG'
end
end Go.Sep
