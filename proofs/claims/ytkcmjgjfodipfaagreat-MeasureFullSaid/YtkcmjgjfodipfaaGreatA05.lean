import Derived.Test.YtkcmjgjfodipfaaGreatA04
namespace Go.Sep
open Go
/-! A struct's value, built of parts. -/
def placesB (P : Program) (t : TypeId) : Option (List (Nat × Nat)) :=
  match P.underlying t with
  | some (.struct fields) => fields.toList.mapM fun f => (P.info? f.type).map fun i => (f.offset, i.size)
  | _ => none
class Places (P : Program) (t : TypeId) (pl : outParam (List (Nat × Nat))) : Prop where
  eq : placesB P t = some pl
theorem run_places {P : Program} {w : World} : ∀ (fs : List Field) (pl : List (Nat × Nat)), (fs.mapM fun f => (P.info? f.type).map fun i => (f.offset, i.size)) = some pl →
    (fs.mapM (fun f => do pure (f.offset, ← sizeOf f.type)) : Sem (List (Nat × Nat))).run P w = .ok pl w
  | [], pl, h => by simp at h; simp [h]
  | f :: fs, pl, h => by
    cases hi : P.info? f.type with
    | none => simp [List.mapM_cons, hi] at h
    | some i =>
      simp only [List.mapM_cons, hi, Option.map_some, Option.bind_eq_bind, Option.bind_some, Option.bind_eq_some_iff] at h
      obtain ⟨pl', h1, h2⟩ := h
      simp only [Option.pure_def, Option.some.injEq] at h2
      subst h2
      simp [List.mapM_cons, sizeOf, typeInfo, hi]
      have := run_places (P := P) (w := w) fs pl' h1
      simp [sizeOf, typeInfo] at this
      rw [this]
      simp
class PlaceAt (pl : List (Nat × Nat)) (i : Nat) (o n : outParam Nat) : Prop where
  eq : pl[i]? = some (o, n)
instance PlaceAt.z {pl : List (Nat × Nat)} {o n : Nat} : PlaceAt ((o, n) :: pl) 0 o n := ⟨rfl⟩
instance PlaceAt.s {pl : List (Nat × Nat)} {p : Nat × Nat} {i o n : Nat} [h : PlaceAt pl i o n] : PlaceAt (p :: pl) (i + 1) o n := ⟨by simpa using h.eq⟩
class LenIs (l : List Value) (n : outParam Nat) : Prop where
  eq : l.length = n
instance LenIs.z : LenIs [] 0 := ⟨rfl⟩
instance LenIs.s {x : Value} {l : List Value} {n : Nat} [h : LenIs l n] : LenIs (x :: l) (n + 1) := ⟨by simp [h.eq]⟩
class BEqN (m n : Nat) : Prop where
  eq : m = n
instance BEqN.mk' {n : Nat} : BEqN n n := ⟨rfl⟩
class FillC (pl : List (Nat × Nat)) (ps : List (Nat × Value)) (l : List Value) (l' : outParam (List Value)) : Prop where
  eq : Instr.fill (pl.toArray[·]?) l.toArray ps = some l'.toArray
instance FillC.z {pl : List (Nat × Nat)} {l : List Value} : FillC pl [] l l := ⟨rfl⟩
instance FillC.s {pl : List (Nat × Nat)} {i o n m : Nat} {v : Value} {vs l l1 l' : List Value} {ps : List (Nat × Value)} [h1 : PlaceAt pl i o n] [h2 : Cells v vs] [h3 : LenIs vs m] [h4 : SetS l o vs l1] [h5 : FillC pl ps l1 l'] [h6 : BEqN m n] :
    FillC pl ((i, v) :: ps) l l' := ⟨by
  rw [fill_one (off := o) (size := n) (vs := vs) (by simpa using h1.eq) h2.eq (h3.eq.trans h6.eq) (by simpa using h4.eq.2)]
  have e := h4.eq.1
  simp only [ins] at *
  rw [← e]
  exact h5.eq⟩
def evp (T : Tm) : List (Nat × Operand) → Option (List (Nat × Value))
  | [] => some []
  | (i, x) :: xs => match ev T x, evp T xs with
    | some v, some vs => some ((i, v) :: vs)
    | _, _ => none
theorem Fr.evalp {N : Fi} {T : Tm} {a : Act} (h : Fr N T a) : ∀ {xs : List (Nat × Operand)} {vs : List (Nat × Value)}, evp T xs = some vs → xs.map (fun (i, x) => (i, a.eval x)) = vs
  | [], vs, hx => by simp [evp] at hx; simp [hx]
  | (i, x) :: xs, vs, hx => by
    simp only [evp] at hx
    split at hx
    · rename_i v us hv hus
      simp only [Option.some.injEq] at hx
      subst hx
      simp only [List.map_cons, h.eval hv, List.cons.injEq, true_and]
      exact h.evalp hus
    · cases hx
section
variable {P : Program} {N : Fi} {B : Base} {Q : Exit → Act → World → Prop} {T : Tm} {A : List Blk} {ops : Array Oper} {l : List Oper}
variable {d : Nat} {ty : TypeId} {pos : String} {af : Array Edge} {m : Md} {gd : Option (Nat × Bool)}
theorem Ops.bld {t : TypeId} {parts : List (Nat × Operand)} {ps : List (Nat × Value)} {pl : List (Nat × Nat)} {sz bs : Nat} {zc l' : List Value} (hm : m.rd true = true) (hg : gst ops T gd = some true) (hp : evp T parts = some ps) [ht : Ty P t true sz bs zc] [hl : Places P t pl]
    [hf : FillC pl ps zc l'] (hd : Nat.blt d N.n = true) (k : Ops P N B Q ops m.tl l ((d, .agg l'.toArray) :: T) A) :
    Ops P N B Q ops m (⟨some d, .build t parts.toArray, ty, pos, af, gd⟩ :: l) T A :=
  Ops.pureV hm hg hd (fun a w hF => by
    obtain ⟨z, hz, hzc⟩ := ht.run_zero (w := w)
    have h1 := hl.eq
    unfold placesB at h1
    split at h1
    · rename_i fields hu
      have h2 := run_places (P := P) (w := w) fields.toList pl h1
      have h3 : (fields.mapM (fun f => do pure (f.offset, ← sizeOf f.type)) : Sem (Array (Nat × Nat))).run P w = .ok pl.toArray w := by
        rw [Array.mapM_eq_mapM_toList]
        simp only [Sem.run_map, h2, Result.andThen_ok]
      have h4 : (parts.toArray.map fun (i, x) => (i, a.eval x)).toList = ps := by simpa using hF.evalp hp
      simp only [execOp, Instr.build, Sem.run_bind, hz, Result.andThen_ok, run_underlying hu w, h3, h4, hzc, hf.eq]
      simp
    · cases h1) k
end
end Go.Sep
/- Slices that the call owns: rows of so many cells each. -/
namespace Go.Sep
open Go
theorem Sat.split {B : Base} {A A1 : List Blk} {F : List Blk} [h : Split A A1 F] {w : World} (hS : Sat B A w) : Sat B A1 w := (hS.perm h.perm).left
/-- Rows of sz cells each, each cell one. -/
def RowsOk (sz : Nat) (rows : List (List Value)) : Prop := ∀ r ∈ rows, r.length = sz ∧ oneAll r = true
theorem RowsOk.len {sz : Nat} : ∀ {rows : List (List Value)}, RowsOk sz rows → rows.flatten.length = rows.length * sz
  | [], _ => by simp
  | r :: rows, h => by
    have h1 := (h r (List.mem_cons_self ..)).1
    have h2 := RowsOk.len (rows := rows) fun x hx => h x (List.mem_cons_of_mem _ hx)
    simp [h1, h2, Nat.add_mul, Nat.add_comm]
theorem RowsOk.at_ {sz : Nat} : ∀ {rows : List (List Value)}, RowsOk sz rows → ∀ {i k : Nat} {r : List Value}, rows[i]? = some r → k < sz → rows.flatten[i * sz + k]? = r[k]?
  | [], _, i, k, r, hi, _ => by simp at hi
  | x :: rows, h, 0, k, r, hi, hk => by
    simp only [List.getElem?_cons_zero, Option.some.injEq] at hi
    subst hi
    have := (h x (List.mem_cons_self ..)).1
    simp only [List.flatten_cons, Nat.zero_mul, Nat.zero_add]
    rw [List.getElem?_append_left (by omega)]
  | x :: rows, h, i + 1, k, r, hi, hk => by
    have h1 := (h x (List.mem_cons_self ..)).1
    have ih := RowsOk.at_ (rows := rows) (fun y hy => h y (List.mem_cons_of_mem _ hy)) (i := i) (k := k) (r := r) (by simpa using hi) hk
    simp only [List.flatten_cons]
    rw [List.getElem?_append_right (by rw [h1, Nat.add_mul]; omega), h1, show (i + 1) * sz + k - sz = i * sz + k from by rw [Nat.add_mul]; omega]
    exact ih
theorem RowsOk.app {sz : Nat} {a b : List (List Value)} (ha : RowsOk sz a) (hb : RowsOk sz b) : RowsOk sz (a ++ b) := fun r hr => by
  rcases List.mem_append.1 hr with h | h
  · exact ha r h
  · exact hb r h
theorem RowsOk.one {sz : Nat} {r : List Value} (h : r.length = sz) (h1 : oneAll r = true) : RowsOk sz [r] := fun x hx => by
  rw [List.mem_singleton.1 hx]; exact ⟨h, h1⟩
theorem RowsOk.nil {sz : Nat} : RowsOk sz [] := fun _ h => by cases h
/-- The slice value sv has just these rows, and its blocks are G: none where it is nil, else one of its own. -/
def Own (E sz : Nat) (sv : Value) (rows : List (List Value)) (G : List Blk) : Prop :=
  RowsOk sz rows ∧ ((sv = .slice none 0 0 ∧ rows = [] ∧ G = []) ∨
    ∃ g c spare, sv = .slice (some ⟨g, 0, none⟩) rows.length c ∧ G = [(g, cl (rows.flatten ++ spare) E)] ∧ rows.flatten.length + spare.length = c * sz ∧ rows.length ≤ c)
theorem Own.none {E sz : Nat} : Own E sz (.slice none 0 0) [] [] := ⟨RowsOk.nil, .inl ⟨rfl, rfl, rfl⟩⟩
theorem Own.form {E sz : Nat} {sv : Value} {rows : List (List Value)} {G : List Blk} (h : Own E sz sv rows G) : ∃ a c, sv = .slice a rows.length c := by
  rcases h.2 with ⟨rfl, rfl, _⟩ | ⟨g, c, _, rfl, _⟩
  · exact ⟨_, _, rfl⟩
  · exact ⟨_, _, rfl⟩
theorem Own.some_ {E sz : Nat} {sv : Value} {rows : List (List Value)} {G : List Blk} (h : Own E sz sv rows G) (hn : 0 < rows.length) :
    ∃ g c spare, sv = .slice (some ⟨g, 0, .none⟩) rows.length c ∧ G = [(g, cl (rows.flatten ++ spare) E)] ∧ rows.flatten.length + spare.length = c * sz ∧ rows.length ≤ c := by
  rcases h.2 with ⟨_, rfl, _⟩ | h
  · simp at hn
  · exact h
section
variable {P : Program} {N : Fi} {B : Base} {Q : Exit → Act → World → Prop} {T : Tm} {A : List Blk} {ops : Array Oper} {l : List Oper}
variable {d : Nat} {ty : TypeId} {pos : String} {af : Array Edge} {m : Md} {gd : Option (Nat × Bool)}
/-- A row is loaded. -/
theorem Ops.ldRow {t : TypeId} {x : Operand} {b i : Nat} {sz bs : Nat} {zc r : List Value} {rows : List (List Value)} {spare : List Value} {E : TypeId} (hm : m.rd false = true) (hg : gst ops T gd = some true) [ht : Ty P t true sz bs zc]
    (hx : ev T x = some (.pointer (some ⟨b, i * sz, none⟩))) [hb : Has A b (cl (rows.flatten ++ spare) E)] (hr : RowsOk sz rows) (hi : rows[i]? = some r) (hd : Nat.blt d N.n = true)
    (k : Ops P N B Q ops m.tl l ((d, .agg r.toArray) :: T) A) : Ops P N B Q ops m (⟨some d, .load t x, ty, pos, af, gd⟩ :: l) T A :=
  Ops.readV hm hg hd (fun a w hF hS => by
    have hl := (hr r (List.mem_of_getElem? hi)).1
    simp [execOp, hF.eval hx, run_loadAtN ht hl (fun j u hu => by
      have hj : j < sz := by rw [← hl]; exact (List.getElem?_eq_some_iff.1 hu).1
      have h1 := hr.at_ hi hj
      rw [cell_of (hS.here _ hb.mem), List.getElem?_append_left (List.getElem?_eq_some_iff.1 (h1.trans hu)).1, h1, hu])]) k
/-- One cell of a row is loaded. -/
theorem Ops.ldRow1 {t : TypeId} {x : Operand} {b i o : Nat} {sz sz' bs : Nat} {zc r : List Value} {rows : List (List Value)} {spare : List Value} {E : TypeId} {v : Value} (hm : m.rd false = true) (hg : gst ops T gd = some true) [ht : Ty P t false sz' bs zc]
    (hx : ev T x = some (.pointer (some ⟨b, i * sz + o, none⟩))) [hb : Has A b (cl (rows.flatten ++ spare) E)] (hr : RowsOk sz rows) (hi : rows[i]? = some r) (hv : r[o]? = some v) (hd : Nat.blt d N.n = true)
    (k : Ops P N B Q ops m.tl l ((d, v) :: T) A) : Ops P N B Q ops m (⟨some d, .load t x, ty, pos, af, gd⟩ :: l) T A :=
  Ops.readV hm hg hd (fun a w hF hS => by
    have hl := (hr r (List.mem_of_getElem? hi)).1
    have ho : o < sz := by rw [← hl]; exact (List.getElem?_eq_some_iff.1 hv).1
    have h1 := hr.at_ hi ho
    have hc : w.cell? ⟨b, i * sz + o, none⟩ = some v := by
      rw [cell_of (hS.here _ hb.mem), List.getElem?_append_left (List.getElem?_eq_some_iff.1 (h1.trans hv)).1, h1, hv]
    simp [execOp, hF.eval hx, run_loadAt1 ht hc]) k
end
theorem ins_app (a s n : List Value) : ins (a ++ s) a.length n = a ++ n ++ s.drop n.length := by
  simp [ins, List.drop_append]
/-! append -/
section
variable {P : Program} {B : Base}
theorem run_firstCells {w : World} {g size n : Nat} {l : List Value} {E : TypeId} {a : Value} {len cap : Nat} (ha : a = .slice (some ⟨g, 0, none⟩) len cap) (hb : w.heap[g]? = some (cl l E)) (hn : n * size ≤ l.length) :
    (Builtin.firstCells size n a).run P w = .ok (l.take (n * size)).toArray w := by
  subst ha
  simp only [Builtin.firstCells]
  exact run_loadCells (by simp; omega) fun j u hu => by
    have hj : j < n * size := by
      have := (List.getElem?_eq_some_iff.1 hu).1
      simp at this; omega
    rw [List.getElem?_take_of_lt hj] at hu
    rw [cell_of hb]
    simpa using hu
theorem nextcap_le {need c : Nat} (h : c < need) : Builtin.nextslicecap need c ≤ need + need / 4 + 512 := by
  unfold Builtin.nextslicecap
  split
  · omega
  · split
    · omega
    · have hg : ∀ (r c : Nat), c ≤ need + (need + 768) / 4 → Builtin.growBy need r c ≤ need + (need + 768) / 4 := by
        intro r
        induction r with
        | zero => intro c hc; simpa [Builtin.growBy] using hc
        | succ r ih =>
          intro c hc
          simp only [Builtin.growBy]
          split
          · exact hc
          · rename_i hlt
            exact ih _ (by omega)
      have := hg 4 c (by omega)
      omega
theorem effPost_mono {R R' : Value → List Blk → Prop} {r : Result Next} (h : effPost P B R r) (hr : ∀ v A', R v A' → ∃ A'', R' v A'' ∧ ∀ w, Sat B A' w → Sat B A'' w) : effPost P B R' r := by
  cases r with
  | ok n w =>
    cases n <;> simp only [effPost] at h ⊢
    case value v => obtain ⟨A', h1, h2⟩ := h; obtain ⟨A'', h3, h4⟩ := hr _ _ h1; exact ⟨A'', h3, h4 _ h2⟩
    case skip => obtain ⟨A', h1, h2⟩ := h; obtain ⟨A'', h3, h4⟩ := hr _ _ h1; exact ⟨A'', h3, h4 _ h2⟩
    case enter f args => exact h.mono fun e w' ⟨v, A', he, h1, h2⟩ => by obtain ⟨A'', h3, h4⟩ := hr _ _ h1; exact ⟨v, A'', he, h3, h4 _ h2⟩
    case round l f tmps assign body => exact h.mono fun e w' ⟨v, A', he, h1, h2⟩ => by obtain ⟨A'', h3, h4⟩ := hr _ _ h1; exact ⟨v, A'', he, h3, h4 _ h2⟩
  | halt x w => simp only [effPost] at h
theorem _root_.Go.Sep.Sat.tail {p : Blk} {A : List Blk} {w : World} (h : Sat B (p :: A) w) : Sat B A w := Sat.right (A := [p]) h
/-- What append leaves, as far as one may know: the rows, in a block of one's own. -/
def AppR (E sz : Nat) (rows news : List (List Value)) (F : List Blk) : Value → List Blk → Prop :=
  fun v X => ∃ G, Own E sz v (rows ++ news) G ∧ X = G ++ F
/-- append of rows that are read from somewhere. -/
theorem run_append {w : World} {t ty e sz bs : Nat} {ge : Bool} {zc : List Value} (ht : TyD P t (.slice e)) (he : Ty P e ge sz bs zc) (hzc : zc.length = sz)
    {sv xv : Value} {rows news : List (List Value)} {G F : List Blk} (hS : Sat B (G ++ F) w) (hown : Own e sz sv rows G) (hnew : RowsOk sz news)
    (hlen : (Builtin.lenOf xv).run P w = .ok news.length w) (hx : (Builtin.firstCells sz news.length xv).run P w = .ok news.flatten.toArray w) (hx' : ∀ w', Sat B (G ++ F) w' → (Builtin.firstCells sz news.length xv).run P w' = .ok news.flatten.toArray w')
    (hbytes : (rows.length + news.length + (rows.length + news.length) / 4 + 512) * bs ≤ 281474976710656) (hmax : rows.length + news.length ≤ 9223372036854775807) :
    effPost P B (AppR e sz rows news F) ((do pure (Next.value (← Builtin.append_ #[t, t] ty #[sv, xv])) : Sem Next).run P w) := by
  obtain ⟨a, c, hsv⟩ := hown.form
  obtain ⟨i, hi, his, hib⟩ := he.run_info (w := w)
  have hone : ∀ u ∈ news.flatten, u.oneCell' = true := fun u hu => by
    obtain ⟨r, hr, hu⟩ := List.mem_flatten.1 hu
    exact oneAll_mem (hnew r hr).2 u hu
  have hnl := hnew.len
  have hrl := hown.1.len
  by_cases hcap : rows.length + news.length ≤ c
  · rcases hown.2 with ⟨h1, h2, h3⟩ | ⟨g, c', spare, h1, h2, h3, h4⟩
    · subst h2; subst h3
      rw [hsv] at h1
      injection h1 with h1 h1' h1''
      subst h1
      have hn0 : news = [] := List.eq_nil_of_length_eq_zero (by simp at hcap; omega)
      subst hn0
      have hx0 : (Builtin.firstCells sz 0 xv).run P w = .ok #[] w := by simpa using hx
      have : (Builtin.append_ #[t, t] ty #[sv, xv]).run P w = .ok sv w := by
        simp [Builtin.append_, ht.run_und, he.run_size, hsv, h1'', hlen, hx0]
      simp only [Sem.run_bind, this, Result.andThen_ok, Sem.run_pure, effPost]
      exact ⟨F, ⟨[], by rw [hsv]; simpa [h1''] using (Own.none (E := e) (sz := sz)), rfl⟩, by simpa using hS⟩
    · rw [hsv] at h1
      injection h1 with h1 h1' h1''
      subst h1; subst h1''; subst h2
      have hfit : rows.flatten.length + news.flatten.length ≤ (rows.flatten ++ spare).length := by
        rw [List.length_append, h3, hrl, hnl, ← Nat.add_mul]
        exact Nat.mul_le_mul_right _ hcap
      obtain ⟨w', hr, hS'⟩ := run_storeCells (P := P) (A1 := []) (A2 := F) (b := g) (E := e) (off := rows.length * sz) news.flatten 0 (rows.flatten ++ spare) w (by simpa using hS) hone (by rw [← hrl]; omega)
      have : (Builtin.append_ #[t, t] ty #[sv, xv]).run P w = .ok (.slice (some ⟨g, 0, none⟩) (rows.length + news.length) c) w' := by
        simp [Builtin.append_, ht.run_und, he.run_size, hsv, hlen, hcap, hx, add_none, hr]
      simp only [Sem.run_bind, this, Result.andThen_ok, Sem.run_pure, effPost]
      refine ⟨_, ⟨[(g, cl (ins (rows.flatten ++ spare) (rows.length * sz + 0) news.flatten) e)], ⟨hown.1.app hnew, .inr ⟨g, c, spare.drop news.flatten.length, by simp, ?_, ?_, by simpa using hcap⟩⟩, rfl⟩, by simpa using hS'⟩
      · rw [Nat.add_zero, ← hrl, ins_app, List.flatten_append]
      · simp only [List.length_append] at hfit
        simp only [List.flatten_append, List.length_append, List.length_drop]
        omega
  · have hle := nextcap_le (need := rows.length + news.length) (c := c) (by omega)
    have hb2 : ¬ (Builtin.nextslicecap (rows.length + news.length) c * bs > 2 ^ 48) := by
      have := Nat.mul_le_mul_right bs hle
      rw [show (2:Nat) ^ 48 = 281474976710656 from rfl]
      omega
    have hm2 : ¬ (IntKind.i64.max < (rows.length : Int) + (news.length : Int)) := by
      rw [show IntKind.i64.max = 9223372036854775807 from rfl]
      omega
    obtain ⟨z, hz, hzcell⟩ := he.run_zero (w := w.drew)
    have hold : ∀ w', Sat B (G ++ F) w' → (Builtin.firstCells sz rows.length sv).run P w' = .ok rows.flatten.toArray w' := by
      intro w' hS'
      rcases hown.2 with ⟨h1, h2, h3⟩ | ⟨g, c', spare, h1, h2, h3, h4⟩
      · subst h1; subst h2
        simp [Builtin.firstCells]
      · subst h2
        have := run_firstCells (P := P) (size := sz) (n := rows.length) h1 (hS'.here (g, cl (rows.flatten ++ spare) e) (by simp)) (by rw [List.length_append, hrl]; omega)
        rw [this, ← hrl]
        simp
    generalize hq : Question.appendCap (rows.length + news.length) c e = q
    have hfo : q.forced = false := by subst hq; rfl
    have hcut : rows.length + news.length ≤ q.cut (w.tape w.drawn q) := by
      subst hq
      simp only [Question.cut]
      omega
    have hS2 : Sat B (G ++ F) w.drew := hS.drew
    obtain ⟨i3, hi3, his3, hib3⟩ := he.run_info (w := w.drew)
    generalize hnce : q.cut (w.tape w.drawn q) = nc at hcut
    have hrest : (Builtin.zeroCells zc.toArray (nc - (rows.length + news.length))).size = (nc - (rows.length + news.length)) * sz := by
      simp [Builtin.zeroCells, hzc]
    have : (Builtin.append_ #[t, t] ty #[sv, xv]).run P w =
        .ok (.slice (some ⟨w.heap.size, 0, none⟩) (rows.length + news.length) nc) (w.drew.alloc (.cells (rows.flatten.toArray ++ news.flatten.toArray ++ Builtin.zeroCells zc.toArray (nc - (rows.length + news.length))) e)) := by
      unfold Builtin.append_
      clear hle hbytes hmax
      generalize (2:Nat) ^ 48 = M at hb2 ⊢
      generalize IntKind.i64.max = M2 at hm2 ⊢
      have hold2 := hold _ hS2
      have hx2 := hx' _ hS2
      rw [hsv] at hold2
      simp [ht.run_und, he.run_size, hsv, hlen, hcap, hi, hib, hm2, hb2, hq, hfo, hnce, hi3, hold2, hx2, hz, hzcell, newRow]
      simp only [← List.append_toArray, Array.append_assoc]
    simp only [Sem.run_bind, this, Result.andThen_ok, Sem.run_pure, effPost]
    refine ⟨_, ⟨[(w.heap.size, cl ((rows ++ news).flatten ++ (Builtin.zeroCells zc.toArray (nc - (rows.length + news.length))).toList) e)], ⟨hown.1.app hnew, .inr ⟨w.heap.size, nc, _, by simp, rfl, ?_, by simpa using hcut⟩⟩, rfl⟩, ?_⟩
    · have h8 := (hown.1.app hnew).len
      rw [List.length_append] at h8
      have h7 : (Builtin.zeroCells zc.toArray (nc - (rows.length + news.length))).toList.length = _ := Array.length_toList
      rw [h8, h7, hrest, ← Nat.add_mul]
      congr 1
      omega
    · have h9 := hS2.right.alloc (.cells (rows.flatten.toArray ++ news.flatten.toArray ++ Builtin.zeroCells zc.toArray (nc - (rows.length + news.length))) e)
      have e9 : (Obj.cells (rows.flatten.toArray ++ news.flatten.toArray ++ Builtin.zeroCells zc.toArray (nc - (rows.length + news.length))) e) = cl ((rows ++ news).flatten ++ (Builtin.zeroCells zc.toArray (nc - (rows.length + news.length))).toList) e := by
        simp [cl]
      rw [e9] at h9 ⊢
      exact h9
end
section
variable {P : Program} {N : Fi} {B : Base} {Q : Exit → Act → World → Prop} {T : Tm} {A : List Blk} {ops : Array Oper} {l : List Oper}
variable {d : Nat} {ty : TypeId} {pos : String} {af : Array Edge} {m : Md} {gd : Option (Nat × Bool)}
/-- append(s, x..): the source is a row that the text has just built. -/
theorem Ops.app1 {t e sz bs g0 c0 : Nat} {ge : Bool} {zc r : List Value} {x y : Operand} {sv : Value} {rows : List (List Value)} {G A1 F : List Blk} (hown : Own e sz sv rows G) (hbytes : (rows.length + 1 + (rows.length + 1) / 4 + 512) * bs ≤ 281474976710656) (hmax : rows.length + 1 ≤ 9223372036854775807)
    (hm : m.eff = true) (hg : gst ops T gd = some true) [ht : TyD P t (.slice e)] [he : Ty P e ge sz bs zc] (hx : ev T x = some sv) (hy : ev T y = some (.slice (some ⟨g0, 0, none⟩) 1 c0)) [h0 : Pop A g0 (cl r e) A1] [hs : Split A1 G F]
    (hr : r.length = sz) (hone : oneAll r = true) (hzc : zc.length = sz) (hp : Pd P N B ops m T (some d) (AppR e sz rows [r] F)) (hd : Nat.blt d N.n = true)
    (k : ∀ v G', Own e sz v (rows ++ [r]) G' → Ops P N B Q ops m.tl l ((d, v) :: T) (G' ++ F)) :
    Ops P N B Q ops m (⟨some d, .call { callee := .builtin .append, args := #[x, y], argTypes := #[t, t] }, ty, pos, af, gd⟩ :: l) T A := by
  have hperm : A.Perm (G ++ (g0, cl r e) :: F) := h0.perm.trans ((hs.perm.cons _).trans List.perm_middle.symm)
  have hread : ∀ w, Sat B (G ++ (g0, cl r e) :: F) w → (Builtin.firstCells sz 1 (.slice (some ⟨g0, 0, none⟩) 1 c0)).run P w = .ok r.toArray w := fun w hS => by
    have := run_firstCells (P := P) (size := sz) (n := 1) (a := .slice (some ⟨g0, 0, none⟩) 1 c0) rfl (hS.here (g0, cl r e) (by simp)) (by omega)
    rw [this, Nat.one_mul, ← hr, List.take_length]
  refine Ops.effV (R := AppR e sz rows [r] F) hm hp hg hd (fun a w hF hS => ?_) fun v X ⟨G', hG', hX⟩ => ?_
  · have hS' := hS.perm hperm
    have := run_append (P := P) (w := w) (ty := ty) (sv := sv) (xv := .slice (some ⟨g0, 0, none⟩) 1 c0) (news := [r]) ht he hzc hS' hown (RowsOk.one hr hone) (by simp [Builtin.lenOf]) (by simpa using hread w hS') (fun w' h' => by simpa using hread w' h') (by simpa using hbytes) (by simpa using hmax)
    simp only [execOp, resolve, invoke, builtin, Sem.run_bind, Sem.run_pure, Result.andThen_ok, List.map_toArray, List.map_cons, List.map_nil, hF.eval hx, hF.eval hy] at this ⊢
    exact effPost_mono this fun v A' ⟨G', h1, h2⟩ => ⟨G' ++ F, ⟨G', h1, rfl⟩, fun w hS => by
      subst h2
      exact (hS.perm List.perm_middle).tail⟩
  · rw [hX]
    exact k v G' hG'
end
end Go.Sep
/- Slices of slices; append within one block; clear; append of another slice's rows. -/
namespace Go.Sep
open Go
/-- Where x[l:] begins, x over block g from its head with so much room. -/
def slA (g cap l sz : Nat) : Addr := if cap = l then ⟨g, 0, none⟩ else ⟨g, l * sz, none⟩
theorem slA_eq {g cap l sz : Nat} : (if cap = l then some (⟨g, 0, none⟩ : Addr) else some ((⟨g, 0, none⟩ : Addr).add (l * sz))) = some (slA g cap l sz) := by
  unfold slA; split
  · rfl
  · simp [add_none]
theorem run_bound {P : Program} {w : World} {k : IntKind} {i : Int} {y : Nat} {code : BoundsCode} (h0 : 0 ≤ i) (h1 : i ≤ y) : (Instr.sliceBound (.int k i) y code).run P w = .ok i.toNat w := by
  simp [Instr.sliceBound, asIntOf, h0, h1]
section
variable {P : Program} {N : Fi} {B : Base} {Q : Exit → Act → World → Prop} {T : Tm} {A : List Blk} {ops : Array Oper} {l : List Oper}
variable {d : Nat} {ty : TypeId} {pos : String} {af : Array Edge} {m : Md} {gd : Option (Nat × Bool)}
theorem Ops.slLo {t e : TypeId} {ge : Bool} {x y : Operand} {sz bs g n c : Nat} {zc : List Value} {k' : IntKind} {i : Int} (hm : m.rd true = true) (hg : gst ops T gd = some true) [ht : TyD P t (.slice e)] [he : Ty P e ge sz bs zc]
    (hx : ev T x = some (.slice (some ⟨g, 0, none⟩) n c)) (hy : ev T y = some (.int k' i)) (h0 : 0 ≤ i) (h1 : i ≤ n) (hd : Nat.blt d N.n = true)
    (k : Ops P N B Q ops m.tl l ((d, .slice (some (slA g c i.toNat sz)) (n - i.toNat) (c - i.toNat)) :: T) A) : Ops P N B Q ops m (⟨some d, .slice t x (some y) none none, ty, pos, af, gd⟩ :: l) T A :=
  Ops.pureV hm hg hd (fun a w hF => by
    have := slA_eq (g := g) (cap := c) (l := i.toNat) (sz := sz)
    simp only [execOp, hF.eval hx, hF.eval hy, Option.map_some, Option.map_none, Instr.sliceAt, Instr.slice, ht.run_und, Instr.sliceBounds, run_bound h0 h1, he.run_size, Sem.run_bind, Sem.run_pure, Result.andThen_ok, Option.isSome_none, Bool.false_eq_true, if_false, this]) k
theorem Ops.slHi {t e : TypeId} {ge : Bool} {x y : Operand} {sz bs n c : Nat} {a0 : Option Addr} {zc : List Value} {k' : IntKind} {i : Int} (hm : m.rd true = true) (hg : gst ops T gd = some true) [ht : TyD P t (.slice e)] [he : Ty P e ge sz bs zc]
    (hx : ev T x = some (.slice a0 n c)) (hy : ev T y = some (.int k' i)) (h0 : 0 ≤ i) (h1 : i ≤ c) (hd : Nat.blt d N.n = true)
    (k : Ops P N B Q ops m.tl l ((d, .slice a0 i.toNat c) :: T) A) : Ops P N B Q ops m (⟨some d, .slice t x none (some y) none, ty, pos, af, gd⟩ :: l) T A :=
  Ops.pureV hm hg hd (fun a w hF => by
    have e0 : (if c = 0 then a0 else a0.map (·.add (0 * sz))) = a0 := by
      split
      · rfl
      · cases a0 <;> simp [Addr.add]
    simp only [execOp, hF.eval hx, hF.eval hy, Option.map_some, Option.map_none, Instr.sliceAt, Instr.slice, ht.run_und, Instr.sliceBounds, if_true, run_bound h0 h1, he.run_size, Sem.run_bind, Sem.run_pure, Result.andThen_ok, e0, Nat.sub_zero]) k
/-- A slice against nil. -/
theorem run_eqGuard_slice {P : Program} {op : BinOp} {t : TypeId} {xo yo : Operand} {a b : Option Addr} {n c n' c' : Nat} {w : World} : (eqGuard op t xo yo (.slice a n c) (.slice b n' c')).run P w = .ok () w := by
  unfold eqGuard; cases op <;> rfl
/-- clear(x[i:j]). -/
theorem Ops.clr {t e sz bs g c i k' cc : Nat} {ge : Bool} {zc L : List Value} {x : Operand} {A' : List Blk} (hm : m.eff = true) (hg : gst ops T gd = some true) [ht : TyD P t (.slice e)] [he : Ty P e ge sz bs zc]
    (hx : ev T x = some (.slice (some (slA g c i sz)) k' cc)) (hL : L.length = c * sz) (hik : i + k' ≤ c) (hk0 : 0 < k') (hzc : zc.length = sz) (hone : oneAll zc = true)
    [_hb : Has A g (cl L e)] [hu : Upd A g (cl L e) (cl (ins L (i * sz) (List.replicate k' zc).flatten) e) A'] (hp : Pd P N B ops m T none (fun _ X => X = A'))
    (k : Ops P N B Q ops m.tl l T A') :
    Ops P N B Q ops m (⟨none, .call { callee := .builtin .clear, args := #[x], argTypes := #[t] }, ty, pos, af, gd⟩ :: l) T A :=
  Ops.effU hm hp hg (fun a w hF hS => by
    obtain ⟨A1, A2, rfl, rfl⟩ := hu.put
    have hz : (Builtin.zeroCells zc.toArray k').toList = (List.replicate k' zc).flatten := by
      apply List.ext_getElem?
      intro q
      have hlen : (List.replicate k' zc).flatten.length = k' * sz := by simp [hzc]
      rcases Nat.lt_or_ge q (k' * sz) with hq | hq
      · have h1 : RowsOk sz (List.replicate k' zc) := fun r hr => by rw [List.eq_of_mem_replicate hr]; exact ⟨hzc, hone⟩
        have hsz : 0 < sz := by
          rcases Nat.eq_zero_or_pos sz with h | h
          · subst h; omega
          · exact h
        have hdiv : q / sz < k' := (Nat.div_lt_iff_lt_mul hsz).2 hq
        have hmod : q % sz < sz := Nat.mod_lt _ hsz
        have h2 := h1.at_ (i := q / sz) (k := q % sz) (r := zc) (by simp [hdiv]) hmod
        rw [show q / sz * sz + q % sz = q from by rw [Nat.mul_comm]; exact Nat.div_add_mod q sz] at h2
        rw [h2]
        simp [Builtin.zeroCells, hzc, hq, hmod]
      · have hzl : (Builtin.zeroCells zc.toArray k').toList.length = k' * sz := by unfold Builtin.zeroCells; simp [hzc]
        rw [List.getElem?_eq_none (by omega), List.getElem?_eq_none (by omega)]
    have hone' : ∀ u ∈ (List.replicate k' zc).flatten, u.oneCell' = true := fun u hu => by
      obtain ⟨r, hr, hu⟩ := List.mem_flatten.1 hu
      rw [List.eq_of_mem_replicate hr] at hu
      exact oneAll_mem hone u hu
    have hci : c ≠ i := by omega
    have hle2 : i * sz + k' * sz ≤ c * sz := by rw [← Nat.add_mul]; exact Nat.mul_le_mul_right _ hik
    obtain ⟨w', hr, hS'⟩ := run_storeCells (P := P) (off := i * sz) (List.replicate k' zc).flatten 0 L w hS hone' (by simp [hzc]; omega)
    obtain ⟨z, hzr, hzz⟩ := he.run_zero (w := w)
    have h2 : (Builtin.clear_ #[t] ty #[.slice (some (slA g c i sz)) k' cc]).run P w = .ok (.tuple #[]) w' := by
      unfold slA
      rw [if_neg hci]
      obtain ⟨k2, rfl⟩ : ∃ k2, k' = k2 + 1 := ⟨k' - 1, by omega⟩
      simp [Builtin.clear_, ht.run_und, hzr, hzz, hz, hr]
    simp only [execOp, resolve, invoke, builtin, Sem.run_bind, Sem.run_pure, Result.andThen_ok, List.map_toArray, List.map_cons, List.map_nil, hF.eval hx, h2, effPost]
    exact ⟨_, rfl, by simpa using hS'⟩) fun v X hX => by rw [hX]; exact k
end
section
variable {P : Program} {t : TypeId}
theorem run_eql {x y : Value} {b : Bool} {w : World} (hb : binOp .eql t x y = (do pure (.bool (← Op.equal t x y)))) (h : ∀ d : Nat, (Op.equalIn (d + 1) t x y).run P w = .ok b w) : (binOp .eql t x y).run P w = .ok (.bool b) w := by
  have h9 : (Op.equal t x y).run P w = .ok b w := h 9999
  rw [hb, Sem.run_bind, h9]; rfl
theorem run_neq {x y : Value} {b : Bool} {w : World} (hb : binOp .neq t x y = (do pure (.bool (!(← Op.equal t x y))))) (h : ∀ d : Nat, (Op.equalIn (d + 1) t x y).run P w = .ok b w) : (binOp .neq t x y).run P w = .ok (.bool (!b)) w := by
  have h9 : (Op.equal t x y).run P w = .ok b w := h 9999
  rw [hb, Sem.run_bind, h9]; rfl
theorem eqIn_slNil {e : TypeId} [h : TyD P t (.slice e)] {a : Option Addr} {n c n' c' : Nat} {w : World} (d : Nat) : (Op.equalIn (d + 1) t (.slice a n c) (.slice none n' c')).run P w = .ok a.isNone w := by
  cases a <;> simp [Op.equalIn, h.run_und]
theorem eqIn_ptrNil {e : TypeId} [h : TyD P t (.pointer e)] {a : Option Addr} {w : World} (d : Nat) : (Op.equalIn (d + 1) t (.pointer a) (.pointer none)).run P w = .ok a.isNone w := by
  cases a <;> simp [Op.equalIn, h.run_und]
instance BinRun.eqSlNilL {e : TypeId} [h : TyD P t (.slice e)] {a : Option Addr} {n c n' c' : Nat} : BinRun P .eql t (.slice a n c) (.slice none n' c') (.bool a.isNone) := ⟨fun xo yo w => by
  rw [Sem.run_bind, run_eqGuard_slice, Result.andThen_ok]
  exact run_eql rfl fun d => eqIn_slNil d⟩
theorem run_eqGuard_ptr {op : BinOp} {xo yo : Operand} {a b : Option Addr} {w : World} : (eqGuard op t xo yo (.pointer a) (.pointer b)).run P w = .ok () w := by
  unfold eqGuard; cases op <;> rfl
instance BinRun.eqPtrNil {e : TypeId} [h : TyD P t (.pointer e)] {a : Option Addr} : BinRun P .eql t (.pointer a) (.pointer none) (.bool a.isNone) := ⟨fun xo yo w => by
  rw [Sem.run_bind, run_eqGuard_ptr, Result.andThen_ok]
  exact run_eql (by cases a <;> rfl) fun d => eqIn_ptrNil d⟩
instance BinRun.nePtrNil {e : TypeId} [h : TyD P t (.pointer e)] {a : Option Addr} : BinRun P .neq t (.pointer a) (.pointer none) (.bool (!a.isNone)) := ⟨fun xo yo w => by
  rw [Sem.run_bind, run_eqGuard_ptr, Result.andThen_ok]
  exact run_neq (by cases a <;> rfl) fun d => eqIn_ptrNil d⟩
end
end Go.Sep
