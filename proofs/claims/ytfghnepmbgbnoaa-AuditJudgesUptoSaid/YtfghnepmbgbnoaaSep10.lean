import Derived.Test.YtfghnepmbgbnoaaSep9
/- append of what another slice holds. -/
namespace Go.Sep
open Go

/-- In every world of these blocks the slice yv holds just these rows. -/
def Reads (P : Program) (B : Base) (A : List Blk) (sz : Nat) (yv : Value) (news : List (List Value)) : Prop :=
  RowsOk sz news ∧ (∃ a c, yv = .slice a news.length c) ∧ ∀ w, Sat B A w → (Builtin.firstCells sz news.length yv).run P w = .ok news.flatten.toArray w

theorem Own.empty {e sz b : Nat} : Own e sz (.slice (some ⟨b, 0, .none⟩) 0 0) [] [(b, cl [] e)] := ⟨RowsOk.nil, .inr ⟨b, 0, [], rfl, rfl, by simp, Nat.le_refl _⟩⟩

section
variable {P : Program} {N : Fi} {B : Base} {Q : Exit → Act → World → Prop} {T : Tm} {A : List Blk} {ops : Array Oper} {l : List Oper}
variable {d : Nat} {ty : TypeId} {pos : String} {af : Array Edge} {m : Md} {gd : Option (Nat × Bool)}

theorem Reads.none {sz : Nat} {a : Option Addr} {c : Nat} : Reads P B A sz (.slice a 0 c) [] := by
  refine ⟨RowsOk.nil, ⟨a, c, rfl⟩, fun w _ => ?_⟩
  cases a with
  | none => simp [Builtin.firstCells]
  | some x => simp [Builtin.firstCells, loadCells, loadCellsFrom]

theorem Reads.own {e sz : Nat} {yv : Value} {rows : List (List Value)} {G F : List Blk} [hs : Split A G F] (h : Own e sz yv rows G) : Reads P B A sz yv rows := by
  refine ⟨h.1, ?_, fun w hS => ?_⟩
  · obtain ⟨a, c, e⟩ := h.form; exact ⟨a, c, e⟩
  have hS' := hS.perm hs.perm
  rcases h.2 with ⟨h1, h2, h3⟩ | ⟨g, c', spare, h1, h2, h3, h4⟩
  · subst h1; subst h2
    simp [Builtin.firstCells]
  · subst h2
    have hrl := h.1.len
    have := run_firstCells (P := P) (size := sz) (n := rows.length) h1 (hS'.here (g, cl (rows.flatten ++ spare) e) (by simp)) (by rw [List.length_append, hrl]; omega)
    rw [this, ← hrl]
    simp

theorem Reads.at_ {e sz g off i k c : Nat} {rows : List (List Value)} {spare : List Value} [hb : Has A g (cl (rows.flatten ++ spare) e)] (hr : RowsOk sz rows) (ho : off = i * sz) (hk : i + k ≤ rows.length) :
    Reads P B A sz (.slice (some ⟨g, off, .none⟩) k c) ((rows.drop i).take k) := by
  subst ho
  have hl : ((rows.drop i).take k).length = k := by simp; omega
  have hn : RowsOk sz ((rows.drop i).take k) := fun r h => hr r (List.mem_of_mem_drop (List.mem_of_mem_take h))
  refine ⟨hn, ⟨some ⟨g, i * sz, .none⟩, c, by rw [hl]⟩, fun w hS => ?_⟩
  have hc := hS.here _ hb.mem
  have hf := hn.len
  rw [hl] at hf ⊢
  simp only [Builtin.firstCells]
  refine run_loadCells hf fun j u hu => ?_
  have hj : j < k * sz := by rw [← hf]; exact (List.getElem?_eq_some_iff.1 hu).1
  have e1 : rows.flatten = (rows.take i).flatten ++ (((rows.drop i).take k).flatten ++ ((rows.drop i).drop k).flatten) := by
    rw [← List.flatten_append, ← List.flatten_append, List.take_append_drop, List.take_append_drop]
  have h1 : (rows.take i).flatten.length = i * sz := by
    have : RowsOk sz (rows.take i) := fun r h => hr r (List.mem_of_mem_take h)
    rw [this.len, List.length_take, Nat.min_eq_left (by omega)]
  rw [cell_of hc, e1, List.append_assoc, List.getElem?_append_right (by omega), h1, List.append_assoc, List.getElem?_append_left (by rw [hf]; omega), show i * sz + j - i * sz = j from by omega]
  exact hu

/-- append of the rows of another slice. -/
theorem Ops.appS {t e sz bs : Nat} {ge : Bool} {zc : List Value} {x y : Operand} {sv yv : Value} {rows news : List (List Value)} {G F : List Blk} (hown : Own e sz sv rows G) (hrd : Reads P B A sz yv news) (hbytes : (rows.length + news.length + (rows.length + news.length) / 4 + 512) * bs ≤ 281474976710656) (hmax : rows.length + news.length ≤ 9223372036854775807)
    (hm : m.eff = true) (hg : gst ops T gd = some true) [ht : TyD P t (.slice e)] [he : Ty P e ge sz bs zc] (hx : ev T x = some sv) (hy : ev T y = some yv) [hs : Split A G F]
    (hzc : zc.length = sz) (hp : Pd P N B ops m T (some d) (AppR e sz rows news F)) (hd : Nat.blt d N.n = true)
    (k : ∀ v G', Own e sz v (rows ++ news) G' → Ops P N B Q ops m.tl l ((d, v) :: T) (G' ++ F)) :
    Ops P N B Q ops m (⟨some d, .call { callee := .builtin .append, args := #[x, y], argTypes := #[t, t] }, ty, pos, af, gd⟩ :: l) T A := by
  obtain ⟨hnew, ⟨ya, yc, rfl⟩, hread⟩ := hrd
  refine Ops.effV (R := AppR e sz rows news F) hm hp hg hd (fun a w hF hS => ?_) fun v X ⟨G', hG', hX⟩ => ?_
  · have hS' := hS.perm hs.perm
    have := run_append (P := P) (w := w) (ty := ty) (sv := sv) (xv := .slice ya news.length yc) (news := news) ht he hzc hS' hown hnew (by simp [Builtin.lenOf]) (hread w hS) (fun w' h' => hread w' (h'.perm hs.perm.symm)) hbytes hmax
    simp only [execOp, resolve, invoke, builtin, Sem.run_bind, Sem.run_pure, Result.andThen_ok, List.map_toArray, List.map_cons, List.map_nil, hF.eval hx, hF.eval hy] at this ⊢
    exact this
  · subst hX
    exact k v G' hG'
end
end Go.Sep
