import Derived.Test.YtfghnepmbgbnoaaSep18
/- Lists of structures with blocks of their own. -/
namespace Go.Sep
open Go

instance (priority := 700) RemL.single {A A' : List Blk} {p : Blk} [h : Rem A p A'] : RemL A [p] A' := ⟨h.perm⟩
theorem flat_out {α β : Type} {f : α → List β} : ∀ {l : List α} {k : Nat} {x : α}, l[k]? = some x → (l.flatMap f).Perm (f x ++ (l.eraseIdx k).flatMap f)
  | [], k, x, h => by simp at h
  | y :: l, 0, x, h => by
    simp only [List.getElem?_cons_zero, Option.some.injEq] at h
    subst h
    simp
  | y :: l, k + 1, x, h => by
    have ih := flat_out (f := f) (l := l) (k := k) (x := x) (by simpa using h)
    simp only [List.flatMap_cons, List.eraseIdx_cons_succ]
    exact (ih.append_left (f y)).trans (List.perm_append_comm_assoc _ _ _)
theorem flat_set {α β : Type} {f : α → List β} {l : List α} {k : Nat} {x : α} (h : k < l.length) : ((l.set k x).flatMap f).Perm (f x ++ (l.eraseIdx k).flatMap f) := by
  have := flat_out (f := f) (l := l.set k x) (k := k) (x := x) (List.getElem?_set_self h)
  rwa [List.eraseIdx_set_eq] at this
theorem perm_of {l1 l2 : List Blk} (h : ∀ (c : List Blk → Nat) (g : Blk → Nat), (∀ x y, c (x ++ y) = c x + c y) → (∀ p x, c (p :: x) = g p + c x) → (∀ x y, x.Perm y → c x = c y) → c [] = 0 → c l1 = c l2) : l1.Perm l2 := by
  haveI : DecidableEq Blk := fun a b => Classical.propDecidable (a = b)
  exact List.perm_iff_count.2 fun a => h (fun l => l.count a) (fun p => if p == a then 1 else 0) (fun x y => List.count_append) (fun p x => by rw [List.count_cons, Nat.add_comm]) (fun x y hp => hp.count_eq a) rfl
/-- A number, counted round. -/
theorem round_in (a : Int) {n : Nat} (hn : 0 < n) : ∃ j : Nat, j < n ∧ ((a.tmod n < 0 ∧ a.tmod n + n = (j : Int)) ∨ (0 ≤ a.tmod n ∧ a.tmod n = (j : Int))) := by
  have := tmod_in a (b := n) (by omega)
  by_cases hneg : a.tmod n < 0
  · exact ⟨(a.tmod n + n).toNat, by omega, .inl ⟨hneg, by omega⟩⟩
  · exact ⟨(a.tmod n).toNat, by omega, .inr ⟨by omega, by omega⟩⟩
theorem Ops.mkF {P : Program} {N : Fi} {B : Base} {Q : Exit → Act → World → Prop} {T : Tm} {A : List Blk} {ops : Array Oper} {l : List Oper} {d : Nat} {ty : TypeId} {pos : String} {af : Array Edge} {m : Md} {gd : Option (Nat × Bool)} {f : Fn} {xs ys : List Operand} {vs us : List Value}
    (hm : m.rd true = true) (hg : gst ops T gd = some true) (hx : evs T xs = some vs) (hy : evs T ys = some us) (hd : Nat.blt d N.n = true) (k : Ops P N B Q ops m.tl l ((d, .func f vs.toArray us.toArray) :: T) A) :
    Ops P N B Q ops m (⟨some d, .makeFunc f xs.toArray ys.toArray, ty, pos, af, gd⟩ :: l) T A :=
  Ops.pureV hm hg hd (fun a w hF => by
    have h1 : (xs.toArray.map a.eval) = vs.toArray := by rw [← hF.evals hx]; simp
    have h2 : (ys.toArray.map a.eval) = us.toArray := by rw [← hF.evals hy]; simp
    simp [execOp, Instr.makeFunc, hF.evals hx, hF.evals hy]) k
theorem mark1 {B : Base} {D : Nat} (h : B.h D = none) : MarksOk B [D] := ⟨h, trivial⟩
theorem mark2 {B : Base} {D D2 : Nat} (h : B.h D = none) (h2 : (B.mark D).h D2 = none) : MarksOk B [D2, D] := ⟨h2, h, trivial⟩
theorem inB {N : Fi} {B : Base} {T : Tm} {A : List Blk} {Q : Exit → Act → World → Prop} {id : Nat} (h : ∀ a w, Fr N T a → Sat B A w → Q .normal a w) : ∀ a w, Fr N T a → Sat B A w → Exit.inBlock id Q .normal a w := h
theorem inBr {N : Fi} {B : Base} {T : Tm} {A : List Blk} {Q : Exit → Act → World → Prop} {id : Nat} (h : ∀ a w, Fr N T a → Sat B A w → Q .ret a w) : ∀ a w, Fr N T a → Sat B A w → Exit.inBlock id Q .ret a w := h
theorem map_set_same {α β : Type} {f : α → β} {l : List α} {j : Nat} {x y : α} (h : l[j]? = some x) (e : f y = f x) : (l.set j y).map f = l.map f := by
  rw [List.map_set, e]
  apply List.ext_getElem?
  intro q
  by_cases hq : j = q
  · subst hq
    have hl := (List.getElem?_eq_some_iff.1 h).1
    rw [List.getElem?_set_self (by simpa using hl), List.getElem?_map, h]; rfl
  · rw [List.getElem?_set_ne hq]
theorem rows_map {α : Type} {sz : Nat} {f : α → List Value} (h : ∀ x, (f x).length = sz ∧ oneAll (f x) = true) (l : List α) : RowsOk sz (l.map f) := fun r hr => by
  obtain ⟨x, _, rfl⟩ := List.mem_map.1 hr
  exact h x
theorem map_at {α β : Type} {f : α → β} {l : List α} {j : Nat} {x : α} (h : l[j]? = some x) : (l.map f)[(j : Int).toNat]? = some (f x) := by
  rw [Int.toNat_natCast, List.getElem?_map, h]; rfl
theorem all_set_of {α : Type} {p : α → Prop} {l : List α} {j : Nat} {y : α} (h : ∀ x ∈ l, p x) (hy : p y) : ∀ x ∈ l.set j y, p x := fun x hx => by
  rcases List.mem_or_eq_of_mem_set hx with hx | hx
  · exact h x hx
  · subst hx; exact hy
end Go.Sep
