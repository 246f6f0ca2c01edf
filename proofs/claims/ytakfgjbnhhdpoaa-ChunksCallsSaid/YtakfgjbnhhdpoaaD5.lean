import Derived.Test.YtakfgjbnhhdpoaaD2
import Derived.Test.YtakfgjbnhhdpoaaD4
namespace Go.Proofs.Ytakfgjbnhhdpoaa
open Go Go.Sep Go.Proofs
set_option maxRecDepth 10000
set_option maxHeartbeats 1000000
set_option synthInstance.maxSize 2000
set_option linter.unusedSimpArgs false
set_option linter.unusedVariables false

theorem flat_out {α β : Type} {f : α → List β} : ∀ {l : List α} {k : Nat} {x : α}, l[k]? = some x → (l.flatMap f).Perm (f x ++ (l.eraseIdx k).flatMap f)
  | [], k, x, h => by simp at h
  | y :: l, 0, x, h => by
    simp only [List.getElem?_cons_zero, Option.some.injEq] at h
    subst h
    simp
  | y :: l, k + 1, x, h => by
    have ih := flat_out (f := f) (l := l) (k := k) (x := x) (by simpa using h)
    simp only [List.flatMap_cons, List.eraseIdx_cons_succ]
    exact (ih.append_left (f y)).trans (List.perm_append_comm_assoc _ _ _)
theorem flat_set {α β : Type} {f : α → List β} {l : List α} {k : Nat} {x : α} (h : k < l.length) : ((l.set k x).flatMap f).Perm (f x ++ (l.eraseIdx k).flatMap f) := by
  have := flat_out (f := f) (l := l.set k x) (k := k) (x := x) (List.getElem?_set_self h)
  rwa [List.eraseIdx_set_eq] at this

theorem perm_of {l1 l2 : List Blk} (h : ∀ (c : List Blk → Nat) (g : Blk → Nat), (∀ x y, c (x ++ y) = c x + c y) → (∀ p x, c (p :: x) = g p + c x) → (∀ x y, x.Perm y → c x = c y) → c [] = 0 → c l1 = c l2) : l1.Perm l2 := by
  haveI : DecidableEq Blk := fun a b => Classical.propDecidable (a = b)
  exact List.perm_iff_count.2 fun a => h (fun l => l.count a) (fun p => if p == a then 1 else 0) (fun x y => List.count_append) (fun p x => by rw [List.count_cons, Nat.add_comm]) (fun x y hp => hp.count_eq a) rfl

/-- A sender and the document's, side by side. -/
structure It where
  n : Nat
  sv : Value
  G : List Blk
  m : Nat
  rv : Value
  L : List ByteArray
  a : Nat
  said : Nat
  tm : Nat
def It.blk (W R : Nat) (i : It) : List Blk := SdX i.n i.sv i.a W R i.said i.tm i.G [(i.m, cl [.int .i64 W, .int .i64 R, i.rv, .int .i64 i.a, .int .i64 i.said, .int .i64 i.tm] 46)]
theorem It.blk_eq (W R : Nat) (i : It) : It.blk W R i = SdX i.n i.sv i.a W R i.said i.tm i.G [(i.m, cl [.int .i64 W, .int .i64 R, i.rv, .int .i64 i.a, .int .i64 i.said, .int .i64 i.tm] 46)] := rfl
/-- The document's texts lie in blocks that nobody writes. -/
def InP (pool : List Blk) (rv : Value) (L : List ByteArray) : Prop := ∃ GL P', OwnT rv L GL ∧ pool.Perm (GL ++ P')
def ItOk (R : Nat) (pool : List Blk) (i : It) : Prop := OwnT i.sv i.L i.G ∧ InP pool i.rv i.L ∧ i.a ≤ i.said ∧ i.said ≤ i.L.length ∧ i.L.length ≤ 32 ∧ i.tm ≤ R
theorem InP.more {pool : List Blk} {rv : Value} {L : List ByteArray} (h : InP pool rv L) (N : List Blk) : InP (N ++ pool) rv L := by
  obtain ⟨GL, P', hO, hp⟩ := h
  exact ⟨GL, N ++ P', hO, (hp.append_left N).trans (List.perm_append_comm_assoc _ _ _)⟩
theorem ItOk.more {R : Nat} {pool : List Blk} {i : It} (h : ItOk R pool i) (N : List Blk) : ItOk R (N ++ pool) i := ⟨h.1, h.2.1.more N, h.2.2⟩

def ptrsN (its : List It) : List (List Value) := its.map fun i => [ptr i.n]
def ptrsM (its : List It) : List (List Value) := its.map fun i => [ptr i.m]
theorem ptrsN_ok (its : List It) : RowsOk 1 (ptrsN its) := fun r hr => by
  obtain ⟨d, _, rfl⟩ := List.mem_map.1 hr
  exact ⟨rfl, rfl⟩
theorem ptrsM_ok (its : List It) : RowsOk 1 (ptrsM its) := fun r hr => by
  obtain ⟨d, _, rfl⟩ := List.mem_map.1 hr
  exact ⟨rfl, rfl⟩

structure CC where
  k : Nat
  its : List It
  pool : List Blk
  lv : Value
  LG : List Blk
  qv : Value
  QG : List Blk
def CCI (len R : Nat) (s : CC) : Prop := s.k ≤ len ∧ 0 < s.its.length ∧ s.its.length ≤ s.k + 1 ∧ Own 23 1 s.lv (ptrsN s.its) s.LG ∧ Own 40 1 s.qv (ptrsM s.its) s.QG ∧ ∀ i ∈ s.its, ItOk R s.pool i
@[reducible] def CCB (W R : Nat) (s : CC) : List Blk := s.its.flatMap (It.blk W R) ++ (s.pool ++ (s.LG ++ s.QG))

/-- One pair is taken out. -/
theorem cc_out {W R : Nat} {its : List It} {pool LG QG GL P' : List Blk} {j : Nat} {i : It} (hj : its[j]? = some i) (hp : pool.Perm (GL ++ P')) :
    (its.flatMap (It.blk W R) ++ (pool ++ (LG ++ QG))).Perm (SdX i.n i.sv i.a W R i.said i.tm i.G (RfX i.m i.rv i.a W R i.said i.tm GL (LG ++ (QG ++ ((its.eraseIdx j).flatMap (It.blk W R) ++ P'))))) := by
  refine perm_of fun c g ha hc hp' h0 => ?_
  have h1 := hp' _ _ (flat_out (f := It.blk W R) hj)
  have h2 := hp' _ _ hp
  have h3 := congrArg c (It.blk_eq W R i)
  simp only [SdX, RfX, ha, hc, h0] at h1 h2 h3 ⊢
  omega
/-- And put back. -/
theorem cc_in {W R : Nat} {its : List It} {pool LG QG GL N P' : List Blk} {j : Nat} {i : It} (hj : j < its.length) (hp : pool.Perm (GL ++ P')) :
    (SdX i.n i.sv i.a W R i.said i.tm i.G (RfX i.m i.rv i.a W R i.said i.tm N (GL ++ (LG ++ (QG ++ ((its.eraseIdx j).flatMap (It.blk W R) ++ P')))))).Perm ((its.set j i).flatMap (It.blk W R) ++ ((N ++ pool) ++ (LG ++ QG))) := by
  refine perm_of fun c g ha hc hp' h0 => ?_
  have h1 := hp' _ _ (flat_set (f := It.blk W R) (x := i) hj)
  have h2 := hp' _ _ hp
  have h3 := congrArg c (It.blk_eq W R i)
  simp only [SdX, RfX, ha, hc, h0] at h1 h2 h3 ⊢
  omega
/-- A pair more. -/
theorem cc_more {W R : Nat} {its : List It} {pool LG QG GL P' : List Blk} {j : Nat} {i i2 : It} (hj : its[j]? = some i) (hp : pool.Perm (GL ++ P')) :
    (SdX i.n i.sv i.a W R i.said i.tm i.G (RfX i.m i.rv i.a W R i.said i.tm GL (SdX i2.n i2.sv i2.a W R i2.said i2.tm i2.G (RfX i2.m i2.rv i2.a W R i2.said i2.tm [] (LG ++ (QG ++ ((its.eraseIdx j).flatMap (It.blk W R) ++ P'))))))).Perm ((its ++ [i2]).flatMap (It.blk W R) ++ (pool ++ (LG ++ QG))) := by
  refine perm_of fun c g ha hc hp' h0 => ?_
  have h1 := hp' _ _ (flat_out (f := It.blk W R) hj)
  have h2 := hp' _ _ hp
  have h3 := congrArg c (It.blk_eq W R i)
  have h4 := congrArg c (It.blk_eq W R i2)
  simp only [SdX, RfX, ha, hc, List.flatMap_append, List.flatMap_cons, List.flatMap_nil, h0] at h1 h2 h3 h4 ⊢
  omega
end Go.Proofs.Ytakfgjbnhhdpoaa
