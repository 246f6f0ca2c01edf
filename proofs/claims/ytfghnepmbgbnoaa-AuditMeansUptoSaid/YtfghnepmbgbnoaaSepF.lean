import Derived.Test.YtfghnepmbgbnoaaSepE
/- Three effects that may be drawn. -/
namespace Go.Sep
open Go
def likeB (ops : Array Oper) (info info2 : List DI) (n : Nat) : Bool :=
  canB ops info2 && info2.length == info.length && (info2.map (·.1)).take n == (info.map (·.1)).take n &&
  (info.all fun x => info2.any fun y => alikeB x y) && (info2.all fun x => info.any fun y => alikeB x y)
def readyB (ops : Array Oper) (info : List DI) (n : Nat) (js : List Nat) : Bool :=
  (List.range ops.size).all fun j => ((info.map (·.1)).take n).contains j || js.contains j || (match ops[j]? with
    | some oj => (bdeps oj).any fun z => !((info.map (·.1)).take n).contains z
    | none => true)
section
variable {P : Program} {N : Fi} {B : Base} {Q : Exit → Act → World → Prop} {T : Tm} {A : List Blk}
/-- The other one that is drawn: its order. -/
theorem step_of {l0 : List Oper} {info info2 : List DI} {n : Nat} {i2 : Nat} {pd2 : List Nat} {r2 : List DI} {o2 : Oper} {l2 : List Oper} (hf : likeB l0.toArray info info2 n = true) (hn : n < info.length) (hd2 : (i2, 4, pd2) :: r2 = info2.drop n) (hl2 : picked l0 ((i2, 4, pd2) :: r2) = o2 :: l2)
    (h2 : Ops P N B Q l0.toArray (some (info2, (i2, 3, pd2) :: r2)) (o2 :: l2) T A) :
    ∀ (U : List Lg) (a : Act) (w : World) (listed : Array Bool), (∀ u ∈ U, u.p = true ∨ ldF info u.i = true) → (∀ u ∈ U, u.i ∈ (info.map (·.1)).take n ∧ rdF info u.i = true) → (U.map Lg.i).Nodup →
      Fr N T (puts a U) → Sat B A w → (∀ u ∈ U, Lag P l0.toArray B A (puts a U) u) →
      listed.size = l0.toArray.size → (∀ j, j < l0.toArray.size → (listed.getD j false = true ↔ j ∈ (info.map (·.1)).take n ∧ j ∉ U.map Lg.i)) → Closed l0.toArray listed →
      i2 ∈ Region.ready .any l0.toArray listed → wpOpIn (fen B) 0 P l0.toArray Q i2 (wpAnyIn (fen B) 0 P .any l0.toArray Q (info.length - (n + 1) + U.length) (listed.setIfInBounds i2 true)) a w := by
  intro U a w listed hpl hU hnd hF hS hlag hsz hl hcl hjr
  unfold likeB at hf
  simp only [Bool.and_eq_true, beq_iff_eq] at hf
  obtain ⟨⟨⟨⟨hc2, hlen2⟩, htk⟩, ha1⟩, ha2⟩ := hf
  have erd : rdF info2 = rdF info := funext fun j => Bool.eq_iff_iff.2 ⟨(alike_le ha2 j).1, (alike_le ha1 j).1⟩
  have eld : ldF info2 = ldF info := funext fun j => Bool.eq_iff_iff.2 ⟨(alike_le ha2 j).2, (alike_le ha1 j).2⟩
  have hpk := (picked_map (l := l0) (r := (i2, 4, pd2) :: r2) fun x hx => by
    have h3 : x ∈ info2 := by rw [hd2] at hx; exact List.mem_of_mem_drop hx
    simpa using (canB_parts hc2).2.1 x h3).1
  rw [hl2] at hpk
  have hr2 : r2.length + 1 = info2.length - n := by have := congrArg List.length hd2; simpa using this
  have hll2 : l2.length = r2.length := by have := congrArg List.length hpk; simpa using this
  have hx2 : info2[n]? = some (i2, 4, pd2) := by
    rw [List.drop_eq_getElem_cons (by omega)] at hd2
    injection hd2 with e1 e2
    rw [List.getElem?_eq_getElem (by omega), e1]
  have hi2 : (info2.map (·.1))[n]? = some i2 := by rw [List.getElem?_map, hx2]; rfl
  have s2 : DStep P N B Q l0.toArray (info2.map (·.1)) (rdF info2) (ldF info2) (o2 :: l2) T A := h2 hc2 (by simp [hll2]) (by show (i2, 4, pd2) :: r2 = _; rw [List.length_cons, show info2.length - (r2.length + 1) = n from by omega]; exact hd2) (by simp only [List.length_cons]; omega)
  rw [erd, eld] at s2
  have hk2 : (info2.map (·.1)).length - (o2 :: l2).length = n := by rw [List.length_map, List.length_cons]; omega
  have key := s2 (by rw [List.length_map, List.length_cons]; omega) (by
      rw [hk2, hpk, hd2, List.map_drop]) U a w listed i2 (by rw [hk2]; exact hi2) hpl (by rw [hk2, htk]; exact hU) hnd hF hS hlag hsz (by rw [hk2, htk]; exact hl) hcl hjr
  rw [List.length_cons, Nat.add_sub_cancel, show l2.length = info.length - (n + 1) from by omega] at key
  exact key
theorem Ops.fork3 {l0 : List Oper} {info : List DI} (info2 info3 : List DI) {i i2 i3 : Nat} {pd pd2 pd3 : List Nat} {r r2 r3 : List DI} {o o2 o3 : Oper} {l l2 l3 : List Oper}
    (hf2 : likeB l0.toArray info info2 (info.length - (r.length + 1)) = true) (hf3 : likeB l0.toArray info info3 (info.length - (r.length + 1)) = true) (hrd : readyB l0.toArray info (info.length - (r.length + 1)) [i, i2, i3] = true)
    (hd2 : (i2, 4, pd2) :: r2 = info2.drop (info.length - (r.length + 1))) (hl2 : picked l0 ((i2, 4, pd2) :: r2) = o2 :: l2)
    (hd3 : (i3, 4, pd3) :: r3 = info3.drop (info.length - (r.length + 1))) (hl3 : picked l0 ((i3, 4, pd3) :: r3) = o3 :: l3)
    (h1 : Ops P N B Q l0.toArray (some (info, (i, 3, pd) :: r)) (o :: l) T A) (h2 : Ops P N B Q l0.toArray (some (info2, (i2, 3, pd2) :: r2)) (o2 :: l2) T A) (h3 : Ops P N B Q l0.toArray (some (info3, (i3, 3, pd3) :: r3)) (o3 :: l3) T A) :
    Ops P N B Q l0.toArray (some (info, (i, 4, pd) :: r)) (o :: l) T A := by
  intro hc hlen hdr hle
  rw [(fixR_of (by decide)).2, if_neg (by simp)]
  rw [(fixR_of (by decide)).1] at hdr
  simp only [List.length_cons, Nat.add_right_cancel_iff] at hlen hdr hle
  obtain ⟨hx, hdr'⟩ := info_at hle hdr
  obtain ⟨n, hn⟩ : ∃ n, n = info.length - (r.length + 1) := ⟨_, rfl⟩
  rw [← hn] at hx hdr hrd hd2 hd3 hf2 hf3
  have hlt : n < info.length := by omega
  have hi : (info.map (·.1))[n]? = some i := by rw [List.getElem?_map, hx]; rfl
  unfold readyB at hrd
  simp only [List.all_eq_true, List.mem_range, Bool.or_eq_true, List.contains_eq_mem, decide_eq_true_eq, List.mem_cons, List.not_mem_nil, or_false] at hrd
  have s1 : DStep P N B Q l0.toArray (info.map (·.1)) (rdF info) (ldF info) (o :: l) T A := h1 hc (by simp [hlen]) (by show (i, 4, pd) :: r = _; rw [List.length_cons, ← hn]; exact hdr) (by simp only [List.length_cons]; omega)
  have hkn : n = (info.map (·.1)).length - (l.length + 1) := by rw [List.length_map]; omega
  have hll : info.length - (n + 1) = l.length := by omega
  refine DSem.of_fork (canB_ok hc) hkn hi (by rw [(rdF_at (canB_parts hc).1 hx).1]; rfl) (j2 := fun j => j = i2 ∨ j = i3) (fun j oj hoj hjt hji hj2 => ?_) s1 (fun j hj hji U a w listed hpl hU hnd hF hS hlag hsz hl hcl hjr => ?_)
  · rcases hrd j (Array.getElem?_eq_some_iff.1 hoj).1 with (h | (h | h | h)) | h
    · exact absurd h hjt
    · exact absurd h hji
    · exact absurd (.inl h) hj2
    · exact absurd (.inr h) hj2
    · rw [hoj] at h
      simp only [List.any_eq_true, Bool.not_eq_true', decide_eq_false_iff_not] at h
      exact h
  · rcases hj with rfl | rfl
    · have := step_of hf2 hlt hd2 hl2 h2 U a w listed hpl hU hnd hF hS hlag hsz hl hcl hjr
      rwa [hll] at this
    · have := step_of hf3 hlt hd3 hl3 h3 U a w listed hpl hU hnd hF hS hlag hsz hl hcl hjr
      rwa [hll] at this
end
end Go.Sep
