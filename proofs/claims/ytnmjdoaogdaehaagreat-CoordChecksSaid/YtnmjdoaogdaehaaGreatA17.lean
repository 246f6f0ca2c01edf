import Derived.Test.YtnmjdoaogdaehaaGreatA13
import Derived.Test.YtnmjdoaogdaehaaGreatA11
import Derived.Test.YtnmjdoaogdaehaaGreatA15
import Derived.Test.YtnmjdoaogdaehaaGreatA16
/- A text that is read out of a block later. -/
namespace Go.Sep
open Go
section
variable {P : Program} {N : Fi} {B : Base} {Q : Exit → Act → World → Prop} {T : Tm} {A : List Blk} {ops : Array Oper} {l : List Oper}
variable {d : Nat} {ty : TypeId} {pos : String} {af : Array Edge} {m : Md} {gd : Option (Nat × Bool)}
theorem Still.cvSp {i dd : Nat} {s t e : TypeId} {x : Operand} {b o n c : Nat} {bs : ByteArray} {L : List Value} {E : TypeId} (ho : ops[i]? = some ⟨some dd, .convert s t x, ty, pos, af, gd⟩) (hg : gst ops T gd = some true) [hs : TyD P s (.slice e)] [he : TyD P e (.int .u8)] [ht : TyD P t .string] (hx : ev T x = some (.slice (some ⟨b, o, none⟩) n c)) [hb : Has A b (cl L E)]
    (hn : bs.size = n) (h : ∀ j u, (bv bs)[j]? = some u → L[o + j]? = some u) (hl : look T dd = some (.string bs)) : Still P N B ops T A i :=
  ⟨_, dd, _, ho, rfl, hl, fun a w hF hS => .inl ⟨gst_wanted (o := ⟨some dd, .convert s t x, ty, pos, af, gd⟩) hF hg, by
    have h1 := run_bytes (P := P) hn (fun j u hu => (cell_of (hS.here _ hb.mem) _).trans (h j u hu)) (w := w) (c := c)
    simp only [execOp, hF.eval hx]
    unfold convert
    simp [hs.run_und, ht.run_und, he.run_und, h1]⟩⟩
/-- What was left out, since the test itself was. -/
theorem Still.skipU {i dd j dj : Nat} {want : Bool} {op : Op} (ho : ops[i]? = some ⟨some dd, op, ty, pos, af, some (j, want)⟩) (hj : (ops[j]?).bind (·.dst) = some dj) (hu : look T dj = some undef) (hl : look T dd = some undef) : Still P N B ops T A i :=
  ⟨_, dd, undef, ho, rfl, hl, fun a w hF hS => .inr ⟨unwanted hF hj hu, rfl⟩⟩
end
section
variable {P : Program} {K : Nat} {N : Fi} {B : Base} {T : Tm} {A A' : List Blk} {fn : Func} {R : Value → List Blk → Prop}
theorem ret4 {r s q p : ResultVar} {v u x y : Value} (hr : fn.results = #[r, s, q, p]) (h1 : Res P ⟨K, []⟩ B T A r v) (h2 : Res P ⟨K, []⟩ B T A s u) (h3 : Res P ⟨K, []⟩ B T A q x) (h4 : Res P ⟨K, []⟩ B T A p y) (hA : ∀ w, Sat B A w → Sat B A' w) (hR : R (.tuple #[v, u, x, y]) A') : ∀ a w, Fr ⟨K, []⟩ T a → Sat B A w → post P fn B R .ret a w :=
  fun a w hF hS => of_leaves hF ⟨.tuple #[v, u, x, y], by
    have e1 := h1 a w hF hS
    have e2 := h2 a w hF hS
    have e3 := h3 a w hF hS
    have e4 := h4 a w hF hS
    unfold results
    rw [hr]
    generalize hx : (fun x : ResultVar => _ : ResultVar → Sem Value) = f
    have e1' : (f r).run P w = .ok v w := by rw [← hx]; exact e1
    have e2' : (f s).run P w = .ok u w := by rw [← hx]; exact e2
    have e3' : (f q).run P w = .ok x w := by rw [← hx]; exact e3
    have e4' : (f p).run P w = .ok y w := by rw [← hx]; exact e4
    simp [e1', e2', e3', e4'], _, A', rfl, hR, hA w hS⟩
end
end Go.Sep
namespace Go.Proofs.YtnmjdoaogdaehaaGreat
open Go Go.Sep Go.Proofs
set_option maxRecDepth 10000
set_option maxHeartbeats 4000000
set_option synthInstance.maxSize 2000
set_option linter.unusedSimpArgs false
set_option linter.unusedVariables false
/-! the head's sector; what a disk's room is -/
@[reducible] def Hd.row (h : Hd) : List Value := [.int .i64 h.number, .int .i64 h.half, .int .i64 h.snap, .int .i64 h.log]
structure HdOk (h : Hd) : Prop where
  n : h.number < 9223372036854775808
  f : h.half < 256
  s : h.snap < 9223372036854775808
  l : h.log < 9223372036854775808
def headB (h : Hd) : ByteArray := hiB h.number 8 ++ bytesOf [(h.half : Int)] ++ hiB h.snap 4 ++ hiB h.log 4
theorem headB_size (h : Hd) : (headB h).size = 17 := by simp [headB, hiB_size, bytesOf_size]
theorem sector_spec (h : Hd) (ok : HdOk h) : Con Tryz.prog 37 #[.agg h.row.toArray] [] fun v A => v = .string (sectorF h) ∧ A = [] := by
  have hsz := headB_size h
  obtain ⟨o1, o2, o3, o4⟩ := ok
  have hw : IntKind.wrap .u8 (h.half : Int) = (h.half : Int) := by
    simp only [IntKind.wrap, IntKind.bits, IntKind.signed, Bool.false_and, Bool.false_eq_true, if_false]
    omega
  have hb : bv (bytesOf [(h.half : Int)]) = [.int .u8 (h.half : Int)] := bv_bytes (fun x hx => by rw [List.mem_singleton] at hx; subst hx; omega)
  refine Con.intro (vs := [_]) Tryz.func37 rfl Tryz.ntmps37 rfl (fun B => ?_)
  generalize hc2 : Code.seq (Code.region 2 _ _) _ = c2
  repeat' (first | refine Cd.seq ?_ | refine Cd.reg ?_ | refine Ops.asg rfl rfl rfl rfl ?_ | refine Ops.fa0 rfl rfl rfl rfl ?_ | refine Ops.ld1 rfl rfl rfl rfl rfl ?_ | refine Ops.box rfl rfl rfl rfl (noPd rfl) (fun b => ?_))
  rename Nat => hb1
  refine Ops.call (high_spec h.number 8 (by decide) (by decide) o1) rfl (noPd rfl) rfl rfl rfl (fun v A' hR => ?_)
  obtain ⟨rfl, rfl⟩ := hR
  repeat' (first | refine Ops.nil ?_ | refine Ops.asg rfl rfl rfl rfl ?_)
  subst hc2
  refine Cd.cut (σ := Unit) (fun _ => True) (fun _ => [(3, .string (hiB h.number 8)), (4, .string (headB h))]) (fun _ => []) ?_ (fun _ _ => ?_)
  · refine Cd.draw [(0, 0, []), (1, 0, []), (2, 1, []), (3, 0, []), (7, 0, []), (8, 1, []), (11, 0, []), (12, 1, []), (4, 4, [8, 12]), (5, 1, []), (6, 0, []), (9, 2, [12, 5]), (10, 0, []), (13, 2, [5]), (14, 0, []), (15, 0, [])] (by kernel_rfl) (by kernel_rfl) (by simp only [picked, nth]; exact rfl) ?_
    repeat' (first | refine Ops.mv rfl rfl rfl rfl ?_ | refine Ops.fa0 rfl rfl rfl rfl ?_ | refine Ops.ld1 rfl rfl rfl rfl rfl ?_)
    refine Ops.cvI rfl rfl rfl rfl ?_
    rw [hw]
    repeat' (first | refine Ops.fa0 rfl rfl rfl rfl ?_ | refine Ops.ld1 rfl rfl rfl rfl rfl ?_)
    refine Ops.fork' [(0, 0, []), (1, 0, []), (2, 1, []), (3, 0, []), (7, 0, []), (8, 1, []), (11, 0, []), (12, 1, []), (9, 4, [2, 12]), (4, 4, [12]), (5, 1, []), (6, 0, []), (10, 0, []), (13, 2, [5]), (14, 0, []), (15, 0, [])] (by kernel_rfl) rfl (by simp only [picked, nth]; exact rfl) ?_ ?_
    · repeat' (first | refine Ops.bs1 rfl rfl rfl rfl rfl rfl rfl (by first | exact noPd rfl | (intro v A' hR i hi; obtain ⟨b, rfl, rfl⟩ := hR; (repeat (rcases List.mem_cons.1 hi with rfl | hi; · (first | exact Still.ld1 rfl rfl rfl rfl rfl | exact Still.ldN rfl rfl rfl rfl | exact Still.len rfl rfl rfl rfl rfl | exact Still.skip rfl rfl rfl | exact Still.ldRow1 rfl rfl rfl (by assumption) (by assumption) rfl rfl | exact Still.ldR rfl rfl rfl (by apply_assumption) rfl))); cases hi)) (fun b => ?_))
      refine Ops.cvSp (bs := bytesOf [(h.half : Int)]) rfl rfl rfl (bytesOf_size _) (fun j u hu => by rw [hb] at hu; rw [Nat.zero_add]; exact hu) rfl ?_
      skip
      refine Ops.cat rfl rfl rfl rfl (by simp only [ByteArray.size_append, hiB_size, bytesOf_size, List.length_singleton]; decide) rfl ?_
      skip
      refine Ops.call (high_spec h.snap 4 (by decide) (by decide) o3) rfl (by intro v A' hR i hi; obtain ⟨A2, hR, rfl⟩ := hR; obtain ⟨rfl, rfl⟩ := hR; (repeat (rcases List.mem_cons.1 hi with rfl | hi; · (first | exact Still.ld1 rfl rfl rfl rfl rfl | exact Still.cvSp (bs := bytesOf [(h.half : Int)]) rfl rfl rfl (bytesOf_size _) (fun j u hu => by rw [hb] at hu; rw [Nat.zero_add]; exact hu) rfl))); cases hi) rfl rfl rfl (fun v A' hR => ?_)
      obtain ⟨rfl, rfl⟩ := hR
      skip
      skip
      refine Ops.cat rfl rfl rfl rfl (by simp only [ByteArray.size_append, hiB_size, bytesOf_size, List.length_singleton]; decide) rfl ?_
      skip
      refine Ops.call (high_spec h.log 4 (by decide) (by decide) o4) rfl (by intro v A' hR i hi; obtain ⟨A2, hR, rfl⟩ := hR; obtain ⟨rfl, rfl⟩ := hR; (repeat (rcases List.mem_cons.1 hi with rfl | hi; · (first | exact Still.ld1 rfl rfl rfl rfl rfl | exact Still.cvSp (bs := bytesOf [(h.half : Int)]) rfl rfl rfl (bytesOf_size _) (fun j u hu => by rw [hb] at hu; rw [Nat.zero_add]; exact hu) rfl))); cases hi) rfl rfl rfl (fun v A' hR => ?_)
      obtain ⟨rfl, rfl⟩ := hR
      skip
      skip
      refine Ops.cat rfl rfl rfl rfl (by simp only [ByteArray.size_append, hiB_size, bytesOf_size, List.length_singleton]; decide) rfl ?_
      repeat' (first | refine Ops.asg rfl rfl rfl rfl ?_)
      exact Ops.nilN (meet_end (Q := fun _ _ _ => True) () trivial ⟨rfl, rfl, trivial⟩ (fun w h => h.split))
    · skip
      refine Ops.call (high_spec h.snap 4 (by decide) (by decide) o3) rfl (by intro v A' hR i hi; obtain ⟨A2, hR, rfl⟩ := hR; obtain ⟨rfl, rfl⟩ := hR; (repeat (rcases List.mem_cons.1 hi with rfl | hi; · (first | exact Still.ld1 rfl rfl rfl rfl rfl | exact Still.cvSp (bs := bytesOf [(h.half : Int)]) rfl rfl rfl (bytesOf_size _) (fun j u hu => by rw [hb] at hu; rw [Nat.zero_add]; exact hu) rfl))); cases hi) rfl rfl rfl (fun v A' hR => ?_)
      obtain ⟨rfl, rfl⟩ := hR
      refine Ops.fork' [(0, 0, []), (1, 0, []), (2, 1, []), (3, 0, []), (7, 0, []), (8, 1, []), (11, 0, []), (12, 1, []), (9, 4, [2, 12]), (13, 4, [2]), (4, 2, []), (5, 1, []), (6, 0, []), (10, 0, []), (14, 0, []), (15, 0, [])] (by kernel_rfl) rfl (by simp only [picked, nth]; exact rfl) ?_ ?_
      · repeat' (first | refine Ops.bs1 rfl rfl rfl rfl rfl rfl rfl (by first | exact noPd rfl | (intro v A' hR i hi; obtain ⟨b, rfl, rfl⟩ := hR; (repeat (rcases List.mem_cons.1 hi with rfl | hi; · (first | exact Still.ld1 rfl rfl rfl rfl rfl | exact Still.ldN rfl rfl rfl rfl | exact Still.len rfl rfl rfl rfl rfl | exact Still.skip rfl rfl rfl | exact Still.ldRow1 rfl rfl rfl (by assumption) (by assumption) rfl rfl | exact Still.ldR rfl rfl rfl (by apply_assumption) rfl))); cases hi)) (fun b => ?_))
        refine Ops.cvSp (bs := bytesOf [(h.half : Int)]) rfl rfl rfl (bytesOf_size _) (fun j u hu => by rw [hb] at hu; rw [Nat.zero_add]; exact hu) rfl ?_
        skip
        refine Ops.cat rfl rfl rfl rfl (by simp only [ByteArray.size_append, hiB_size, bytesOf_size, List.length_singleton]; decide) rfl ?_
        skip
        refine Ops.cat rfl rfl rfl rfl (by simp only [ByteArray.size_append, hiB_size, bytesOf_size, List.length_singleton]; decide) rfl ?_
        skip
        refine Ops.call (high_spec h.log 4 (by decide) (by decide) o4) rfl (by intro v A' hR i hi; obtain ⟨A2, hR, rfl⟩ := hR; obtain ⟨rfl, rfl⟩ := hR; (repeat (rcases List.mem_cons.1 hi with rfl | hi; · (first | exact Still.ld1 rfl rfl rfl rfl rfl | exact Still.cvSp (bs := bytesOf [(h.half : Int)]) rfl rfl rfl (bytesOf_size _) (fun j u hu => by rw [hb] at hu; rw [Nat.zero_add]; exact hu) rfl))); cases hi) rfl rfl rfl (fun v A' hR => ?_)
        obtain ⟨rfl, rfl⟩ := hR
        skip
        skip
        refine Ops.cat rfl rfl rfl rfl (by simp only [ByteArray.size_append, hiB_size, bytesOf_size, List.length_singleton]; decide) rfl ?_
        repeat' (first | refine Ops.asg rfl rfl rfl rfl ?_)
        exact Ops.nilN (meet_end (Q := fun _ _ _ => True) () trivial ⟨rfl, rfl, trivial⟩ (fun w h => h.split))
      · skip
        refine Ops.call (high_spec h.log 4 (by decide) (by decide) o4) rfl (by intro v A' hR i hi; obtain ⟨A2, hR, rfl⟩ := hR; obtain ⟨rfl, rfl⟩ := hR; (repeat (rcases List.mem_cons.1 hi with rfl | hi; · (first | exact Still.ld1 rfl rfl rfl rfl rfl | exact Still.cvSp (bs := bytesOf [(h.half : Int)]) rfl rfl rfl (bytesOf_size _) (fun j u hu => by rw [hb] at hu; rw [Nat.zero_add]; exact hu) rfl))); cases hi) rfl rfl rfl (fun v A' hR => ?_)
        obtain ⟨rfl, rfl⟩ := hR
        repeat' (first | refine Ops.bs1 rfl rfl rfl rfl rfl rfl rfl (by first | exact noPd rfl | (intro v A' hR i hi; obtain ⟨b, rfl, rfl⟩ := hR; (repeat (rcases List.mem_cons.1 hi with rfl | hi; · (first | exact Still.ld1 rfl rfl rfl rfl rfl | exact Still.ldN rfl rfl rfl rfl | exact Still.len rfl rfl rfl rfl rfl | exact Still.skip rfl rfl rfl | exact Still.ldRow1 rfl rfl rfl (by assumption) (by assumption) rfl rfl | exact Still.ldR rfl rfl rfl (by apply_assumption) rfl))); cases hi)) (fun b => ?_))
        refine Ops.cvSp (bs := bytesOf [(h.half : Int)]) rfl rfl rfl (bytesOf_size _) (fun j u hu => by rw [hb] at hu; rw [Nat.zero_add]; exact hu) rfl ?_
        skip
        refine Ops.cat rfl rfl rfl rfl (by simp only [ByteArray.size_append, hiB_size, bytesOf_size, List.length_singleton]; decide) rfl ?_
        skip
        refine Ops.cat rfl rfl rfl rfl (by simp only [ByteArray.size_append, hiB_size, bytesOf_size, List.length_singleton]; decide) rfl ?_
        skip
        refine Ops.cat rfl rfl rfl rfl (by simp only [ByteArray.size_append, hiB_size, bytesOf_size, List.length_singleton]; decide) rfl ?_
        repeat' (first | refine Ops.asg rfl rfl rfl rfl ?_)
        exact Ops.nilN (meet_end (Q := fun _ _ _ => True) () trivial ⟨rfl, rfl, trivial⟩ (fun w h => h.split))
  · repeat' (first | refine Cd.seq ?_ | refine Cd.reg ?_ | refine Ops.mv rfl rfl rfl rfl ?_ | refine Ops.lenStr rfl rfl rfl rfl ?_ | refine Ops.subI rfl rfl rfl rfl (by omega) (by omega) rfl ?_)
    rw [show ((128 : Int) - (((headB h).size : Nat) : Int) - 8) = 103 from by omega]
    refine Ops.call noughts_spec rfl (noPd rfl) rfl rfl rfl (fun v A' hR => ?_)
    obtain ⟨rfl, rfl⟩ := hR
    refine Ops.cat rfl rfl rfl rfl ?_ rfl ?_
    · rw [hsz, zB_size]; decide
    repeat' (first | refine Ops.mv rfl rfl rfl rfl ?_)
    refine Ops.cat rfl rfl rfl rfl ?_ rfl ?_
    · rw [ByteArray.size_append, hsz, zB_size, hiB_size]; decide
    repeat' (first | refine Ops.nil ?_ | refine Ops.asg rfl rfl rfl rfl ?_)
    exact Cd.ret (ret1 (A' := []) rfl (Res.tmp rfl) (fun _ h => h.split) ⟨rfl, rfl⟩)
/-- A disk, as its blocks lie; so many raw writes at most. -/
structure DkA (db : Nat) (x : Dk) (k : Nat) (D : List Blk) : Prop where
  a : DiskA db x.S x.ar x.bd x.de k D
  n : x.S.length ≤ 1026
  k : k ≤ 900000000000
  b0 : 0 ≤ x.bd
  b1 : x.bd ≤ 128
  a0 : 0 ≤ x.ar
  a1 : x.ar ≤ 9223372036854775807
theorem roomF_le (n : Nat) : roomF n ≤ 65536 := by
  unfold roomF; split <;> omega
theorem room_spec (db : Nat) (x : Dk) (k : Nat) (D : List Blk) (hD : DkA db x k D) : Con Tryz.prog 34 #[ptr db] D fun v A => v = .int .i64 (roomF x.S.length : Nat) ∧ A = D := by
  have hn := hD.n
  refine Con.intro (vs := [_]) Tryz.func34 rfl Tryz.ntmps34 rfl (fun B => ?_)
  repeat' (first | refine Cd.seq ?_ | refine Cd.reg ?_ | refine Ops.mv rfl rfl rfl rfl ?_ | refine Ops.asg rfl rfl rfl rfl ?_)
  refine Ops.call (dsize_spec db x.S x.ar x.bd x.de k D hD.a) rfl (noPd rfl) rfl rfl rfl (fun v A' hR => ?_)
  obtain ⟨rfl, rfl⟩ := hR
  generalize x.S.length = n at hn ⊢
  have h2 : (2 : Int) ≠ 0 := by decide
  unfold roomF
  by_cases c1 : n < 4
  · have c1' : (n : Int) - 2 < 2 := by omega
    rw [if_pos (.inl c1)]
    repeat' (first | refine Cd.seq ?_ | refine Cd.reg ?_ | refine Ops.nil ?_ | refine Ops.mv rfl rfl rfl rfl ?_ | refine Ops.asg rfl rfl rfl rfl ?_ | refine Ops.subI rfl rfl rfl rfl (by omega) (by omega) rfl ?_ | refine Ops.bin rfl rfl rfl rfl rfl ?_ | refine Ops.pickT rfl rfl rfl rfl rfl ?_ | refine Ops.gSkip rfl rfl rfl ?_ | refine Cd.condT rfl rfl ?_ | ((fail_if_success refine Ops.probe rfl ?_); refine Ops.gT rfl rfl (by first | rfl | assumption | (simp only [decide_eq_true_eq, decide_eq_false_iff_not, Bool.not_eq_true', Bool.not_eq_false', Bool.not_eq_eq_eq_not, Bool.not_true, Bool.not_false, beq_iff_eq, beq_eq_false_iff_ne, ne_eq, decide_eq_decide, eq_self, true_iff, iff_true, not_true_eq_false, not_false_eq_true]; first | done | omega)) ?_))
    exact Cd.ret (ret1 (A' := A') rfl (Res.tmp rfl) (fun _ h => h.split) ⟨rfl, rfl⟩)
  · have c1' : ¬ (n : Int) - 2 < 2 := by omega
    have em : ((n : Int) - 2).tmod 2 = ((n % 2 : Nat) : Int) := by
      rw [show (n : Int) - 2 = ((n - 2 : Nat) : Int) from by omega, show (2 : Int) = ((2 : Nat) : Int) from rfl, ← Int.ofNat_tmod]; omega
    by_cases c2 : n % 2 = 1
    · rw [if_pos (.inr (.inl c2))]
      repeat' (first | refine Cd.seq ?_ | refine Cd.reg ?_ | refine Ops.mv rfl rfl rfl rfl ?_ | refine Ops.asg rfl rfl rfl rfl ?_ | refine Ops.subI rfl rfl rfl rfl (by omega) (by omega) rfl ?_ | refine Ops.bin rfl rfl rfl rfl rfl ?_ | ((fail_if_success refine Ops.probe rfl ?_); refine Ops.gF rfl rfl (by first | rfl | assumption | (simp only [decide_eq_true_eq, decide_eq_false_iff_not, Bool.not_eq_true', Bool.not_eq_false', Bool.not_eq_eq_eq_not, Bool.not_true, Bool.not_false, beq_iff_eq, beq_eq_false_iff_ne, ne_eq, decide_eq_decide, eq_self, true_iff, iff_true, not_true_eq_false, not_false_eq_true]; first | done | omega)) ?_))
      refine Ops.remI rfl rfl rfl rfl h2 rfl ?_
      rw [em, c2]
      repeat' (first | refine Cd.seq ?_ | refine Cd.reg ?_ | refine Ops.nil ?_ | refine Ops.mv rfl rfl rfl rfl ?_ | refine Ops.asg rfl rfl rfl rfl ?_ | refine Ops.bin rfl rfl rfl rfl rfl ?_ | refine Ops.pickT rfl rfl rfl rfl rfl ?_ | refine Ops.pickF rfl rfl rfl rfl rfl ?_ | refine Ops.gSkip rfl rfl rfl ?_ | refine Cd.condT rfl rfl ?_)
      exact Cd.ret (ret1 (A' := A') rfl (Res.tmp rfl) (fun _ h => h.split) ⟨rfl, rfl⟩)
    · rw [if_neg (by omega)]
      have c2' : ¬ (((n % 2 : Nat) : Int) = 1) := by omega
      have c3' : ¬ (1024 : Int) < (n : Int) - 2 := by omega
      repeat' (first | refine Cd.seq ?_ | refine Cd.reg ?_ | refine Ops.mv rfl rfl rfl rfl ?_ | refine Ops.asg rfl rfl rfl rfl ?_ | refine Ops.subI rfl rfl rfl rfl (by omega) (by omega) rfl ?_ | refine Ops.bin rfl rfl rfl rfl rfl ?_ | ((fail_if_success refine Ops.probe rfl ?_); refine Ops.gF rfl rfl (by first | rfl | assumption | (simp only [decide_eq_true_eq, decide_eq_false_iff_not, Bool.not_eq_true', Bool.not_eq_false', Bool.not_eq_eq_eq_not, Bool.not_true, Bool.not_false, beq_iff_eq, beq_eq_false_iff_ne, ne_eq, decide_eq_decide, eq_self, true_iff, iff_true, not_true_eq_false, not_false_eq_true]; first | done | omega)) ?_))
      refine Ops.remI rfl rfl rfl rfl h2 rfl ?_
      rw [em]
      repeat' (first | refine Cd.seq ?_ | refine Cd.reg ?_ | refine Ops.nil ?_ | refine Ops.mv rfl rfl rfl rfl ?_ | refine Ops.bin rfl rfl rfl rfl rfl ?_ | refine Ops.pickF rfl rfl rfl rfl rfl ?_ | refine Cd.skip (Cd.next ?_) | refine Cd.condF rfl (by first | rfl | assumption | (simp only [decide_eq_true_eq, decide_eq_false_iff_not, Bool.not_eq_true', Bool.not_eq_false', Bool.not_eq_eq_eq_not, Bool.not_true, Bool.not_false, beq_iff_eq, beq_eq_false_iff_ne, ne_eq, decide_eq_decide, eq_self, true_iff, iff_true, not_true_eq_false, not_false_eq_true]; first | done | omega)) ?_ | ((fail_if_success refine Ops.probe rfl ?_); refine Ops.gF rfl rfl (by first | rfl | assumption | (simp only [decide_eq_true_eq, decide_eq_false_iff_not, Bool.not_eq_true', Bool.not_eq_false', Bool.not_eq_eq_eq_not, Bool.not_true, Bool.not_false, beq_iff_eq, beq_eq_false_iff_ne, ne_eq, decide_eq_decide, eq_self, true_iff, iff_true, not_true_eq_false, not_false_eq_true]; first | done | omega)) ?_))
      rw [show (n : Int) - 2 = ((n - 2 : Nat) : Int) from by omega]
      refine Ops.quoI (a := n - 2) (b := 2) rfl rfl rfl rfl (by omega) (by decide) rfl ?_
      repeat' (first | refine Ops.nil ?_ | refine Ops.asg rfl rfl rfl rfl ?_ | refine Ops.mulI rfl rfl rfl rfl (by omega) (by omega) rfl ?_)
      exact Cd.ret (ret1 (A' := A') rfl (Res.tmp rfl) (fun _ h => h.split) ⟨by push_cast; rfl, rfl⟩)
end Go.Proofs.YtnmjdoaogdaehaaGreat
namespace Go.Proofs.YtnmjdoaogdaehaaGreat
open Go Go.Sep Go.Proofs
set_option maxRecDepth 10000
set_option maxHeartbeats 4000000
set_option synthInstance.maxSize 2000
set_option linter.unusedSimpArgs false
set_option linter.unusedVariables false
/-! what stands in a half; records out of bytes -/
theorem roomF_form {n : Nat} (h : roomF n ≠ 0) : ∃ hf, 1 ≤ hf ∧ hf ≤ 512 ∧ n = 2 + 2 * hf ∧ roomF n = hf * 128 := by
  unfold roomF at h ⊢
  split at h
  · exact absurd rfl h
  · rename_i hc
    rw [if_neg hc]
    exact ⟨(n - 2) / 2, by omega, by omega, by omega, rfl⟩
theorem half_at {half hf : Nat} (h : half ≤ 1) : half * (hf * 128) / 128 = half * hf := by
  rcases Nat.le_one_iff_eq_zero_or_eq_one.1 h with rfl | rfl <;> omega
theorem readD_in {S : List ByteArray} {i : Nat} (h : i < S.length) : readD S false (i : Int) = (S.getD i .empty, 0) := by
  unfold readD
  rw [if_neg (by simp), if_pos ⟨by omega, by omega⟩, Int.toNat_natCast]
structure BtS where
  i : Nat
  E : List Blk
theorem bytes_spec (db : Nat) (x : Dk) (k : Nat) (D : List Blk) (hD : DkA db x k D) (half n : Nat) (hde : x.de = false) (hh : half ≤ 1) (hr : n ≤ roomF x.S.length) : Con Tryz.prog 129 #[ptr db, .int .i64 half, .int .i64 n] D fun v A => v = .string (bytesF x.S half n) ∧ A = D := by
  have hrl := roomF_le x.S.length
  have hA := hD.a
  have hlast : ∀ i, i < (n + 127) / 128 → 2 + half * roomF x.S.length / 128 + i < x.S.length := fun i hi => by
    obtain ⟨hf, h1, h2, h3, h4⟩ := roomF_form (n := x.S.length) (by omega)
    rw [h4, half_at hh]
    rw [h4] at hr
    rcases Nat.le_one_iff_eq_zero_or_eq_one.1 hh with rfl | rfl <;> omega
  have hs : ∀ s ∈ x.S, s.size = 128 := by obtain ⟨_, _, _, _, _, _, _, _, _, _, h⟩ := hA; exact h
  have hsz : (catS x.S (2 + half * roomF x.S.length / 128) ((n + 127) / 128)).size = (n + 127) / 128 * 128 := by
    by_cases h0 : (n + 127) / 128 = 0
    · rw [h0]; rfl
    · exact catS_size hs _ (by have := hlast ((n + 127) / 128 - 1) (by omega); omega)
  have hcs : ∀ i, i ≤ (n + 127) / 128 → (catS x.S (2 + half * roomF x.S.length / 128) i).size = i * 128 := fun i hi => by
    by_cases h0 : i = 0
    · rw [h0]; rfl
    · exact catS_size hs _ (by have := hlast (i - 1) (by omega); omega)
  refine Con.intro (vs := [_, _, _]) Tryz.func129 rfl Tryz.ntmps129 rfl (fun B => ?_)
  repeat' (first | refine Cd.seq ?_ | refine Cd.reg ?_ | refine Ops.mv rfl rfl rfl rfl ?_ | refine Ops.asg rfl rfl rfl rfl ?_ | refine Ops.alloc rfl rfl rfl (noPd rfl) (fun b => ?_))
  rename Nat => bb
  refine Ops.call (room_spec db x k D hD) rfl (noPd rfl) rfl rfl rfl (fun v A' hR => ?_)
  obtain ⟨rfl, e⟩ := hR
  subst A'
  have hhr : (half : Int) * (roomF x.S.length : Nat) = ((half * roomF x.S.length : Nat) : Int) := by push_cast; rfl
  have hhr2 : half * roomF x.S.length ≤ 65536 := by
    rcases Nat.le_one_iff_eq_zero_or_eq_one.1 hh with rfl | rfl <;> omega
  repeat' (first | refine Ops.mulI rfl rfl rfl rfl (by omega) (by omega) rfl ?_)
  rw [hhr]
  refine Ops.quoI (b := 128) rfl rfl rfl rfl (by omega) (by decide) rfl ?_
  repeat' (first | refine Cd.seq ?_ | refine Cd.reg ?_ | refine Ops.nil ?_ | refine Ops.asg rfl rfl rfl rfl ?_ | refine Ops.addI rfl rfl rfl rfl (by omega) (by omega) rfl ?_ | refine Cd.block ?_)
  rw [show (2 : Int) + ((half * roomF x.S.length / 128 : Nat) : Int) = ((2 + half * roomF x.S.length / 128 : Nat) : Int) from by push_cast; rfl]
  generalize hF : 2 + half * roomF x.S.length / 128 = first at hlast hsz hcs ⊢
  refine Cd.loopK (σ := BtS) (fun s => s.i ≤ (n + 127) / 128 ∧ BuA bb (catS x.S first s.i) s.E) (fun s => [(0, ptr db), (2, .int .i64 n), (7, ptr bb), (8, .int .i64 first), (9, .int .i64 s.i)]) (fun s => s.E ++ D) (fun s => (n + 127) / 128 - s.i) ⟨0, [_]⟩ ⟨Nat.zero_le _, _, _, [], rfl, .inl rfl, BG.none⟩ ⟨rfl, rfl, rfl, rfl, rfl, trivial⟩ (fun w h => h.split) (fun s hs2 => ?_)
  obtain ⟨i, E⟩ := s
  obtain ⟨hi, hE⟩ := hs2
  dsimp only at hi hE ⊢
  by_cases hlt : i * 128 < n
  · have hlt' : (i : Int) * 128 < n := by omega
    have hin := hlast i (by omega)
    repeat' (first | refine Cd.seq ?_ | refine Cd.reg ?_ | refine Ops.nil ?_ | refine Ops.mv rfl rfl rfl rfl ?_ | refine Ops.addI rfl rfl rfl rfl (by omega) (by omega) rfl ?_ | refine Ops.mulI rfl rfl rfl rfl (by omega) (by omega) rfl ?_ | refine Ops.bin rfl rfl rfl rfl rfl ?_ | refine Cd.block ?_ | refine Cd.skip (Cd.next ?_) | refine Cd.condT rfl (by first | rfl | assumption | (simp only [decide_eq_true_eq, decide_eq_false_iff_not, Bool.not_eq_true', Bool.not_eq_false', Bool.not_eq_eq_eq_not, Bool.not_true, Bool.not_false, beq_iff_eq, beq_eq_false_iff_ne, ne_eq, decide_eq_decide, eq_self, true_iff, iff_true, not_true_eq_false, not_false_eq_true]; first | done | omega)) ?_)
    refine Ops.call (dread_spec db x.S x.ar x.bd x.de k D hA _) rfl (noPd rfl) rfl rfl rfl (fun v A' hR => ?_)
    obtain ⟨rfl, e⟩ := hR
    subst A'
    rw [hde, show (first : Int) + (i : Int) = ((first + i : Nat) : Int) from by push_cast; rfl, readD_in hin]
    repeat' (first | refine Cd.reg ?_ | refine Ops.mv rfl rfl rfl rfl ?_ | refine Ops.asg rfl rfl rfl rfl ?_ | refine Ops.ext rfl rfl rfl rfl rfl ?_)
    refine Ops.call (bwrite_spec bb (catS x.S first i) (x.S.getD (first + i) .empty) _ hE ?_) rfl (noPd rfl) rfl rfl rfl (fun v A' hR => ?_)
    · have h1 := hcs (i + 1) (by omega)
      rw [catS, ByteArray.size_append] at h1
      omega
    repeat' (first | refine Ops.nilN (inB (Cd.next ?_)) | refine Cd.reg ?_ | refine Ops.mv rfl rfl rfl rfl ?_ | refine Ops.asg rfl rfl rfl rfl ?_ | refine Ops.addI rfl rfl rfl rfl (by omega) (by omega) rfl ?_)
    exact Ops.nilN (round_end (⟨i + 1, _⟩ : BtS) ⟨by show i + 1 ≤ _; omega, hR⟩ (by show (n + 127) / 128 - (i + 1) < (n + 127) / 128 - i; omega) ⟨rfl, rfl, rfl, rfl, rfl, trivial⟩ (fun w h => h.split))
  · have hlt' : ¬ (i : Int) * 128 < n := by omega
    have he : i = (n + 127) / 128 := by omega
    have hc9 := hcs i (by omega)
    repeat' (first | refine Cd.seq ?_ | refine Cd.reg ?_ | refine Ops.nil ?_ | refine Ops.mv rfl rfl rfl rfl ?_ | refine Ops.mulI rfl rfl rfl rfl (by omega) (by omega) rfl ?_ | refine Ops.bin rfl rfl rfl rfl rfl ?_ | refine Cd.exit (Cd.next (Q' := fun _ _ _ => True) ?_) | refine Cd.condF rfl (by first | rfl | assumption | (simp only [decide_eq_true_eq, decide_eq_false_iff_not, Bool.not_eq_true', Bool.not_eq_false', Bool.not_eq_eq_eq_not, Bool.not_true, Bool.not_false, beq_iff_eq, beq_eq_false_iff_ne, ne_eq, decide_eq_decide, eq_self, true_iff, iff_true, not_true_eq_false, not_false_eq_true]; first | done | omega)) ?_)
    refine Ops.call (bstring_spec bb (catS x.S first i) _ hE (by omega)) rfl (noPd rfl) rfl rfl rfl (fun v A' hR => ?_)
    obtain ⟨rfl, hD2⟩ := hR
    repeat' (first | refine Ops.mv rfl rfl rfl rfl ?_)
    refine Ops.slSHi rfl rfl rfl rfl (by omega) (by omega) rfl ?_
    repeat' (first | refine Ops.nil ?_ | refine Ops.asg rfl rfl rfl rfl ?_)
    exact Cd.ret (ret1 (A' := D) rfl (Res.tmp rfl) (fun _ h => h.split) ⟨by rw [bytesF, hF, Int.toNat_natCast, he], rfl⟩)
@[reducible] def trow (t : ByteArray) : List Value := [.string t]
theorem trows_ok (ts : List ByteArray) : RowsOk 1 (ts.map trow) := rows_map (f := trow) (fun _ => ⟨rfl, rfl⟩) ts
def OwnT (sv : Value) (ts : List ByteArray) (G : List Blk) : Prop := Own 9 1 sv (ts.map trow) G
def RsT (sv : Value) (ts : List ByteArray) (G : List Blk) : Prop := Rs 9 1 sv (ts.map trow) G
theorem OwnT.form {sv : Value} {ts : List ByteArray} {G : List Blk} (h : OwnT sv ts G) : ∃ a c, sv = .slice a ts.length c := by
  obtain ⟨a, c, h⟩ := Own.form h
  exact ⟨a, c, by rw [h, List.length_map]⟩
theorem RsT.form {sv : Value} {ts : List ByteArray} {G : List Blk} (h : RsT sv ts G) : ∃ a c, sv = .slice a ts.length c := by
  obtain ⟨a, c, h⟩ := Rs.form h
  exact ⟨a, c, by rw [h, List.length_map]⟩
theorem RsT.none : RsT (.slice none 0 0) [] [] := ⟨RowsOk.nil, .inl ⟨rfl, rfl, rfl⟩⟩
/-- Cut to its length. -/
theorem OwnT.cut {a : Option Addr} {n c m : Nat} {ts : List ByteArray} {G : List Blk} (h : OwnT (.slice a n c) ts G) (hm : m = ts.length) : n ≤ c ∧ RsT (.slice a n m) ts G := by
  subst hm
  rcases h.2 with ⟨h1, h2, h3⟩ | ⟨g, c', sp, h1, h2, h3, h4⟩
  · injection h1 with h1 h4 h5
    subst h1; subst h4; subst h5
    have h2' : ts = [] := by simpa using h2
    subst h2'
    exact ⟨Nat.le_refl _, h.1, .inl ⟨rfl, h2, h3⟩⟩
  · injection h1 with h1 h5 h6
    subst h1; subst h5; subst h6
    exact ⟨h4, h.1, .inr ⟨g, ts.length, sp, rfl, h2⟩⟩
structure FrS where
  p : Nat
  l : List ByteArray
  sv : Value
  G : List Blk
theorem framesG_end {s : ByteArray} {p : Nat} (h : ¬ p < s.size) : framesG s p = some [] := by rw [framesG, dif_neg h]
theorem framesG_bad {s : ByteArray} {p : Nat} (h : p < s.size) (h2 : (rdText s 2048 p 0).2.2 ≠ 0 ∨ (rdText s 2048 p 0).1.size = 0) : framesG s p = none := by rw [framesG, dif_pos h, if_pos h2]
theorem numGo_gt {b : ByteArray} {most : Nat} {over : Int} : ∀ (k i p acc : Nat) {n q : Nat}, numGo b most over k i p acc = .good n q → p < q
  | 0, _, _, _, n, q, h => by cases h
  | k + 1, i, p, acc, n, q, h => by
    unfold numGo at h
    split at h
    · cases h
    · split at h
      · have := numGo_gt k _ _ _ h; omega
      · split at h
        · cases h
        · split at h
          · cases h
          · injection h with h1 h2; omega
theorem rdText_gt {b : ByteArray} {most p : Nat} (h : (rdText b most p 0).2.2 = 0) (h2 : ∀ er, numR b most 23 p = .bad er → er ≠ 0) : p < (rdText b most p 0).2.1 := by
  rw [rdText, if_neg (by simp)] at h ⊢
  unfold txR at h ⊢
  cases hn : numR b most 23 p with
  | bad er => rw [hn] at h; exact absurd h (h2 er hn)
  | good n q =>
    have := numGo_gt _ _ _ _ hn
    rw [hn] at h
    dsimp only at h ⊢
    by_cases hq : q + n ≤ b.size
    · rw [if_pos hq]; dsimp only; omega
    · rw [if_neg hq] at h; cases h
theorem numGo_er {b : ByteArray} {most : Nat} {over : Int} (ho : over ≠ 0) : ∀ (k i p acc : Nat) {er : Int}, numGo b most over k i p acc = .bad er → er ≠ 0
  | 0, _, _, _, er, h => by injection h with h; omega
  | k + 1, i, p, acc, er, h => by
    unfold numGo at h
    split at h
    · injection h with h; omega
    · split at h
      · exact numGo_er ho k _ _ _ h
      · split at h
        · injection h with h; omega
        · split at h
          · injection h with h; omega
          · cases h
theorem framesG_go {s : ByteArray} {p : Nat} (h : p < s.size) (h2 : (rdText s 2048 p 0).2.2 = 0) (h3 : (rdText s 2048 p 0).1.size ≠ 0) : p < (rdText s 2048 p 0).2.1 ∧ framesG s p = (framesG s (rdText s 2048 p 0).2.1).map ((rdText s 2048 p 0).1 :: ·) := by
  have hg := rdText_gt h2 (fun er he => numGo_er (by decide) _ _ _ _ he)
  refine ⟨hg, ?_⟩
  rw [framesG, dif_pos h, if_neg (by rintro (h | h); exact h h2; exact h3 h), dif_pos hg]
theorem frames_spec (B0 : Base) (s : ByteArray) (hs : s.size ≤ 1000000) : ConB Tryz.prog B0 130 #[.string s] [] fun v A =>
    (framesG s 0 = none ∧ v = .tuple #[.slice none 0 0, .bool false] ∧ A = []) ∨ (∃ l sv G, framesG s 0 = some l ∧ v = .tuple #[sv, .bool true] ∧ A = G ∧ RsT sv l G) := by
  refine ConB.intro (vs := [_]) Tryz.func130 rfl Tryz.ntmps130 rfl (fun B hB => ?_)
  repeat' (first | refine Cd.seq ?_ | refine Cd.reg ?_ | refine Ops.mv rfl rfl rfl rfl ?_ | refine Ops.asg rfl rfl rfl rfl ?_)
  refine Ops.call (read_spec s) rfl (noPd rfl) rfl rfl rfl (fun v A' hR => ?_)
  obtain ⟨rb, rfl, rfl⟩ := hR
  repeat' (first | refine Ops.nil ?_ | refine Ops.asg rfl rfl rfl rfl ?_ | refine Cd.block ?_)
  refine Cd.loopK (σ := FrS) (fun t => t.p ≤ s.size ∧ t.l.length ≤ t.p ∧ framesG s 0 = (framesG s t.p).map (t.l ++ ·) ∧ OwnT t.sv t.l t.G) (fun t => [(4, t.sv), (5, ptr rb)]) (fun t => RdB rb s t.p 0 :: t.G) (fun t => s.size - t.p) ⟨0, [], .slice none 0 0, []⟩ ⟨Nat.zero_le _, Nat.le_refl _, by cases framesG s 0 <;> rfl, Own.none⟩ ⟨rfl, rfl, trivial⟩ (fun w h => h.split) (fun t ht => ?_)
  obtain ⟨p, l, sv, G⟩ := t
  obtain ⟨hp, hlp, hfr, hO⟩ := ht
  dsimp only at hp hlp hfr hO ⊢
  obtain ⟨a, c, rfl⟩ := hO.form
  by_cases hlt : p < s.size
  · have hlt' : (0 : Int) < (s.size : Int) - (p : Int) := by omega
    repeat' (first | refine Cd.seq ?_ | refine Cd.reg ?_ | refine Ops.mv rfl rfl rfl rfl ?_)
    refine Ops.call (left_spec rb s p 0 hp hs) rfl (noPd rfl) rfl rfl rfl (fun v A' hR => ?_)
    obtain ⟨rfl, rfl⟩ := hR
    repeat' (first | refine Cd.seq ?_ | refine Cd.reg ?_ | refine Ops.nil ?_ | refine Ops.mv rfl rfl rfl rfl ?_ | refine Ops.bin rfl rfl rfl rfl rfl ?_ | refine Cd.block ?_ | refine Cd.skip (Cd.next ?_) | refine Cd.condT rfl (by first | rfl | assumption | (simp only [decide_eq_true_eq, decide_eq_false_iff_not, Bool.not_eq_true', Bool.not_eq_false', Bool.not_eq_eq_eq_not, Bool.not_true, Bool.not_false, beq_iff_eq, beq_eq_false_iff_ne, ne_eq, decide_eq_decide, eq_self, true_iff, iff_true, not_true_eq_false, not_false_eq_true]; first | done | omega)) ?_)
    refine Ops.callB (rtext_spec B0 rb s p 2048 0 hp hs (by decide)) hB rfl (noPd rfl) rfl rfl rfl (fun v A' hR => ?_)
    obtain ⟨rfl, rfl⟩ := hR
    repeat' (first | refine Cd.seq ?_ | refine Cd.reg ?_ | refine Ops.mv rfl rfl rfl rfl ?_ | refine Ops.asg rfl rfl rfl rfl ?_)
    refine Ops.call (fault_spec rb s (rdText s 2048 p 0).2.1 (rdText s 2048 p 0).2.2) rfl (noPd rfl) rfl rfl rfl (fun v A' hR => ?_)
    obtain ⟨rfl, rfl⟩ := hR
    have hg := framesG_go (s := s) (p := p) hlt
    have hb := framesG_bad (s := s) (p := p) hlt
    have hat := rdText_at (b := s) (most := 2048) (e := 0) hp
    generalize rdText s 2048 p 0 = r at hg hb hat ⊢
    obtain ⟨x, q, e⟩ := r
    dsimp only at hg hb hat ⊢
    by_cases he : e = 0
    · subst he
      rw [show faultF q 0 = (0, 0) from if_pos rfl]
      by_cases hx : x = ⟨#[]⟩
      · subst hx
        have hb := hb (.inr rfl)
        repeat' (first | refine Cd.seq ?_ | refine Cd.reg ?_ | refine Ops.nil ?_ | refine Ops.mv rfl rfl rfl rfl ?_ | refine Ops.asg rfl rfl rfl rfl ?_ | refine Ops.bin rfl rfl rfl rfl rfl ?_ | refine Ops.pickF rfl rfl rfl rfl rfl ?_ | refine Ops.ext rfl rfl rfl rfl rfl ?_ | refine Cd.condT rfl rfl ?_)
        exact Cd.ret (ret2 (A' := []) rfl (Res.tmp rfl) (Res.tmp rfl) (fun _ h => h.split) (.inl ⟨by rw [hfr, hb]; rfl, rfl, rfl⟩))
      · have hne : x.size ≠ 0 := fun h => hx (ByteArray.size_eq_zero_iff.1 h)
        obtain ⟨h1, h2⟩ := hg rfl hne
        repeat' (first | refine Cd.seq ?_ | refine Cd.reg ?_ | refine Ops.nil ?_ | refine Ops.mv rfl rfl rfl rfl ?_ | refine Ops.asg rfl rfl rfl rfl ?_ | refine Ops.bin rfl rfl rfl rfl rfl ?_ | refine Ops.pickF rfl rfl rfl rfl rfl ?_ | refine Ops.ext rfl rfl rfl rfl rfl ?_ | refine Ops.bs1 rfl rfl rfl rfl rfl rfl rfl (noPd rfl) (fun b => ?_) | refine Cd.skip (Cd.next ?_) | refine Cd.condF rfl (by first | rfl | assumption | (simp only [decide_eq_true_eq, decide_eq_false_iff_not, Bool.not_eq_true', Bool.not_eq_false', Bool.not_eq_eq_eq_not, Bool.not_true, Bool.not_false, beq_iff_eq, beq_eq_false_iff_ne, ne_eq, decide_eq_decide, eq_self, true_iff, iff_true, not_true_eq_false, not_false_eq_true]; first | done | omega)) ?_)
        have hll : (l.map trow).length = l.length := List.length_map _
        refine Ops.app1 (rows := l.map trow) hO (by rw [hll]; omega) (by rw [hll]; omega) rfl rfl rfl rfl (by rfl) (by rfl) rfl (noPd rfl) rfl (fun v G' hG' => ?_)
        have hG2 : OwnT v (l ++ [x]) G' := by unfold OwnT; rw [List.map_append]; exact hG'
        clear hG'
        repeat' (first | refine Ops.asg rfl rfl rfl rfl ?_)
        exact Ops.nilN (inB (round_end (⟨q, l ++ [x], v, G'⟩ : FrS) ⟨hat, by show (l ++ [x]).length ≤ q; rw [List.length_append, List.length_singleton]; omega, by show _ = (framesG s q).map ((l ++ [x]) ++ ·); rw [hfr, h2]; cases framesG s q <;> simp, hG2⟩ (by show s.size - q < s.size - p; omega) ⟨rfl, rfl, trivial⟩ (fun w h => h.split)))
    · rw [show faultF q e = (e, (q : Int)) from if_neg he]
      have hb := hb (.inl he)
      repeat' (first | refine Cd.seq ?_ | refine Cd.reg ?_ | refine Ops.nil ?_ | refine Ops.mv rfl rfl rfl rfl ?_ | refine Ops.asg rfl rfl rfl rfl ?_ | refine Ops.bin rfl rfl rfl rfl rfl ?_ | refine Ops.pickT rfl rfl rfl rfl rfl ?_ | refine Ops.ext rfl rfl rfl rfl rfl ?_ | refine Ops.gSkip rfl rfl rfl ?_ | refine Cd.condT rfl rfl ?_ | ((fail_if_success refine Ops.probe rfl ?_); refine Ops.gT rfl rfl (by first | rfl | assumption | (simp only [decide_eq_true_eq, decide_eq_false_iff_not, Bool.not_eq_true', Bool.not_eq_false', Bool.not_eq_eq_eq_not, Bool.not_true, Bool.not_false, beq_iff_eq, beq_eq_false_iff_ne, ne_eq, decide_eq_decide, eq_self, true_iff, iff_true, not_true_eq_false, not_false_eq_true]; first | done | omega)) ?_))
      exact Cd.ret (ret2 (A' := []) rfl (Res.tmp rfl) (Res.tmp rfl) (fun _ h => h.split) (.inl ⟨by rw [hfr, hb]; rfl, rfl, rfl⟩))
  · have hlt' : ¬ (0 : Int) < (s.size : Int) - (p : Int) := by omega
    obtain ⟨hc1, hc2⟩ := hO.cut rfl
    repeat' (first | refine Cd.seq ?_ | refine Cd.reg ?_ | refine Ops.mv rfl rfl rfl rfl ?_)
    refine Ops.call (left_spec rb s p 0 hp hs) rfl (noPd rfl) rfl rfl rfl (fun v A' hR => ?_)
    obtain ⟨rfl, rfl⟩ := hR
    repeat' (first | refine Cd.seq ?_ | refine Cd.reg ?_ | refine Ops.nil ?_ | refine Ops.mv rfl rfl rfl rfl ?_ | refine Ops.lenS rfl rfl rfl rfl ?_ | refine Ops.bin rfl rfl rfl rfl rfl ?_ | refine Cd.exit (Cd.next (Q' := fun _ _ _ => True) ?_) | refine Cd.condF rfl (by first | rfl | assumption | (simp only [decide_eq_true_eq, decide_eq_false_iff_not, Bool.not_eq_true', Bool.not_eq_false', Bool.not_eq_eq_eq_not, Bool.not_true, Bool.not_false, beq_iff_eq, beq_eq_false_iff_ne, ne_eq, decide_eq_decide, eq_self, true_iff, iff_true, not_true_eq_false, not_false_eq_true]; first | done | omega)) ?_)
    refine Ops.slHM rfl rfl rfl rfl rfl (by omega) (by omega) (by omega) rfl ?_
    rw [Int.toNat_natCast]
    repeat' (first | refine Ops.nil ?_ | refine Ops.asg rfl rfl rfl rfl ?_)
    exact Cd.ret (ret2 (A' := G) rfl (Res.tmp rfl) (Res.tmp rfl) (fun _ h => h.split) (.inr ⟨l, _, G, by rw [hfr, framesG_end hlt]; simp, rfl, rfl, hc2⟩))
end Go.Proofs.YtnmjdoaogdaehaaGreat
