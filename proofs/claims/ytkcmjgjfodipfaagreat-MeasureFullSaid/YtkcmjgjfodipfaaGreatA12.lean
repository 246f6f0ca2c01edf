import Derived.Test.YtkcmjgjfodipfaaGreatA11
import Derived.Test.YtkcmjgjfodipfaaGreatA10
import Derived.Lib.UnsafeStr
namespace Go.Proofs.YtkcmjgjfodipfaaGreat
open Go Go.Sep Go.Proofs
set_option maxRecDepth 10000
set_option maxHeartbeats 4000000
set_option synthInstance.maxSize 2000
set_option linter.unusedSimpArgs false
set_option linter.unusedVariables false
/-! lists' lengths; what a reader tells of itself -/
theorem wrap_i64 {n : Nat} (h : n < 9223372036854775808) : IntKind.wrap .i64 (n : Int) = (n : Int) := by
  simp [IntKind.wrap, IntKind.bits, IntKind.signed]; omega
theorem list_spec (B0 : Base) (rb : Nat) (bs : ByteArray) (p most : Nat) (hp : p ≤ bs.size) (hb : bs.size ≤ 1000000) (hm : most ≤ 1099511627776) :
    ConX Tryz.prog B0 251 #[ptr rb, .int .i64 most] [RdB rb bs p 0]
      (fun v A => ∃ u q, (numR bs most 23 p).sum = .inr (u, q) ∧ v = .int .i64 ((u : Nat) : Int) ∧ A = [RdB rb bs (q : Nat) 0])
      (fun c A => ∃ er, (numR bs most 23 p).sum = .inl er ∧ c = [gave er] ∧ ∃ q : Nat, A = [RdB rb bs q 0]) := by
  refine ConX.intro (vs := [_, _]) Tryz.func251 rfl Tryz.ntmps251 rfl (fun B hB => ?_)
  repeat' (first | refine Cd.seq ?_ | refine Cd.reg ?_ | refine Ops.mv rfl rfl rfl rfl ?_ | refine Ops.asg rfl rfl rfl rfl ?_ | refine Ops.maxI rfl rfl rfl rfl rfl ?_)
  refine Ops.cvI rfl rfl rfl rfl ?_
  rw [show max (0 : Int) (most : Int) = (most : Int) from by omega, wrap_u64 (by omega)]
  skip
  refine Ops.callX (number_spec B0 rb bs p 0 most 23 hp hb (by omega)) hB rfl rfl rfl (fun c A' hX => ?_) (fun v A' hR => ?_)
  · obtain ⟨er, hr, rfl, q, rfl⟩ := hX
    exact panX (A' := [RdB rb bs q 0]) (fun _ h => h.split) ⟨er, by rw [hr]; rfl, rfl, q, rfl⟩
  · obtain ⟨n, q, hr, hn, hq, rfl, rfl⟩ := hR
    have hle : n ≤ most := numGo_le _ _ _ _ hr
    refine Ops.cvI rfl rfl rfl rfl ?_
    rw [wrap_i64 (by omega)]
    repeat' (first | refine Ops.nil ?_ | refine Ops.asg rfl rfl rfl rfl ?_)
    exact Cd.ret (retX (ret1 (A' := [RdB rb bs q 0]) rfl (Res.tmp rfl) (fun _ h => h.split) ⟨n, q, by rw [hr]; rfl, rfl, rfl⟩))
theorem read_spec (b0 : ByteArray) : Con Tryz.prog 75 #[.string b0] [] fun v A => ∃ rb, v = ptr rb ∧ A = [RdB rb b0 0 0] := by
  refine Con.intro (vs := [_]) Tryz.func75 rfl Tryz.ntmps75 rfl (fun B => ?_)
  repeat' (first | refine Cd.seq ?_ | refine Cd.reg ?_ | refine Ops.nil ?_ | refine Ops.mv rfl rfl rfl rfl ?_ | refine Ops.asg rfl rfl rfl rfl ?_ | refine Ops.bld rfl rfl rfl rfl ?_ | refine Ops.box rfl rfl rfl rfl (noPd rfl) (fun b => ?_))
  rename Nat => rb
  exact Cd.ret (ret1 (A' := [RdB rb b0 0 0]) rfl (Res.tmp rfl) (fun _ h => h.split) ⟨rb, rfl, rfl⟩)
theorem left_spec (rb : Nat) (b0 : ByteArray) (p : Nat) (e : Int) (hp : p ≤ b0.size) (hb : b0.size ≤ 1000000) : Con Tryz.prog 200 #[ptr rb] [RdB rb b0 p e] fun v A => v = .int .i64 ((b0.size : Int) - (p : Int)) ∧ A = [RdB rb b0 p e] := by
  refine Con.intro (vs := [_]) Tryz.func200 rfl Tryz.ntmps200 rfl (fun B => ?_)
  repeat' (first | refine Cd.seq ?_ | refine Cd.reg ?_ | refine Ops.asg rfl rfl rfl rfl ?_)
  refine Cd.draw [(0, 0, []), (1, 0, []), (2, 0, []), (3, 1, []), (4, 0, []), (5, 0, []), (6, 0, []), (7, 0, []), (8, 1, []), (9, 0, []), (10, 0, [])] (by kernel_rfl) (by kernel_rfl) (by simp only [picked, nth]; exact rfl) ?_
  repeat' (first | refine Ops.nil ?_ | refine Ops.mv rfl rfl rfl rfl ?_ | refine Ops.asg rfl rfl rfl rfl ?_ | refine Ops.nilP rfl rfl rfl rfl ?_ | refine Ops.fa0 rfl rfl rfl rfl ?_ | refine Ops.ld1 rfl rfl rfl rfl rfl ?_ | refine Ops.lenStr rfl rfl rfl rfl ?_ | refine Ops.subI rfl rfl rfl rfl (by omega) (by omega) rfl ?_)
  exact Cd.ret (ret1 (A' := [RdB rb b0 p e]) rfl (Res.tmp rfl) (fun _ h => h.split) ⟨rfl, rfl⟩)
def faultF (p : Nat) (e : Int) : Int × Int := if e = 0 then (0, 0) else (e, (p : Int))
theorem fault_spec (rb : Nat) (b0 : ByteArray) (p : Nat) (e : Int) : Con Tryz.prog 167 #[ptr rb] [RdB rb b0 p e] fun v A => v = .tuple #[.int .i64 (faultF p e).1, .int .i64 (faultF p e).2] ∧ A = [RdB rb b0 p e] := by
  refine Con.intro (vs := [_]) Tryz.func167 rfl Tryz.ntmps167 rfl (fun B => ?_)
  unfold faultF
  by_cases he : e = 0
  · rw [if_pos he]
    repeat' (first | refine Cd.seq ?_ | refine Cd.reg ?_ | refine Ops.nil ?_ | refine Ops.mv rfl rfl rfl rfl ?_ | refine Ops.asg rfl rfl rfl rfl ?_ | refine Ops.nilP rfl rfl rfl rfl ?_ | refine Ops.fa0 rfl rfl rfl rfl ?_ | refine Ops.ld1 rfl rfl rfl rfl rfl ?_ | refine Ops.bin rfl rfl rfl rfl rfl ?_ | refine Cd.condT rfl (by first | rfl | assumption | (simp only [decide_eq_true_eq, decide_eq_false_iff_not, Bool.not_eq_true', Bool.not_eq_false', Bool.not_eq_eq_eq_not, Bool.not_true, Bool.not_false, beq_iff_eq, beq_eq_false_iff_ne, ne_eq, decide_eq_decide, eq_self, true_iff, iff_true, not_true_eq_false, not_false_eq_true]; first | done | omega)) ?_)
    exact Cd.ret (ret2 (A' := [RdB rb b0 p e]) rfl (Res.tmp rfl) (Res.tmp rfl) (fun _ h => h.split) ⟨rfl, rfl⟩)
  · rw [if_neg he]
    repeat' (first | refine Cd.seq ?_ | refine Cd.reg ?_ | refine Ops.nil ?_ | refine Ops.mv rfl rfl rfl rfl ?_ | refine Ops.asg rfl rfl rfl rfl ?_ | refine Ops.nilP rfl rfl rfl rfl ?_ | refine Ops.fa0 rfl rfl rfl rfl ?_ | refine Ops.ld1 rfl rfl rfl rfl rfl ?_ | refine Ops.bin rfl rfl rfl rfl rfl ?_ | refine Cd.skip (Cd.next ?_) | refine Cd.condF rfl (by first | rfl | assumption | (simp only [decide_eq_true_eq, decide_eq_false_iff_not, Bool.not_eq_true', Bool.not_eq_false', Bool.not_eq_eq_eq_not, Bool.not_true, Bool.not_false, beq_iff_eq, beq_eq_false_iff_ne, ne_eq, decide_eq_decide, eq_self, true_iff, iff_true, not_true_eq_false, not_false_eq_true]; first | done | omega)) ?_)
    refine Cd.draw [(0, 0, []), (1, 0, []), (2, 0, []), (3, 1, []), (4, 0, []), (5, 0, []), (6, 0, []), (7, 1, []), (8, 0, []), (9, 0, [])] (by kernel_rfl) (by kernel_rfl) (by simp only [picked, nth]; exact rfl) ?_
    repeat' (first | refine Ops.nil ?_ | refine Ops.mv rfl rfl rfl rfl ?_ | refine Ops.asg rfl rfl rfl rfl ?_ | refine Ops.nilP rfl rfl rfl rfl ?_ | refine Ops.fa0 rfl rfl rfl rfl ?_ | refine Ops.ld1 rfl rfl rfl rfl rfl ?_)
    exact Cd.ret (ret2 (A' := [RdB rb b0 p e]) rfl (Res.tmp rfl) (Res.tmp rfl) (fun _ h => h.split) ⟨rfl, rfl⟩)
theorem bytesOf_size (xs : List Int) : (bytesOf xs).size = xs.length := by
  unfold bytesOf
  suffices ∀ (s : ByteArray), (xs.foldl (fun r n => r.push (UInt8.ofNat n.toNat)) s).size = s.size + xs.length by simpa using this .empty
  induction xs with
  | nil => intro s; simp
  | cons x xs ih => intro s; rw [List.foldl_cons, ih, ByteArray.size_push, List.length_cons]; omega
end Go.Proofs.YtkcmjgjfodipfaaGreat
namespace Go.Proofs.YtkcmjgjfodipfaaGreat
open Go Go.Sep Go.Proofs
set_option maxRecDepth 10000
set_option maxHeartbeats 4000000
set_option synthInstance.maxSize 2000
set_option linter.unusedSimpArgs false
set_option linter.unusedVariables false
/-! badges -/
@[reducible] def CtB (cb : Nat) (bl la re : Int) : Blk := (cb, cl [.int .i64 bl, .int .i64 la, .int .i64 re] 310)
theorem bnew_yes (bl re : Int) (h1 : 1 ≤ bl) (h2 : bl ≤ 16) (h3 : 0 ≤ re) (h4 : re ≤ 1099511627776) : Con Tryz.prog 129 #[.int .i64 bl, .int .i64 re] [] fun v A => ∃ cb, v = .tuple #[ptr cb, .int .i64 0] ∧ A = [CtB cb bl re re] := by
  refine Con.intro (vs := [_, _]) Tryz.func129 rfl Tryz.ntmps129 rfl (fun B => ?_)
  have g1 : ¬ bl < 1 := by omega
  have g2 : ¬ 16 < bl := by omega
  have g3 : ¬ re < 0 := by omega
  have g4 : ¬ 1099511627776 < re := by omega
  repeat' (first | refine Cd.seq ?_ | refine Cd.reg ?_ | refine Ops.nil ?_ | refine Ops.mv rfl rfl rfl rfl ?_ | refine Ops.asg rfl rfl rfl rfl ?_ | refine Ops.bin rfl rfl rfl rfl rfl ?_ | refine Ops.pickF rfl rfl rfl rfl rfl ?_ | refine Ops.bld rfl rfl rfl rfl ?_ | refine Ops.box rfl rfl rfl rfl (noPd rfl) (fun b => ?_) | refine Cd.skip (Cd.next ?_) | refine Cd.condF rfl (by first | rfl | assumption | (simp only [decide_eq_true_eq, decide_eq_false_iff_not, Bool.not_eq_true', Bool.not_eq_false', Bool.not_eq_eq_eq_not, Bool.not_true, Bool.not_false, beq_iff_eq, beq_eq_false_iff_ne, ne_eq, decide_eq_decide, eq_self, true_iff, iff_true, not_true_eq_false, not_false_eq_true]; first | done | omega)) ?_ | ((fail_if_success refine Ops.probe rfl ?_); refine Ops.gF rfl rfl (by first | rfl | assumption | (simp only [decide_eq_true_eq, decide_eq_false_iff_not, Bool.not_eq_true', Bool.not_eq_false', Bool.not_eq_eq_eq_not, Bool.not_true, Bool.not_false, beq_iff_eq, beq_eq_false_iff_ne, ne_eq, decide_eq_decide, eq_self, true_iff, iff_true, not_true_eq_false, not_false_eq_true]; first | done | omega)) ?_))
  rename Nat => cb
  exact Cd.ret (ret2 (A' := [CtB cb bl re re]) rfl (Res.tmp rfl) (Res.tmp rfl) (fun _ h => h.split) ⟨cb, rfl, rfl⟩)
end Go.Proofs.YtkcmjgjfodipfaaGreat
/- Bytes in rows: copies of texts, parts of arrays, texts read from them; rows of bytes whose beginning a text shares. -/
namespace Go.Sep
open Go
set_option linter.unusedSimpArgs false
def bv (s : ByteArray) : List Value := s.data.toList.map fun u => Value.int .u8 u.toNat
theorem bv_len (s : ByteArray) : (bv s).length = s.size := by simp [bv]
theorem bv_one (s : ByteArray) : oneAll (bv s) = true := by
  unfold oneAll bv
  rw [List.all_map, List.all_eq_true]
  intro u _; rfl
theorem bv_app (a b : ByteArray) : bv (a ++ b) = bv a ++ bv b := by simp [bv]
theorem bv_extract (s : ByteArray) (i j : Nat) : bv (s.extract i j) = ((bv s).take j).drop i := by
  simp [bv, List.map_take, List.map_drop, List.drop_take]
theorem bv_empty : bv .empty = [] := rfl
theorem bv_arr (s : ByteArray) (n : Nat) : ((s.extract 0 n).data.map fun b => (Value.int .u8 (b.toNat : Int))) = (bv (s.extract 0 n)).toArray := by
  apply Array.ext'
  simp [bv]
theorem oneAll_bv (s : ByteArray) : ∀ u ∈ bv s, u.oneCell' = true := oneAll_mem (bv_one s)
theorem run_bytes {P : Program} {w : World} {b o n c : Nat} {s : ByteArray} (hn : s.size = n) (h : ∀ j u, (bv s)[j]? = some u → w.cell? ⟨b, o + j, none⟩ = some u) :
    (Conv.bytesToString (.slice (some ⟨b, o, none⟩) n c)).run P w = .ok (.string s) w := by
  have hrd : (loadCells ⟨b, o, none⟩ n).run P w = .ok (bv s).toArray w := run_loadCells (by rw [bv_len, hn]) h
  unfold Conv.bytesToString
  simp only [Sem.run_bind, hrd, Result.andThen_ok]
  rw [List.forIn_toArray]
  have e : bv s = (s.data.toList.map fun u => ((u.toNat : Nat) : Int)).map fun n => Value.int .u8 n := by simp [bv]
  rw [e, run_pushes (fun _ _ => rfl)]
  simp only [Result.andThen_ok, Sem.run_pure]
  congr 2
  have : ∀ (l : List UInt8) (acc : ByteArray), (l.map fun u => ((u.toNat : Nat) : Int)).foldl (fun r n => r.push (UInt8.ofNat n.toNat)) acc = ⟨acc.data ++ l.toArray⟩ := by
    intro l
    induction l with
    | nil => intro acc; simp
    | cons x l ih =>
      intro acc
      rw [List.map_cons, List.foldl_cons, ih]
      apply ByteArray.ext
      simp [ByteArray.push]
  rw [this]
  apply ByteArray.ext
  simp
section
variable {P : Program} {N : Fi} {B : Base} {Q : Exit → Act → World → Prop} {T : Tm} {A : List Blk} {ops : Array Oper} {l : List Oper}
variable {d : Nat} {ty : TypeId} {pos : String} {af : Array Edge} {m : Md} {gd : Option (Nat × Bool)}
/-- All of an array, as a slice; its beginning. -/
theorem Ops.slAr {t e : TypeId} {ge : Bool} {x : Operand} {n sz bs b o : Nat} {zc : List Value} (hm : m.rd true = true) (hg : gst ops T gd = some true) [ht : TyD P t (.array n e)] [he : Ty P e ge sz bs zc] (hx : ev T x = some (.pointer (some ⟨b, o, none⟩))) (hd : Nat.blt d N.n = true)
    (k : Ops P N B Q ops m.tl l ((d, .slice (some ⟨b, o, none⟩) n n) :: T) A) : Ops P N B Q ops m (⟨some d, .slice t x none none none, ty, pos, af, gd⟩ :: l) T A :=
  Ops.pureV hm hg hd (fun a w hF => by
    simp [execOp, hF.eval hx, Instr.sliceAt, Instr.sureAddr, ht.run_und, Instr.sliceBounds, he.run_size, add_none]) k
theorem Ops.slArHi {t e : TypeId} {ge : Bool} {x z : Operand} {n sz bs b o : Nat} {k' : IntKind} {j : Int} {zc : List Value} (hm : m.rd true = true) (hg : gst ops T gd = some true) [ht : TyD P t (.array n e)] [he : Ty P e ge sz bs zc] (hx : ev T x = some (.pointer (some ⟨b, o, none⟩))) (hz : ev T z = some (.int k' j)) (h0 : 0 ≤ j) (h1 : j ≤ n) (hd : Nat.blt d N.n = true)
    (k : Ops P N B Q ops m.tl l ((d, .slice (some ⟨b, o, none⟩) j.toNat n) :: T) A) : Ops P N B Q ops m (⟨some d, .slice t x none (some z) none, ty, pos, af, gd⟩ :: l) T A :=
  Ops.pureV hm hg hd (fun a w hF => by
    simp [execOp, hF.eval hx, hF.eval hz, Instr.sliceAt, Instr.sureAddr, ht.run_und, Instr.sliceBounds, run_bound h0 h1, he.run_size, add_none]) k
/-- Bytes of a block, as a text. -/
theorem Ops.cvSp {s t e : TypeId} {x : Operand} {b o n c : Nat} {bs : ByteArray} {L : List Value} {E : TypeId} (hm : m.rd false = true) (hg : gst ops T gd = some true) [hs : TyD P s (.slice e)] [he : TyD P e (.int .u8)] [ht : TyD P t .string] (hx : ev T x = some (.slice (some ⟨b, o, none⟩) n c)) [hb : Has A b (cl L E)]
    (hn : bs.size = n) (h : ∀ j u, (bv bs)[j]? = some u → L[o + j]? = some u) (hd : Nat.blt d N.n = true) (k : Ops P N B Q ops m.tl l ((d, .string bs) :: T) A) : Ops P N B Q ops m (⟨some d, .convert s t x, ty, pos, af, gd⟩ :: l) T A :=
  Ops.readV hm hg hd (fun a w hF hS => by
    have hr := run_bytes (P := P) (w := w) (b := b) (o := o) (c := c) hn (fun j u hu => by rw [cell_of (hS.here _ hb.mem)]; exact h j u hu)
    have : (convert s t (.slice (some ⟨b, o, none⟩) n c)).run P w = .ok (.string bs) w := by
      simp [convert, hs.run_und, ht.run_und, he.run_und, hr]
    simp [execOp, hF.eval hx, this]) k
/-- copy(part of a block, text). -/
theorem Ops.cpS {t ts e : TypeId} {ge : Bool} {x y : Operand} {b o n c bs : Nat} {s : ByteArray} {zc L L' : List Value} {E : TypeId} {A' : List Blk} (hm : m.eff = true) (hg : gst ops T gd = some true) [ht : TyD P t (.slice e)] [he : Ty P e ge 1 bs zc]
    (hx : ev T x = some (.slice (some ⟨b, o, none⟩) n c)) (hy : ev T y = some (.string s)) [hb : Has A b (cl L E)] (hfit : o + min s.size n ≤ L.length) (hL : ins L o (bv (s.extract 0 (min s.size n))) = L') [hu : Upd A b (cl L E) (cl L' E) A'] (hd : Nat.blt d N.n = true)
    (hp : Pd P N B ops m T (some d) (fun v X => v = .int .i64 (min s.size n : Nat) ∧ X = A')) (k : Ops P N B Q ops m.tl l ((d, .int .i64 (min s.size n : Nat)) :: T) A') :
    Ops P N B Q ops m (⟨some d, .call { callee := .builtin .copy, args := #[x, y], argTypes := #[t, ts] }, ty, pos, af, gd⟩ :: l) T A :=
  Ops.effV hm hp hg hd (fun a w hF hS => by
    obtain ⟨A1, A2, rfl, rfl⟩ := hu.put
    have hlen : (bv (s.extract 0 (min s.size n))).length = min s.size n := by rw [bv_len]; simp
    obtain ⟨w', hr, hS'⟩ := run_storeCells (P := P) (off := o) (bv (s.extract 0 (min s.size n))) 0 L w hS (oneAll_bv _) (by rw [hlen]; omega)
    rw [Nat.add_zero, hL] at hS'
    have h2 : (Builtin.copy_ #[t, ts] ty #[.slice (some ⟨b, o, none⟩) n c, .string s]).run P w = .ok (.int .i64 (min s.size n : Nat)) w' := by
      have hfc : (Builtin.firstCells 1 (min s.size n) (.string s)).run P w = .ok (bv (s.extract 0 (min s.size n))).toArray w := by
        simp only [Builtin.firstCells, bv_arr, Sem.run_pure]
      have hn' : s.size.min n = min s.size n := rfl
      simp [Builtin.copy_, ht.run_und, he.run_size, Builtin.lenOf, hn', hfc, hr]
      rfl
    simp only [execOp, resolve, invoke, builtin, Sem.run_bind, Sem.run_pure, Result.andThen_ok, List.map_toArray, List.map_cons, List.map_nil, hF.eval hx, hF.eval hy, h2, effPost]
    exact ⟨_, ⟨trivial, rfl⟩, hS'⟩) fun v X ⟨h1, h2⟩ => by rw [h1, h2]; exact k
/-- make of a slice whose elements have several cells, all alike. -/
theorem Ops.mkU {t e : TypeId} {ge : Bool} {x y : Operand} {sz bs : Nat} {z : Value} {zc : List Value} {i : Int} {k1 k2 : IntKind} (hm : m.eff = true) (hg : gst ops T gd = some true) [ht : TyD P t (.slice e)] [he : Ty P e ge sz bs zc] (hzc : zc = List.replicate sz z) (hx : ev T x = some (.int k1 i)) (hy : ev T y = some (.int k2 i)) (h0 : 0 < i) (h1 : i ≤ 1048576) (hb : bs ≤ 65536) (hsz : 0 < sz) (hd : Nat.blt d N.n = true)
    (hp : Pd P N B ops m T (some d) (NewR (fun b => .slice (some ⟨b, 0, none⟩) i.toNat i.toNat) (cl (List.replicate (i.toNat * sz) z) e) A)) (k : ∀ b, Ops P N B Q ops m.tl l ((d, .slice (some ⟨b, 0, none⟩) i.toNat i.toNat) :: T) ((b, cl (List.replicate (i.toNat * sz) z) e) :: A)) : Ops P N B Q ops m (⟨some d, .makeSlice t x y, ty, pos, af, gd⟩ :: l) T A :=
  Ops.new (v := fun b => .slice (some ⟨b, 0, none⟩) i.toNat i.toNat) hm hp hg hd (fun a w hF hS => by
    obtain ⟨zv, hz, hzc'⟩ := he.run_zero (w := w)
    obtain ⟨i3, hi3, his3, hib3⟩ := he.run_info (w := w)
    obtain ⟨n, rfl⟩ : ∃ n : Nat, i = n := ⟨i.toNat, by omega⟩
    have wl : IntKind.i64.wrap (n : Int) = n := by simp [IntKind.wrap, IntKind.bits, IntKind.signed]; omega
    have hnb : n * bs ≤ 1048576 * 65536 := Nat.mul_le_mul (by omega) hb
    have hnb' : (bs : Int) * (n : Int) ≤ 68719476736 := by
      have : ((n * bs : Nat) : Int) ≤ ((1048576 * 65536 : Nat) : Int) := by exact_mod_cast hnb
      rw [Int.natCast_mul, Int.mul_comm] at this
      omega
    have n1 : ¬ ((n : Int) < 0) := by omega
    have n2 : ¬ (281474976710656 < (bs : Int) * (n : Int)) := by omega
    have n3 : ¬ (140737488355328 < n * bs) := by omega
    have hn0 : ¬ n * sz = 0 := by
      intro h
      rcases Nat.mul_eq_zero.1 h with h | h <;> omega
    have hn1 : ¬ (n = 0 ∨ sz = 0) := by omega
    simp [execOp, hF.eval hx, hF.eval hy, Instr.makeSlice, ht.run_und, asInt, asIntOf, hi3, his3, hib3, he.run_size, wl, n1, n2, n3, newRow, askRoom, roomBytes, cl, hn0, hn1, hz, hzc', hzc]
    congr 2
    apply Array.ext
    · simp
    · intro q h1 h2
      simp [Nat.mod_lt _ hsz]) k
/-- copy of nothing. -/
theorem Ops.cpNil {t ts e : TypeId} {ge : Bool} {x y : Operand} {a0 : Option Addr} {n c bs : Nat} {zc : List Value} (hm : m.rd true = true) (hg : gst ops T gd = some true) [ht : TyD P t (.slice e)] [he : Ty P e ge 1 bs zc]
    (hx : ev T x = some (.slice a0 n c)) (hy : ev T y = some (.slice none 0 0)) (hd : Nat.blt d N.n = true) (k : Ops P N B Q ops m.tl l ((d, .int .i64 0) :: T) A) :
    Ops P N B Q ops m (⟨some d, .call { callee := .builtin .copy, args := #[x, y], argTypes := #[t, ts] }, ty, pos, af, gd⟩ :: l) T A :=
  Ops.pureV hm hg hd (fun a w hF => by
    have h2 : (Builtin.copy_ #[t, ts] ty #[.slice a0 n c, .slice none 0 0]).run P w = .ok (.int .i64 0) w := by
      cases a0 <;> simp [Builtin.copy_, ht.run_und, he.run_size, Builtin.lenOf, Builtin.firstCells, storeCells] <;> rfl
    simp only [execOp, resolve, invoke, builtin, Sem.run_bind, Sem.run_pure, Result.andThen_ok, List.map_toArray, List.map_cons, List.map_nil, hF.eval hx, hF.eval hy, h2]) k
end
end Go.Sep
namespace Go.Proofs.YtkcmjgjfodipfaaGreat
open Go Go.Sep Go.Proofs
set_option maxRecDepth 10000
set_option maxHeartbeats 4000000
set_option synthInstance.maxSize 2000
set_option linter.unusedSimpArgs false
set_option linter.unusedVariables false
/-! disks -/
def zs : ByteArray := ⟨Array.replicate 128 0⟩
theorem bv_zs : bv zs = List.replicate 128 (.int .u8 0) := by simp [bv, zs]
theorem zeros_eq (n : Nat) : List.replicate (n * 128) (Value.int .u8 0) = ((List.replicate n zs).map bv).flatten ++ [] := by
  rw [List.append_nil]
  induction n with
  | zero => rfl
  | succ n ih => rw [List.replicate_succ, List.map_cons, List.flatten_cons, ← ih, bv_zs, List.replicate_append_replicate]; congr 1; omega
@[reducible] def DkB (db g c n : Nat) (rv : Value) (ar bd : Int) (de : Bool) : Blk := (db, cl [.slice (some ⟨g, 0, none⟩) n c, rv, .int .i64 ar, .int .i64 bd, .bool de] 72)
@[reducible] def SeB (g : Nat) (S : List ByteArray) (sp : List Value) : Blk := (g, cl ((S.map bv).flatten ++ sp) 205)
/-- A disk: its sectors, how it is armed, is it dead; so many raw writes at most. -/
def DiskA (db : Nat) (S : List ByteArray) (ar bd : Int) (de : Bool) (k : Nat) (D : List Blk) : Prop :=
  ∃ g c sp rv rows H, D = DkB db g c S.length rv ar bd de :: SeB g S sp :: H ∧ Own 208 2 rv rows H ∧ rows.length ≤ k ∧ S.length ≤ c ∧ (∀ s ∈ S, s.size = 128)
theorem dnew_spec (n : Nat) (h1 : 1 ≤ n) (h2 : n ≤ 1026) : Con Tryz.prog 15 #[.int .i64 n] [] fun v A => ∃ db, v = .tuple #[ptr db, .int .i64 0] ∧ DiskA db (List.replicate n zs) 0 0 false 0 A := by
  refine Con.intro (vs := [_]) Tryz.func15 rfl Tryz.ntmps15 rfl (fun B => ?_)
  have g1 : ¬ (n : Int) < 1 := by omega
  have g2 : ¬ 1026 < (n : Int) := by omega
  repeat' (first | refine Cd.seq ?_ | refine Cd.reg ?_ | refine Ops.nil ?_ | refine Ops.mv rfl rfl rfl rfl ?_ | refine Ops.asg rfl rfl rfl rfl ?_ | refine Ops.bin rfl rfl rfl rfl rfl ?_ | refine Ops.pickF rfl rfl rfl rfl rfl ?_ | refine Cd.skip (Cd.next ?_) | refine Cd.condF rfl (by first | rfl | assumption | (simp only [decide_eq_true_eq, decide_eq_false_iff_not, Bool.not_eq_true', Bool.not_eq_false', Bool.not_eq_eq_eq_not, Bool.not_true, Bool.not_false, beq_iff_eq, beq_eq_false_iff_ne, ne_eq, decide_eq_decide, eq_self, true_iff, iff_true, not_true_eq_false, not_false_eq_true]; first | done | omega)) ?_ | ((fail_if_success refine Ops.probe rfl ?_); refine Ops.gF rfl rfl (by first | rfl | assumption | (simp only [decide_eq_true_eq, decide_eq_false_iff_not, Bool.not_eq_true', Bool.not_eq_false', Bool.not_eq_eq_eq_not, Bool.not_true, Bool.not_false, beq_iff_eq, beq_eq_false_iff_ne, ne_eq, decide_eq_decide, eq_self, true_iff, iff_true, not_true_eq_false, not_false_eq_true]; first | done | omega)) ?_))
  refine Ops.mkU (z := .int .u8 0) (sz := 128) rfl rfl rfl rfl rfl (by omega) (by omega) (by omega) (by omega) rfl (noPd rfl) (fun g => ?_)
  rw [show ((n : Int).toNat) = n from by omega, zeros_eq]
  repeat' (first | refine Ops.nil ?_ | refine Ops.asg rfl rfl rfl rfl ?_ | refine Ops.bld rfl rfl rfl rfl ?_ | refine Ops.box rfl rfl rfl rfl (noPd rfl) (fun b => ?_))
  rename Nat => db
  exact Cd.ret (ret2 (A' := [DkB db g n n (.slice none 0 0) 0 0 false, SeB g (List.replicate n zs) []]) rfl (Res.tmp rfl) (Res.tmp rfl) (fun _ h => h.split) ⟨db, rfl, g, n, [], .slice none 0 0, [], [], by rw [List.length_replicate], Own.none, Nat.le_refl _, by simp, fun s hs => by rw [List.eq_of_mem_replicate hs]; rfl⟩)
theorem dsize_spec (db : Nat) (S : List ByteArray) (ar bd : Int) (de : Bool) (k : Nat) (D : List Blk) (hD : DiskA db S ar bd de k D) : Con Tryz.prog 52 #[ptr db] D fun v A => v = .int .i64 S.length ∧ A = D := by
  obtain ⟨g, c, sp, rv, rows, H, rfl, hown, hk, hc, hs⟩ := hD
  refine Con.intro (vs := [_]) Tryz.func52 rfl Tryz.ntmps52 rfl (fun B => ?_)
  repeat' (first | refine Cd.seq ?_ | refine Cd.reg ?_ | refine Ops.nil ?_ | refine Ops.mv rfl rfl rfl rfl ?_ | refine Ops.asg rfl rfl rfl rfl ?_ | refine Ops.nilP rfl rfl rfl rfl ?_ | refine Ops.fa0 rfl rfl rfl rfl ?_ | refine Ops.ld1 rfl rfl rfl rfl rfl ?_ | refine Ops.lenS rfl rfl rfl rfl ?_)
  exact Cd.ret (ret1 (A' := DkB db g c S.length rv ar bd de :: SeB g S sp :: H) rfl (Res.tmp rfl) (fun _ h => h.split) ⟨rfl, rfl⟩)
theorem ddead_spec (db : Nat) (S : List ByteArray) (ar bd : Int) (de : Bool) (k : Nat) (D : List Blk) (hD : DiskA db S ar bd de k D) : Con Tryz.prog 53 #[ptr db] D fun v A => v = .bool de ∧ A = D := by
  obtain ⟨g, c, sp, rv, rows, H, rfl, hown, hk, hc, hs⟩ := hD
  refine Con.intro (vs := [_]) Tryz.func53 rfl Tryz.ntmps53 rfl (fun B => ?_)
  repeat' (first | refine Cd.seq ?_ | refine Cd.reg ?_ | refine Ops.nil ?_ | refine Ops.mv rfl rfl rfl rfl ?_ | refine Ops.asg rfl rfl rfl rfl ?_ | refine Ops.nilP rfl rfl rfl rfl ?_ | refine Ops.fa0 rfl rfl rfl rfl ?_ | refine Ops.ld1 rfl rfl rfl rfl rfl ?_)
  exact Cd.ret (ret1 (A' := DkB db g c S.length rv ar bd de :: SeB g S sp :: H) rfl (Res.tmp rfl) (fun _ h => h.split) ⟨rfl, rfl⟩)
theorem dis_spec (db : Nat) (S : List ByteArray) (ar bd : Int) (de : Bool) (k : Nat) (D : List Blk) (hD : DiskA db S ar bd de k D) (i : Int) : Con Tryz.prog 112 #[ptr db, .int .i64 i] D fun v A => v = .bool (decide (0 ≤ i ∧ i < S.length)) ∧ A = D := by
  obtain ⟨g, c, sp, rv, rows, H, rfl, hown, hk, hc, hs⟩ := hD
  refine Con.intro (vs := [_, _]) Tryz.func112 rfl Tryz.ntmps112 rfl (fun B => ?_)
  by_cases h0 : 0 ≤ i
  · by_cases h1 : i < (S.length : Int)
    · rw [decide_eq_true (⟨h0, h1⟩ : 0 ≤ i ∧ i < S.length)]
      repeat' (first | refine Cd.seq ?_ | refine Cd.reg ?_ | refine Ops.nil ?_ | refine Ops.mv rfl rfl rfl rfl ?_ | refine Ops.asg rfl rfl rfl rfl ?_ | refine Ops.nilP rfl rfl rfl rfl ?_ | refine Ops.fa0 rfl rfl rfl rfl ?_ | refine Ops.ld1 rfl rfl rfl rfl rfl ?_ | refine Ops.lenS rfl rfl rfl rfl ?_ | refine Ops.bin rfl rfl rfl rfl rfl ?_ | refine Ops.pickT rfl rfl rfl rfl rfl ?_ | ((fail_if_success refine Ops.probe rfl ?_); refine Ops.gT rfl rfl (by first | rfl | assumption | (simp only [decide_eq_true_eq, decide_eq_false_iff_not, Bool.not_eq_true', Bool.not_eq_false', Bool.not_eq_eq_eq_not, Bool.not_true, Bool.not_false, beq_iff_eq, beq_eq_false_iff_ne, ne_eq, decide_eq_decide, eq_self, true_iff, iff_true, not_true_eq_false, not_false_eq_true]; first | done | omega)) ?_))
      exact Cd.ret (ret1 (A' := DkB db g c S.length rv ar bd de :: SeB g S sp :: H) rfl (Res.tmp rfl) (fun _ h => h.split) ⟨by rw [decide_eq_true h1], rfl⟩)
    · rw [decide_eq_false (fun h : 0 ≤ i ∧ i < S.length => h1 h.2)]
      repeat' (first | refine Cd.seq ?_ | refine Cd.reg ?_ | refine Ops.nil ?_ | refine Ops.mv rfl rfl rfl rfl ?_ | refine Ops.asg rfl rfl rfl rfl ?_ | refine Ops.nilP rfl rfl rfl rfl ?_ | refine Ops.fa0 rfl rfl rfl rfl ?_ | refine Ops.ld1 rfl rfl rfl rfl rfl ?_ | refine Ops.lenS rfl rfl rfl rfl ?_ | refine Ops.bin rfl rfl rfl rfl rfl ?_ | refine Ops.pickT rfl rfl rfl rfl rfl ?_ | ((fail_if_success refine Ops.probe rfl ?_); refine Ops.gT rfl rfl (by first | rfl | assumption | (simp only [decide_eq_true_eq, decide_eq_false_iff_not, Bool.not_eq_true', Bool.not_eq_false', Bool.not_eq_eq_eq_not, Bool.not_true, Bool.not_false, beq_iff_eq, beq_eq_false_iff_ne, ne_eq, decide_eq_decide, eq_self, true_iff, iff_true, not_true_eq_false, not_false_eq_true]; first | done | omega)) ?_))
      exact Cd.ret (ret1 (A' := DkB db g c S.length rv ar bd de :: SeB g S sp :: H) rfl (Res.tmp rfl) (fun _ h => h.split) ⟨by rw [decide_eq_false h1], rfl⟩)
  · rw [decide_eq_false (fun h : 0 ≤ i ∧ i < S.length => h0 h.1)]
    repeat' (first | refine Cd.seq ?_ | refine Cd.reg ?_ | refine Ops.nil ?_ | refine Ops.mv rfl rfl rfl rfl ?_ | refine Ops.asg rfl rfl rfl rfl ?_ | refine Ops.bin rfl rfl rfl rfl rfl ?_ | refine Ops.pickF rfl rfl rfl rfl rfl ?_ | refine Ops.gSkip rfl rfl rfl ?_ | ((fail_if_success refine Ops.probe rfl ?_); refine Ops.gF rfl rfl (by first | rfl | assumption | (simp only [decide_eq_true_eq, decide_eq_false_iff_not, Bool.not_eq_true', Bool.not_eq_false', Bool.not_eq_eq_eq_not, Bool.not_true, Bool.not_false, beq_iff_eq, beq_eq_false_iff_ne, ne_eq, decide_eq_decide, eq_self, true_iff, iff_true, not_true_eq_false, not_false_eq_true]; first | done | omega)) ?_))
    exact Cd.ret (ret1 (A' := DkB db g c S.length rv ar bd de :: SeB g S sp :: H) rfl (Res.tmp rfl) (fun _ h => h.split) ⟨rfl, rfl⟩)
theorem bv_rows {S : List ByteArray} (hs : ∀ s ∈ S, s.size = 128) : RowsOk 128 (S.map bv) := fun r hr => by
  obtain ⟨s, h, rfl⟩ := List.mem_map.1 hr
  exact ⟨by rw [bv_len, hs s h], bv_one s⟩
theorem sec_at {S : List ByteArray} (hs : ∀ s ∈ S, s.size = 128) {i : Nat} {s : ByteArray} (hi : S[i]? = some s) (sp : List Value) : ∀ j u, (bv s)[j]? = some u → ((S.map bv).flatten ++ sp)[i * 128 + j]? = some u := fun j u hu => by
  have hr := bv_rows hs
  have hj : j < 128 := by
    have := (List.getElem?_eq_some_iff.1 hu).1
    rw [bv_len, hs s (List.mem_of_getElem? hi)] at this
    exact this
  have h1 := hr.at_ (i := i) (k := j) (r := bv s) (by rw [List.getElem?_map, hi]; rfl) hj
  rw [List.getElem?_append_left (List.getElem?_eq_some_iff.1 (h1.trans hu)).1, h1, hu]
theorem sec_set {S : List ByteArray} (hs : ∀ s ∈ S, s.size = 128) {i : Nat} {s x : ByteArray} (hi : S[i]? = some s) (hx : x.size ≤ 128) (sp : List Value) :
    ins ((S.map bv).flatten ++ sp) (i * 128) (bv x) = ((S.set i (x ++ s.extract x.size 128)).map bv).flatten ++ sp := by
  have hr := bv_rows hs
  have hlt := (List.getElem?_eq_some_iff.1 hi).1
  have hsz := hs s (List.mem_of_getElem? hi)
  have h := rows_setN (i := i) (o := 0) (r := bv s) (r' := bv (x ++ s.extract x.size 128)) (vs := bv x) hr (by rw [List.getElem?_map, hi]; rfl) ⟨by
    rw [bv_app, bv_extract]
    simp only [List.take_zero, List.nil_append, Nat.zero_add, bv_len]
    rw [List.take_of_length_le (by rw [bv_len]; omega)], by rw [bv_len, bv_len]; omega⟩ sp
  rw [Nat.add_zero] at h
  rw [h, List.map_set]
def readD (S : List ByteArray) (de : Bool) (i : Int) : ByteArray × Int := if de then (.empty, 2) else if 0 ≤ i ∧ i < S.length then (S.getD i.toNat .empty, 0) else (.empty, 40)
theorem dread_spec (db : Nat) (S : List ByteArray) (ar bd : Int) (de : Bool) (k : Nat) (D : List Blk) (hD : DiskA db S ar bd de k D) (i : Int) : Con Tryz.prog 187 #[ptr db, .int .i64 i] D fun v A => v = .tuple #[.string (readD S de i).1, .int .i64 (readD S de i).2] ∧ A = D := by
  have hD0 := hD
  obtain ⟨g, c, sp, rv, rows, H, rfl, hown, hk, hc, hs⟩ := hD
  refine Con.intro (vs := [_, _]) Tryz.func187 rfl Tryz.ntmps187 rfl (fun B => ?_)
  cases de with
  | true =>
    repeat' (first | refine Cd.seq ?_ | refine Cd.reg ?_ | refine Ops.nil ?_ | refine Ops.mv rfl rfl rfl rfl ?_ | refine Ops.asg rfl rfl rfl rfl ?_ | refine Ops.nilP rfl rfl rfl rfl ?_ | refine Ops.fa0 rfl rfl rfl rfl ?_ | refine Ops.ld1 rfl rfl rfl rfl rfl ?_ | refine Cd.condT rfl rfl ?_)
    exact Cd.ret (ret2 (A' := DkB db g c S.length rv ar bd true :: SeB g S sp :: H) rfl (Res.tmp rfl) (Res.tmp rfl) (fun _ h => h.split) ⟨rfl, rfl⟩)
  | false =>
    repeat' (first | refine Cd.seq ?_ | refine Cd.reg ?_ | refine Ops.nil ?_ | refine Ops.mv rfl rfl rfl rfl ?_ | refine Ops.asg rfl rfl rfl rfl ?_ | refine Ops.nilP rfl rfl rfl rfl ?_ | refine Ops.fa0 rfl rfl rfl rfl ?_ | refine Ops.ld1 rfl rfl rfl rfl rfl ?_ | refine Cd.condF rfl rfl ?_ | refine Cd.skip (Cd.next ?_))
    refine Ops.call (dis_spec db S ar bd false k _ hD0 i) rfl (noPd rfl) rfl rfl rfl (fun v A' hR => ?_)
    obtain ⟨rfl, rfl⟩ := hR
    by_cases hin : 0 ≤ i ∧ i < S.length
    · rw [decide_eq_true hin, show readD S false i = (S.getD i.toNat .empty, 0) from by unfold readD; rw [if_neg (by simp), if_pos hin]]
      obtain ⟨h0, h1⟩ := hin
      repeat' (first | refine Cd.seq ?_ | refine Cd.reg ?_ | refine Ops.nil ?_ | refine Ops.mv rfl rfl rfl rfl ?_ | refine Ops.nilP rfl rfl rfl rfl ?_ | refine Ops.fa0 rfl rfl rfl rfl ?_ | refine Ops.ld1 rfl rfl rfl rfl rfl ?_ | refine Ops.un rfl rfl rfl rfl ?_ | refine Cd.condF rfl rfl ?_ | refine Cd.skip (Cd.next ?_) | refine Ops.ixa0 rfl rfl rfl rfl (by omega) (by omega) rfl ?_)
      refine Ops.slAr rfl rfl rfl rfl ?_
      have hi : S[i.toNat]? = some (S.getD i.toNat .empty) := by
        rw [List.getD_eq_getElem?_getD, List.getElem?_eq_getElem (by omega)]; rfl
      refine Ops.cvSp (bs := S.getD i.toNat .empty) rfl rfl rfl (hs _ (List.mem_of_getElem? hi)) (sec_at hs hi sp) rfl ?_
      repeat' (first | refine Ops.nil ?_ | refine Ops.asg rfl rfl rfl rfl ?_)
      exact Cd.ret (ret2 (A' := DkB db g c S.length rv ar bd false :: SeB g S sp :: H) rfl (Res.tmp rfl) (Res.tmp rfl) (fun _ h => h.split) ⟨rfl, rfl⟩)
    · rw [decide_eq_false hin, show readD S false i = (.empty, 40) from by unfold readD; rw [if_neg (by simp), if_neg hin]]
      repeat' (first | refine Cd.seq ?_ | refine Cd.reg ?_ | refine Ops.nil ?_ | refine Ops.asg rfl rfl rfl rfl ?_ | refine Ops.un rfl rfl rfl rfl ?_ | refine Cd.condT rfl rfl ?_)
      exact Cd.ret (ret2 (A' := DkB db g c S.length rv ar bd false :: SeB g S sp :: H) rfl (Res.tmp rfl) (Res.tmp rfl) (fun _ h => h.split) ⟨rfl, rfl⟩)
end Go.Proofs.YtkcmjgjfodipfaaGreat
