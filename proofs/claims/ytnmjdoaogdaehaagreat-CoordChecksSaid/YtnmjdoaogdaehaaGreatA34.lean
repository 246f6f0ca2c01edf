import Derived.Test.YtnmjdoaogdaehaaGreatA27
import Derived.Test.YtnmjdoaogdaehaaGreatA15
import Derived.Lib.ConvBytes
import Derived.Test.YtnmjdoaogdaehaaGreatA33
/- Floats: is it a NaN; a text's bytes in a row of their own. -/
namespace Go.Sep
open Go
def nanQ (n : Nat) : Bool := decide (9218868437227405312 < n % 9223372036854775808)
theorem nan_order (n : Nat) : (FloatKind.f64.format.order n n != some .eq) = nanQ n := by
  have hs : Ieee.double.signWeight = 9223372036854775808 := rfl
  have hb : Ieee.double.binade = 4503599627370496 := rfl
  have hi : Ieee.double.infRung = 9218868437227405312 := rfl
  show (Ieee.double.order n n != some .eq) = nanQ n
  unfold Ieee.Format.order Ieee.Format.read nanQ
  rw [hs, hb, hi]
  dsimp only
  generalize n % 9223372036854775808 = r
  by_cases h1 : r < 4503599627370496
  · rw [if_pos h1, decide_eq_false (by omega)]
    simp [Ieee.Datum.order]
  · rw [if_neg h1]
    by_cases h2 : r < 9218868437227405312
    · rw [if_pos h2, decide_eq_false (by omega)]
      simp [Ieee.Datum.order]
    · rw [if_neg h2]
      by_cases h3 : r = 9218868437227405312
      · rw [if_pos h3, decide_eq_false (by omega)]
        simp [Ieee.Datum.order]
      · rw [if_neg h3, decide_eq_true (by omega)]
        simp [Ieee.Datum.order]
instance BinRun.neqF {P : Program} {t : TypeId} {a : Nat} : BinRun P .neq t (.float .f64 a) (.float .f64 a) (.bool (nanQ a)) := ⟨fun _ _ w => by
  rw [← nan_order]
  simp [eqGuard, binOp, Op.floatCmp]⟩
def clX (l : List Value) (E : TypeId) (p : Nat × Nat) : Obj := .cells l.toArray E p
theorem clX_cell {w : World} {b : Nat} {l : List Value} {E : TypeId} {p : Nat × Nat} (h : w.heap[b]? = some (clX l E p)) (off : Nat) : w.cell? ⟨b, off, none⟩ = l[off]? := by
  simp [World.cell?, h, clX]
section
variable {P : Program} {N : Fi} {B : Base} {Q : Exit → Act → World → Prop} {T : Tm} {A : List Blk} {ops : Array Oper} {l : List Oper}
variable {d : Nat} {ty : TypeId} {pos : String} {af : Array Edge} {m : Md} {gd : Option (Nat × Bool)}
theorem Ops.ldX {t : TypeId} {x : Operand} {b off : Nat} {sz bs : Nat} {zc : List Value} {L : List Value} {E : TypeId} {p : Nat × Nat} {v : Value} (hm : m.rd false = true) (hg : gst ops T gd = some true) [ht : Ty P t false sz bs zc]
    (hx : ev T x = some (.pointer (some ⟨b, off, none⟩))) [hb : Has A b (clX L E p)] (hv : L[off]? = some v) (hd : Nat.blt d N.n = true)
    (k : Ops P N B Q ops m.tl l ((d, v) :: T) A) : Ops P N B Q ops m (⟨some d, .load t x, ty, pos, af, gd⟩ :: l) T A :=
  Ops.readV hm hg hd (fun a w hF hS => by
    have h0 := hS.here _ hb.mem
    simp [execOp, hF.eval hx, run_loadAt1 ht ((clX_cell h0 off).trans hv)]) k
theorem Ops.cvSB {s t e : TypeId} {x : Operand} {u : ByteArray} (hm : m.eff = true) (hg : gst ops T gd = some true) [hs : TyD P s .string] [ht : TyD P t (.slice e)] [he : TyD P e (.int .u8)] (hx : ev T x = some (.string u)) (hd : Nat.blt d N.n = true)
    (hp : Pd P N B ops m T (some d) (fun v X => ∃ g c L p, v = .slice (some ⟨g, 0, none⟩) u.size c ∧ (∀ (j : Nat) (z : Value), (bv u)[j]? = some z → L[j]? = some z) ∧ X = (g, clX L e p) :: A))
    (k : ∀ g c L p, (∀ (j : Nat) (z : Value), (bv u)[j]? = some z → L[j]? = some z) → Ops P N B Q ops m.tl l ((d, .slice (some ⟨g, 0, none⟩) u.size c) :: T) ((g, clX L e p) :: A)) :
    Ops P N B Q ops m (⟨some d, .convert s t x, ty, pos, af, gd⟩ :: l) T A :=
  Ops.effV hm hp hg hd (fun a w hF hS => by
    have h1 := Lib.run_convert_string_bytes (P := P) w s t e u hs.und ht.und he.und
    simp only [execOp, hF.eval hx, Sem.run_bind, h1, Result.andThen_ok, Sem.run_pure, effPost]
    refine ⟨_, ⟨w.heap.size, _, (Lib.bytesCells w e u).toList, ((Lib.bytesCells w e u).size, (Lib.bytesCells w e u).size + 1), rfl, ?_, rfl⟩, ?_⟩
    · intro j z hz
      have : (bv u)[j]? = (u.data.map fun b => Value.int .u8 b.toNat).toList[j]? := by simp [bv]
      rw [this] at hz
      unfold Lib.bytesCells
      rw [Array.toList_append]
      exact (List.getElem?_append_left (List.getElem?_eq_some_iff.1 hz).1).trans hz
    · have h2 : Sat B ([] ++ (w.heap.size, Obj.cells (Lib.bytesCells w e u) e) :: A) (w.drew.alloc (.cells (Lib.bytesCells w e u) e)) := hS.drew.alloc (.cells (Lib.bytesCells w e u) e)
      refine h2.put (w' := Lib.bytesWorld w e u) (by simp [Lib.bytesWorld, World.freeze]) (by simp [Lib.bytesWorld, World.freeze]) (by simp [Lib.bytesWorld, World.freeze]) ?_ fun n hn => ?_
      · rw [Lib.bytesWorld_at_new]
        simp [clX]
      · simp [Lib.bytesWorld, World.freeze, Array.getElem?_modify, Ne.symm hn]) fun v X ⟨g, c, L, p, h1, h2, h3⟩ => by rw [h1, h3]; exact k g c L p h2
end
end Go.Sep
namespace Go.Proofs.YtnmjdoaogdaehaaGreat
open Go Go.Sep Go.Proofs
set_option maxRecDepth 10000
set_option maxHeartbeats 40000000
set_option synthInstance.maxSize 2000
set_option linter.unusedSimpArgs false
set_option linter.unusedVariables false
/-! floats; 64 bits that are read; the field 'result' -/
instance : ExtOk Tryz.prog 237 Extern.MathFloatBits.float64bits := ⟨⟨_, Tryz.func237, by kernel_rfl, by kernel_rfl, by kernel_rfl, by kernel_rfl⟩⟩
instance : ExtOk Tryz.prog 239 Extern.MathFloatBits.float64frombits := ⟨⟨_, Tryz.func239, by kernel_rfl, by kernel_rfl, by kernel_rfl, by kernel_rfl⟩⟩
theorem run_tobits (n : Nat) : ∀ w : World, (Extern.MathFloatBits.float64bits [Value.float .f64 n].toArray).run Tryz.prog w = .ok (.int .u64 n) w := fun w => rfl
theorem run_frombits (n : Nat) : ∀ w : World, (Extern.MathFloatBits.float64frombits [Value.int .u64 (n : Nat)].toArray).run Tryz.prog w = .ok (.float .f64 n) w := fun w => rfl
theorem isnan_spec (n : Nat) : Con Tryz.prog 236 #[.float .f64 n] [] fun v A => v = .bool (nanQ n) ∧ A = [] := by
  refine Con.intro (vs := [_]) Tryz.func236 rfl Tryz.ntmps236 rfl (fun B => ?_)
  repeat' (first | refine Cd.seq ?_ | refine Cd.reg ?_ | refine Ops.nil ?_ | refine Ops.mv rfl rfl rfl rfl ?_ | refine Ops.asg rfl rfl rfl rfl ?_ | refine Ops.bin rfl rfl rfl rfl rfl ?_ | fail)
  exact Cd.ret (ret1 (A' := []) rfl (Res.tmp rfl) (fun _ h => h.split) ⟨rfl, rfl⟩)
theorem nan_spec : Con Tryz.prog 238 #[] [] fun v A => v = .float .f64 9221120237041090561 ∧ A = [] := by
  refine Con.intro (vs := []) Tryz.func238 rfl Tryz.ntmps238 rfl (fun B => ?_)
  repeat' (first | refine Cd.seq ?_ | refine Cd.reg ?_ | refine Ops.asg rfl rfl rfl rfl ?_)
  refine Ops.extR (vs := [.int .u64 ((9221120237041090561 : Nat) : Int)]) rfl rfl rfl (run_frombits 9221120237041090561) rfl (noPd rfl) ?_
  repeat' (first | refine Ops.nil ?_ | refine Ops.asg rfl rfl rfl rfl ?_)
  exact Cd.ret (ret1 (A' := []) rfl (Res.tmp rfl) (fun _ h => h.split) ⟨rfl, rfl⟩)
theorem float_spec (n : Nat) : Con Tryz.prog 208 #[.int .u64 n] [] fun v A => v = .float .f64 n ∧ A = [] := by
  refine Con.intro (vs := [_]) Tryz.func208 rfl Tryz.ntmps208 rfl (fun B => ?_)
  repeat' (first | refine Cd.seq ?_ | refine Cd.reg ?_ | refine Ops.mv rfl rfl rfl rfl ?_ | refine Ops.asg rfl rfl rfl rfl ?_)
  refine Ops.extR (vs := [.int .u64 (n : Nat)]) rfl rfl rfl (run_frombits n) rfl (noPd rfl) ?_
  repeat' (first | refine Ops.nil ?_ | refine Ops.asg rfl rfl rfl rfl ?_)
  exact Cd.ret (ret1 (A' := []) rfl (Res.tmp rfl) (fun _ h => h.split) ⟨rfl, rfl⟩)
theorem raw_spec (n : Nat) : Con Tryz.prog 207 #[.float .f64 n] [] fun v A => v = .int .u64 (canonF n : Nat) ∧ A = [] := by
  refine Con.intro (vs := [_]) Tryz.func207 rfl Tryz.ntmps207 rfl (fun B => ?_)
  repeat' (first | refine Cd.seq ?_ | refine Cd.reg ?_ | refine Ops.mv rfl rfl rfl rfl ?_ | refine Ops.asg rfl rfl rfl rfl ?_)
  refine Ops.call (isnan_spec n) rfl (noPd rfl) rfl rfl rfl (fun v A' hR => ?_)
  obtain ⟨rfl, rfl⟩ := hR
  by_cases hn : 9218868437227405312 < n % 9223372036854775808
  · rw [show nanQ n = true from decide_eq_true hn, show canonF n = 9221120237041090561 from if_pos hn]
    repeat' (first | refine Cd.seq ?_ | refine Cd.reg ?_ | refine Ops.nil ?_ | refine Cd.condT rfl rfl ?_)
    refine Ops.call nan_spec rfl (noPd rfl) rfl rfl rfl (fun v A' hR => ?_)
    obtain ⟨rfl, rfl⟩ := hR
    skip
    refine Ops.extR (vs := [.float .f64 9221120237041090561]) rfl rfl rfl (run_tobits 9221120237041090561) rfl (noPd rfl) ?_
    repeat' (first | refine Ops.nil ?_ | refine Ops.asg rfl rfl rfl rfl ?_)
    exact Cd.ret (ret1 (A' := []) rfl (Res.tmp rfl) (fun _ h => h.split) ⟨rfl, rfl⟩)
  · rw [show nanQ n = false from decide_eq_false hn, show canonF n = n from if_neg hn]
    repeat' (first | refine Cd.seq ?_ | refine Cd.reg ?_ | refine Ops.nil ?_ | refine Ops.mv rfl rfl rfl rfl ?_ | refine Cd.condF rfl rfl ?_ | refine Cd.skip (Cd.next ?_))
    refine Ops.extR (vs := [.float .f64 n]) rfl rfl rfl (run_tobits n) rfl (noPd rfl) ?_
    repeat' (first | refine Ops.nil ?_ | refine Ops.asg rfl rfl rfl rfl ?_)
    exact Cd.ret (ret1 (A' := []) rfl (Res.tmp rfl) (fun _ h => h.split) ⟨rfl, rfl⟩)
theorem canon_spec (n : Nat) : Con Tryz.prog 155 #[.int .u64 n] [] fun v A => v = .int .u64 (canonF n : Nat) ∧ A = [] := by
  refine Con.intro (vs := [_]) Tryz.func155 rfl Tryz.ntmps155 rfl (fun B => ?_)
  repeat' (first | refine Cd.seq ?_ | refine Cd.reg ?_ | refine Ops.mv rfl rfl rfl rfl ?_ | refine Ops.asg rfl rfl rfl rfl ?_)
  refine Ops.call (float_spec n) rfl (noPd rfl) rfl rfl rfl (fun v A' hR => ?_)
  obtain ⟨rfl, rfl⟩ := hR
  refine Ops.call (raw_spec n) rfl (noPd rfl) rfl rfl rfl (fun v A' hR => ?_)
  obtain ⟨rfl, rfl⟩ := hR
  repeat' (first | refine Ops.nil ?_ | refine Ops.asg rfl rfl rfl rfl ?_)
  exact Cd.ret (ret1 (A' := []) rfl (Res.tmp rfl) (fun _ h => h.split) ⟨rfl, rfl⟩)
theorem ofn_step {a b : Nat} (ha : a < 72057594037927936) (hb : b < 256) : orI .u64 (IntKind.wrap .u64 ((a : Int) * 2 ^ 8)) (b : Int) = ((a * 256 + b : Nat) : Int) := by
  have e : IntKind.wrap .u64 ((a : Int) * 2 ^ 8) = ((a <<< 8 : Nat) : Int) := by
    rw [Nat.shiftLeft_eq]
    simp [IntKind.wrap, IntKind.bits, IntKind.signed]
    omega
  rw [e, orI_u64 (by rw [Nat.shiftLeft_eq]; omega) (by omega), ← Nat.shiftLeft_add_eq_or_of_lt (by simpa using hb), Nat.shiftLeft_eq]
theorem bv_bat {s : ByteArray} {i : Nat} (h : i < s.size) : (bv s)[i]? = some (.int .u8 ((bat s i : Nat) : Int)) := by
  have e : s.data.toList[i]? = some s[i] := by simp [ByteArray.getElem_eq_getElem_data]
  unfold bv
  rw [List.getElem?_map, e, bat_some (getElem?_pos s i h)]
  rfl
def bitsR (b : ByteArray) (p : Nat) : Int ⊕ (Nat × Nat) := if p + 8 ≤ b.size then .inr (ofn (b.extract p (p + 8)) 8, p + 8) else .inl 20
theorem bits1_spec (B0 : Base) (rb xr : Nat) (bs : ByteArray) (p : Nat) (hp : p ≤ bs.size) (hb : bs.size ≤ 1000000) :
    ConX Tryz.prog B0 209 #[ptr xr] (RdB rb bs p 0 :: [(xr, cl [ptr rb] 108)])
      (fun v A => ∃ u q, bitsR bs p = .inr (u, q) ∧ v = .int .u64 ((u : Nat) : Int) ∧ A = RdB rb bs (q : Nat) 0 :: [(xr, cl [ptr rb] 108)])
      (fun c A => ∃ er, bitsR bs p = .inl er ∧ c = [gave er] ∧ ∃ q : Nat, A = RdB rb bs q 0 :: [(xr, cl [ptr rb] 108)]) := by
  refine ConX.intro (vs := [_]) Tryz.func209 rfl Tryz.ntmps209 rfl (fun B hB => ?_)
  repeat' (first | refine Cd.seq ?_ | refine Cd.reg ?_ | refine Ops.asg rfl rfl rfl rfl ?_ | refine Ops.ld1 rfl rfl rfl rfl rfl ?_)
  refine Ops.callX (take_spec B0 rb bs p 0 8 hp hb (by omega)) hB rfl rfl rfl (fun c A' hX => ?_) (fun v A' hR => ?_)
  · obtain ⟨hlt, rfl, rfl⟩ := hX
    exact panX (A' := RdB rb bs p 0 :: [(xr, cl [ptr rb] 108)]) (fun _ h => h.split) ⟨20, if_neg hlt, rfl, p, rfl⟩
  · obtain ⟨hlt, rfl, rfl⟩ := hR
    have hsz : (bs.extract p (p + 8)).size = 8 := by rw [ByteArray.size_extract]; omega
    have hres : bitsR bs p = .inr (ofn (bs.extract p (p + 8)) 8, p + 8) := if_pos hlt
    generalize bs.extract p (p + 8) = u at hsz hres
    refine Ops.cvSB rfl rfl rfl rfl (noPd rfl) (fun g c L f hL => ?_)
    rw [hsz]
    repeat' (first | refine Ops.nil ?_ | refine Ops.mv rfl rfl rfl rfl ?_ | refine Ops.lenS rfl rfl rfl rfl ?_ | refine Cd.block ?_)
    refine Cd.loopK (σ := Nat) (fun i => i ≤ 8) (fun i => [(0, ptr xr), (2, .int .u64 ((ofn u i : Nat) : Int)), (7, .slice (some ⟨g, 0, none⟩) 8 c), (8, .int .i64 ((8 : Nat) : Int)), (9, .int .i64 ((i : Nat) : Int))]) (fun i => [(g, clX L 5 f), RdB rb bs ((p + 8 : Nat) : Int) 0, (xr, cl [ptr rb] 108)]) (fun i => 8 - i) 0 (Nat.zero_le _) ⟨rfl, rfl, rfl, rfl, rfl, trivial⟩ (fun w h => h.split) (fun i hi => ?_)
    by_cases hlt : i < 8
    · have hlt' : ((i : Nat) : Int) < ((8 : Nat) : Int) := by omega
      have hv : L[((i : Nat) : Int).toNat * 1]? = some (.int .u8 ((bat u i : Nat) : Int)) := by
        rw [show ((i : Nat) : Int).toNat * 1 = i from by omega]
        exact hL i _ (bv_bat (s := u) (i := i) (by omega))
      have ho := ofn_lt u i
      have ho2 : 256 ^ i ≤ 256 ^ 7 := Nat.pow_le_pow_right (by decide) (by omega)
      have hbl := bat_lt u i
      repeat' (first | refine Cd.seq ?_ | refine Cd.reg ?_ | refine Ops.bin rfl rfl rfl rfl rfl ?_ | refine Cd.block ?_ | refine Cd.skip (Cd.next ?_) | refine Ops.ixa0 rfl rfl rfl rfl (by omega) (by omega) rfl ?_ | refine Cd.condT rfl (by first | rfl | assumption | (simp only [decide_eq_true_eq, decide_eq_false_iff_not, Bool.not_eq_true', Bool.not_eq_false', Bool.not_eq_eq_eq_not, Bool.not_true, Bool.not_false, beq_iff_eq, beq_eq_false_iff_ne, ne_eq, decide_eq_decide, eq_self, true_iff, iff_true, not_true_eq_false, not_false_eq_true]; first | done | omega)) ?_)
      refine Ops.ldX rfl rfl rfl hv rfl ?_
      repeat' (first | refine Cd.reg ?_ | refine Ops.mv rfl rfl rfl rfl ?_ | refine Ops.asg rfl rfl rfl rfl ?_)
      refine Ops.shlI rfl rfl rfl rfl (by decide) rfl ?_
      repeat' (first | refine Ops.mv rfl rfl rfl rfl ?_)
      refine Ops.cvI rfl rfl rfl rfl ?_
      rw [wrap_u64 (by omega)]
      rw [show (2 : Int) ^ min (Int.toNat 8) (IntKind.bits .u64) = 2 ^ 8 from rfl]
      repeat' (first | refine Ops.nilN (inB (Cd.next ?_)) | refine Cd.reg ?_ | refine Ops.mv rfl rfl rfl rfl ?_ | refine Ops.asg rfl rfl rfl rfl ?_ | refine Ops.addI rfl rfl rfl rfl (by omega) (by omega) rfl ?_ | refine Ops.bin rfl rfl rfl rfl rfl ?_ | fail)
      rw [ofn_step (by omega) hbl]
      skip
      exact Ops.nilN (round_end (i + 1 : Nat) (by show i + 1 ≤ 8; omega) (by show 8 - (i + 1) < 8 - i; omega) ⟨rfl, rfl, rfl, rfl, rfl, trivial⟩ (fun w h => h.split))
    · have hlt' : ¬ ((i : Nat) : Int) < ((8 : Nat) : Int) := by omega
      have he : i = 8 := by omega
      subst he
      repeat' (first | refine Cd.seq ?_ | refine Cd.reg ?_ | refine Ops.nil ?_ | refine Ops.mv rfl rfl rfl rfl ?_ | refine Ops.asg rfl rfl rfl rfl ?_ | refine Ops.bin rfl rfl rfl rfl rfl ?_ | refine Cd.condF rfl rfl ?_ | refine Cd.exit (Cd.next (Q' := fun _ _ _ => True) ?_))
      exact Cd.ret (retX (ret1 (A' := RdB rb bs ((p + 8 : Nat) : Int) 0 :: [(xr, cl [ptr rb] 108)]) rfl (Res.tmp rfl) (fun _ h => h.split) ⟨_, _, hres, rfl, rfl⟩))
theorem rbits_spec (B0 : Base) (rb : Nat) (bs : ByteArray) (p : Nat) (e : Int) (hp : p ≤ bs.size) (hb : bs.size ≤ 1000000) :
    ConB Tryz.prog B0 158 #[ptr rb] [RdB rb bs p e] fun v A => v = .int .u64 (((rdBits bs p e).1 : Nat) : Int) ∧ A = [RdB rb bs (((rdBits bs p e).2.1 : Nat) : Int) (rdBits bs p e).2.2] := by
  refine ConB.intro (vs := [_]) Tryz.func158 rfl Tryz.ntmps158 rfl (fun B hB => ?_)
  repeat' (first | refine Ops.mkF rfl rfl rfl rfl rfl ?_ | refine Cd.seq ?_ | refine Cd.reg ?_ | refine Ops.asg rfl rfl rfl rfl ?_ | refine Ops.ld1 rfl rfl rfl rfl rfl ?_ | refine Ops.box rfl rfl rfl rfl (noPd rfl) (fun b => ?_))
  rename Nat => xr
  by_cases he : e = 0
  · subst he
    refine Ops.callB (faceuint64_new B0 rb bs p 209 [ptr xr] [(xr, cl [ptr rb] 108)] _ (bits1_spec B0 rb xr bs p hp hb)) hB rfl (noPd rfl) rfl rfl rfl (fun v A' hR => ?_)
    by_cases hlt : p + 8 ≤ bs.size
    · have hu : rdBits bs p 0 = (ofn (bs.extract p (p + 8)) 8, p + 8, 0) := (if_neg (by simp)).trans (if_pos hlt)
      have hr2 : bitsR bs p = .inr (ofn (bs.extract p (p + 8)) 8, p + 8) := if_pos hlt
      rcases hR with ⟨u, q, hr, rfl, rfl⟩ | ⟨er, hr, rfl, rfl⟩
      · rw [hr2] at hr
        injection hr with hr
        injection hr with h1 h2
        subst h1; subst h2
        rw [hu]
        repeat' (first | refine Ops.nil ?_ | refine Ops.asg rfl rfl rfl rfl ?_)
        exact Cd.ret (ret1 (A' := [RdB rb bs ((p + 8 : Nat) : Int) 0]) rfl (Res.tmp rfl) (fun _ h => h.split) ⟨rfl, rfl⟩)
      · rw [hr2] at hr; cases hr
    · have hu : rdBits bs p 0 = (0, p, 20) := (if_neg (by simp)).trans (if_neg hlt)
      have hr2 : bitsR bs p = .inl 20 := if_neg hlt
      rcases hR with ⟨u, q, hr, rfl, rfl⟩ | ⟨er, hr, rfl, rfl⟩
      · rw [hr2] at hr; cases hr
      · rw [hr2] at hr
        injection hr with h1
        subst h1
        rw [hu]
        repeat' (first | refine Ops.nil ?_ | refine Ops.asg rfl rfl rfl rfl ?_)
        exact Cd.ret (ret1 (A' := [RdB rb bs p 20]) rfl (Res.tmp rfl) (fun _ h => h.split) ⟨rfl, rfl⟩)
  · refine Ops.callB (faceuint64_old B0 rb bs p e 209 [ptr xr] he) hB rfl (noPd rfl) rfl rfl rfl (fun v A' hR => ?_)
    obtain ⟨rfl, rfl⟩ := hR
    rw [show rdBits bs p e = (0, p, e) from if_pos he]
    repeat' (first | refine Ops.nil ?_ | refine Ops.asg rfl rfl rfl rfl ?_)
    exact Cd.ret (ret1 (A' := [RdB rb bs p e]) rfl (Res.tmp rfl) (fun _ h => h.split) ⟨rfl, rfl⟩)
end Go.Proofs.YtnmjdoaogdaehaaGreat
namespace Go.Proofs.YtnmjdoaogdaehaaGreat
open Go Go.Sep Go.Proofs
set_option maxRecDepth 10000
set_option maxHeartbeats 40000000
set_option synthInstance.maxSize 2000
set_option linter.unusedSimpArgs false
set_option linter.unusedVariables false
/-! the field 'result' -/
theorem result1_spec (mb : Nat) (m : Ms) (hx : 0 ≤ m.rbits) :
    Con Tryz.prog 154 #[ptr mb] [MgB mb m.row] fun v A => v = .bool (Fd.may m .result) ∧ A = [MgB mb m.row] := by
  obtain ⟨kd, se, nu, jo, ba, ix, co, rc, rb, tx, pr⟩ := m
  dsimp only at hx
  obtain ⟨x, rfl⟩ : ∃ x : Nat, rb = x := ⟨rb.toNat, by omega⟩
  refine Con.intro (vs := [_]) Tryz.func154 rfl Tryz.ntmps154 rfl (fun B => ?_)
  simp only [Fd.may, Int.toNat_natCast]
  by_cases h0 : rc = 0
  · by_cases hc : ((canonF x : Nat) : Int) = (x : Int)
    · repeat' (first | refine Cd.seq ?_ | refine Cd.reg ?_ | refine Ops.mv rfl rfl rfl rfl ?_ | refine Ops.asg rfl rfl rfl rfl ?_ | refine Ops.nilP rfl rfl rfl rfl ?_ | refine Ops.fa0 rfl rfl rfl rfl ?_ | refine Ops.ldN rfl rfl rfl rfl ?_ | refine Ops.alloc rfl rfl rfl (noPd rfl) (fun b => ?_) | refine Ops.stN rfl rfl rfl rfl rfl rfl (noPd rfl) ?_)
      refine Cd.draw [(0, 0, []), (1, 1, []), (2, 0, []), (3, 0, []), (4, 0, []), (5, 1, []), (7, 0, []), (8, 1, []), (6, 2, [8]), (9, 0, []), (10, 0, []), (11, 0, []), (12, 0, []), (13, 1, []), (14, 0, []), (15, 0, []), (16, 0, []), (17, 1, []), (18, 0, []), (19, 0, []), (20, 0, []), (21, 0, []), (22, 1, []), (23, 0, []), (24, 0, []), (25, 0, []), (26, 0, [])] (by kernel_rfl) (by kernel_rfl) (by simp only [picked, nth]; exact rfl) ?_
      repeat' (first | refine Ops.mv rfl rfl rfl rfl ?_ | refine Ops.fa0 rfl rfl rfl rfl ?_ | refine Ops.ld1 rfl rfl rfl rfl rfl ?_ | refine Ops.bin rfl rfl rfl rfl rfl ?_ | ((fail_if_success refine Ops.probe rfl ?_); refine Ops.gT rfl rfl (by first | rfl | assumption | (simp only [decide_eq_true_eq, decide_eq_false_iff_not, Bool.not_eq_true', Bool.not_eq_false', Bool.not_eq_eq_eq_not, Bool.not_true, Bool.not_false, beq_iff_eq, beq_eq_false_iff_ne, ne_eq, decide_eq_decide, eq_self, true_iff, iff_true, not_true_eq_false, not_false_eq_true]; first | done | omega)) ?_))
      refine Ops.call (canon_spec x) rfl (by first | exact noPd rfl | (intro v A' hR i hi; obtain ⟨A2, hR, rfl⟩ := hR; (try obtain ⟨rfl, rfl⟩ := hR); (repeat (rcases List.mem_cons.1 hi with rfl | hi; · (first | exact Still.ld1 rfl rfl rfl rfl rfl | exact Still.ldN rfl rfl rfl rfl | exact Still.len rfl rfl rfl rfl rfl | exact Still.skip rfl rfl rfl | exact Still.ldRow1 rfl rfl rfl (by assumption) (by assumption) rfl rfl | exact Still.ldR rfl rfl rfl (by apply_assumption) rfl))); cases hi)) rfl rfl rfl (fun v A' hR => ?_)
      obtain ⟨rfl, rfl⟩ := hR
      repeat' (first | refine Ops.nil ?_ | refine Ops.mv rfl rfl rfl rfl ?_ | refine Ops.asg rfl rfl rfl rfl ?_ | refine Ops.bin rfl rfl rfl rfl rfl ?_ | refine Ops.pickT rfl rfl rfl rfl rfl ?_ | refine Ops.gSkip rfl rfl rfl ?_ | refine Ops.gSkipU rfl rfl rfl rfl ?_ | ((fail_if_success refine Ops.probe rfl ?_); refine Ops.gT rfl rfl (by first | rfl | assumption | (simp only [decide_eq_true_eq, decide_eq_false_iff_not, Bool.not_eq_true', Bool.not_eq_false', Bool.not_eq_eq_eq_not, Bool.not_true, Bool.not_false, beq_iff_eq, beq_eq_false_iff_ne, ne_eq, decide_eq_decide, eq_self, true_iff, iff_true, not_true_eq_false, not_false_eq_true]; first | done | omega)) ?_))
      exact Cd.ret (ret1 (A' := [MgB mb [.int .i64 kd, .int .i64 se, .int .i64 nu, .int .i64 jo, .int .i64 ba, .int .i64 ix, .int .i64 co, .int .i64 rc, .int .u64 x, .string tx, .string pr]]) rfl (Res.tmp rfl) (fun _ h => h.split) ⟨by simp [h0, hc], rfl⟩)
    · repeat' (first | refine Cd.seq ?_ | refine Cd.reg ?_ | refine Ops.mv rfl rfl rfl rfl ?_ | refine Ops.asg rfl rfl rfl rfl ?_ | refine Ops.nilP rfl rfl rfl rfl ?_ | refine Ops.fa0 rfl rfl rfl rfl ?_ | refine Ops.ldN rfl rfl rfl rfl ?_ | refine Ops.alloc rfl rfl rfl (noPd rfl) (fun b => ?_) | refine Ops.stN rfl rfl rfl rfl rfl rfl (noPd rfl) ?_)
      refine Cd.draw [(0, 0, []), (1, 1, []), (2, 0, []), (3, 0, []), (4, 0, []), (5, 1, []), (7, 0, []), (8, 1, []), (6, 2, [8]), (9, 0, []), (10, 0, []), (11, 0, []), (12, 0, []), (13, 1, []), (14, 0, []), (15, 0, []), (16, 0, []), (17, 1, []), (18, 0, []), (19, 0, []), (20, 0, []), (21, 0, []), (22, 1, []), (23, 0, []), (24, 0, []), (25, 0, []), (26, 0, [])] (by kernel_rfl) (by kernel_rfl) (by simp only [picked, nth]; exact rfl) ?_
      repeat' (first | refine Ops.mv rfl rfl rfl rfl ?_ | refine Ops.fa0 rfl rfl rfl rfl ?_ | refine Ops.ld1 rfl rfl rfl rfl rfl ?_ | refine Ops.bin rfl rfl rfl rfl rfl ?_ | ((fail_if_success refine Ops.probe rfl ?_); refine Ops.gT rfl rfl (by first | rfl | assumption | (simp only [decide_eq_true_eq, decide_eq_false_iff_not, Bool.not_eq_true', Bool.not_eq_false', Bool.not_eq_eq_eq_not, Bool.not_true, Bool.not_false, beq_iff_eq, beq_eq_false_iff_ne, ne_eq, decide_eq_decide, eq_self, true_iff, iff_true, not_true_eq_false, not_false_eq_true]; first | done | omega)) ?_))
      refine Ops.call (canon_spec x) rfl (by first | exact noPd rfl | (intro v A' hR i hi; obtain ⟨A2, hR, rfl⟩ := hR; (try obtain ⟨rfl, rfl⟩ := hR); (repeat (rcases List.mem_cons.1 hi with rfl | hi; · (first | exact Still.ld1 rfl rfl rfl rfl rfl | exact Still.ldN rfl rfl rfl rfl | exact Still.len rfl rfl rfl rfl rfl | exact Still.skip rfl rfl rfl | exact Still.ldRow1 rfl rfl rfl (by assumption) (by assumption) rfl rfl | exact Still.ldR rfl rfl rfl (by apply_assumption) rfl))); cases hi)) rfl rfl rfl (fun v A' hR => ?_)
      obtain ⟨rfl, rfl⟩ := hR
      repeat' (first | refine Ops.nil ?_ | refine Ops.mv rfl rfl rfl rfl ?_ | refine Ops.asg rfl rfl rfl rfl ?_ | refine Ops.fa0 rfl rfl rfl rfl ?_ | refine Ops.ld1 rfl rfl rfl rfl rfl ?_ | refine Ops.bin rfl rfl rfl rfl rfl ?_ | refine Ops.pickT rfl rfl rfl rfl rfl ?_ | refine Ops.pickF rfl rfl rfl rfl rfl ?_ | refine Ops.gSkip rfl rfl rfl ?_ | ((fail_if_success refine Ops.probe rfl ?_); refine Ops.gF rfl rfl (by first | rfl | assumption | (simp only [decide_eq_true_eq, decide_eq_false_iff_not, Bool.not_eq_true', Bool.not_eq_false', Bool.not_eq_eq_eq_not, Bool.not_true, Bool.not_false, beq_iff_eq, beq_eq_false_iff_ne, ne_eq, decide_eq_decide, eq_self, true_iff, iff_true, not_true_eq_false, not_false_eq_true]; first | done | omega)) ?_))
      exact Cd.ret (ret1 (A' := [MgB mb [.int .i64 kd, .int .i64 se, .int .i64 nu, .int .i64 jo, .int .i64 ba, .int .i64 ix, .int .i64 co, .int .i64 rc, .int .u64 x, .string tx, .string pr]]) rfl (Res.tmp rfl) (fun _ h => h.split) ⟨by simp [h0, hc], rfl⟩)
  · by_cases h1 : 0 < rc
    · by_cases h2 : rc ≤ 7
      · repeat' (first | refine Cd.seq ?_ | refine Cd.reg ?_ | refine Ops.mv rfl rfl rfl rfl ?_ | refine Ops.asg rfl rfl rfl rfl ?_ | refine Ops.nilP rfl rfl rfl rfl ?_ | refine Ops.fa0 rfl rfl rfl rfl ?_ | refine Ops.ldN rfl rfl rfl rfl ?_ | refine Ops.alloc rfl rfl rfl (noPd rfl) (fun b => ?_) | refine Ops.stN rfl rfl rfl rfl rfl rfl (noPd rfl) ?_)
        refine Cd.draw [(0, 0, []), (1, 1, []), (2, 0, []), (3, 0, []), (4, 0, []), (5, 1, []), (7, 0, []), (8, 1, []), (6, 2, [8]), (9, 0, []), (10, 0, []), (11, 0, []), (12, 0, []), (13, 1, []), (14, 0, []), (15, 0, []), (16, 0, []), (17, 1, []), (18, 0, []), (19, 0, []), (20, 0, []), (21, 0, []), (22, 1, []), (23, 0, []), (24, 0, []), (25, 0, []), (26, 0, [])] (by kernel_rfl) (by kernel_rfl) (by simp only [picked, nth]; exact rfl) ?_
        repeat' (first | refine Ops.nil ?_ | refine Ops.mv rfl rfl rfl rfl ?_ | refine Ops.asg rfl rfl rfl rfl ?_ | refine Ops.fa0 rfl rfl rfl rfl ?_ | refine Ops.ld1 rfl rfl rfl rfl rfl ?_ | refine Ops.bin rfl rfl rfl rfl rfl ?_ | refine Ops.pickT rfl rfl rfl rfl rfl ?_ | refine Ops.pickF rfl rfl rfl rfl rfl ?_ | refine Ops.gSkip rfl rfl rfl ?_ | refine Ops.gSkipE rfl (by first | exact noPd rfl | (intro v A' hR i hi; obtain ⟨rfl, rfl⟩ := hR; (repeat (rcases List.mem_cons.1 hi with rfl | hi; · (first | exact Still.ld1 rfl rfl rfl rfl rfl | exact Still.ldN rfl rfl rfl rfl | exact Still.len rfl rfl rfl rfl rfl | exact Still.skip rfl rfl rfl | exact Still.ldRow1 rfl rfl rfl (by assumption) (by assumption) rfl rfl | exact Still.ldR rfl rfl rfl (by apply_assumption) rfl))); cases hi)) rfl rfl ?_ | ((fail_if_success refine Ops.probe rfl ?_); refine Ops.gT rfl rfl (by first | rfl | assumption | (simp only [decide_eq_true_eq, decide_eq_false_iff_not, Bool.not_eq_true', Bool.not_eq_false', Bool.not_eq_eq_eq_not, Bool.not_true, Bool.not_false, beq_iff_eq, beq_eq_false_iff_ne, ne_eq, decide_eq_decide, eq_self, true_iff, iff_true, not_true_eq_false, not_false_eq_true]; first | done | omega)) ?_) | ((fail_if_success refine Ops.probe rfl ?_); refine Ops.gF rfl rfl (by first | rfl | assumption | (simp only [decide_eq_true_eq, decide_eq_false_iff_not, Bool.not_eq_true', Bool.not_eq_false', Bool.not_eq_eq_eq_not, Bool.not_true, Bool.not_false, beq_iff_eq, beq_eq_false_iff_ne, ne_eq, decide_eq_decide, eq_self, true_iff, iff_true, not_true_eq_false, not_false_eq_true]; first | done | omega)) ?_))
        exact Cd.ret (ret1 (A' := [MgB mb [.int .i64 kd, .int .i64 se, .int .i64 nu, .int .i64 jo, .int .i64 ba, .int .i64 ix, .int .i64 co, .int .i64 rc, .int .u64 x, .string tx, .string pr]]) rfl (Res.tmp rfl) (fun _ h => h.split) ⟨by simp [h0, h1, h2], rfl⟩)
      · repeat' (first | refine Cd.seq ?_ | refine Cd.reg ?_ | refine Ops.mv rfl rfl rfl rfl ?_ | refine Ops.asg rfl rfl rfl rfl ?_ | refine Ops.nilP rfl rfl rfl rfl ?_ | refine Ops.fa0 rfl rfl rfl rfl ?_ | refine Ops.ldN rfl rfl rfl rfl ?_ | refine Ops.alloc rfl rfl rfl (noPd rfl) (fun b => ?_) | refine Ops.stN rfl rfl rfl rfl rfl rfl (noPd rfl) ?_)
        refine Cd.draw [(0, 0, []), (1, 1, []), (2, 0, []), (3, 0, []), (4, 0, []), (5, 1, []), (7, 0, []), (8, 1, []), (6, 2, [8]), (9, 0, []), (10, 0, []), (11, 0, []), (12, 0, []), (13, 1, []), (14, 0, []), (15, 0, []), (16, 0, []), (17, 1, []), (18, 0, []), (19, 0, []), (20, 0, []), (21, 0, []), (22, 1, []), (23, 0, []), (24, 0, []), (25, 0, []), (26, 0, [])] (by kernel_rfl) (by kernel_rfl) (by simp only [picked, nth]; exact rfl) ?_
        repeat' (first | refine Ops.nil ?_ | refine Ops.mv rfl rfl rfl rfl ?_ | refine Ops.asg rfl rfl rfl rfl ?_ | refine Ops.fa0 rfl rfl rfl rfl ?_ | refine Ops.ld1 rfl rfl rfl rfl rfl ?_ | refine Ops.bin rfl rfl rfl rfl rfl ?_ | refine Ops.pickT rfl rfl rfl rfl rfl ?_ | refine Ops.pickF rfl rfl rfl rfl rfl ?_ | refine Ops.gSkip rfl rfl rfl ?_ | refine Ops.gSkipE rfl (by first | exact noPd rfl | (intro v A' hR i hi; obtain ⟨rfl, rfl⟩ := hR; (repeat (rcases List.mem_cons.1 hi with rfl | hi; · (first | exact Still.ld1 rfl rfl rfl rfl rfl | exact Still.ldN rfl rfl rfl rfl | exact Still.len rfl rfl rfl rfl rfl | exact Still.skip rfl rfl rfl | exact Still.ldRow1 rfl rfl rfl (by assumption) (by assumption) rfl rfl | exact Still.ldR rfl rfl rfl (by apply_assumption) rfl))); cases hi)) rfl rfl ?_ | ((fail_if_success refine Ops.probe rfl ?_); refine Ops.gT rfl rfl (by first | rfl | assumption | (simp only [decide_eq_true_eq, decide_eq_false_iff_not, Bool.not_eq_true', Bool.not_eq_false', Bool.not_eq_eq_eq_not, Bool.not_true, Bool.not_false, beq_iff_eq, beq_eq_false_iff_ne, ne_eq, decide_eq_decide, eq_self, true_iff, iff_true, not_true_eq_false, not_false_eq_true]; first | done | omega)) ?_) | ((fail_if_success refine Ops.probe rfl ?_); refine Ops.gF rfl rfl (by first | rfl | assumption | (simp only [decide_eq_true_eq, decide_eq_false_iff_not, Bool.not_eq_true', Bool.not_eq_false', Bool.not_eq_eq_eq_not, Bool.not_true, Bool.not_false, beq_iff_eq, beq_eq_false_iff_ne, ne_eq, decide_eq_decide, eq_self, true_iff, iff_true, not_true_eq_false, not_false_eq_true]; first | done | omega)) ?_))
        exact Cd.ret (ret1 (A' := [MgB mb [.int .i64 kd, .int .i64 se, .int .i64 nu, .int .i64 jo, .int .i64 ba, .int .i64 ix, .int .i64 co, .int .i64 rc, .int .u64 x, .string tx, .string pr]]) rfl (Res.tmp rfl) (fun _ h => h.split) ⟨by simp [h0, h1, h2], rfl⟩)
    · repeat' (first | refine Cd.seq ?_ | refine Cd.reg ?_ | refine Ops.mv rfl rfl rfl rfl ?_ | refine Ops.asg rfl rfl rfl rfl ?_ | refine Ops.nilP rfl rfl rfl rfl ?_ | refine Ops.fa0 rfl rfl rfl rfl ?_ | refine Ops.ldN rfl rfl rfl rfl ?_ | refine Ops.alloc rfl rfl rfl (noPd rfl) (fun b => ?_) | refine Ops.stN rfl rfl rfl rfl rfl rfl (noPd rfl) ?_)
      refine Cd.draw [(0, 0, []), (1, 1, []), (2, 0, []), (3, 0, []), (4, 0, []), (5, 1, []), (7, 0, []), (8, 1, []), (6, 2, [8]), (9, 0, []), (10, 0, []), (11, 0, []), (12, 0, []), (13, 1, []), (14, 0, []), (15, 0, []), (16, 0, []), (17, 1, []), (18, 0, []), (19, 0, []), (20, 0, []), (21, 0, []), (22, 1, []), (23, 0, []), (24, 0, []), (25, 0, []), (26, 0, [])] (by kernel_rfl) (by kernel_rfl) (by simp only [picked, nth]; exact rfl) ?_
      repeat' (first | refine Ops.nil ?_ | refine Ops.mv rfl rfl rfl rfl ?_ | refine Ops.asg rfl rfl rfl rfl ?_ | refine Ops.fa0 rfl rfl rfl rfl ?_ | refine Ops.ld1 rfl rfl rfl rfl rfl ?_ | refine Ops.bin rfl rfl rfl rfl rfl ?_ | refine Ops.pickF rfl rfl rfl rfl rfl ?_ | refine Ops.gSkip rfl rfl rfl ?_ | refine Ops.gSkipE rfl (by first | exact noPd rfl | (intro v A' hR i hi; obtain ⟨rfl, rfl⟩ := hR; (repeat (rcases List.mem_cons.1 hi with rfl | hi; · (first | exact Still.ld1 rfl rfl rfl rfl rfl | exact Still.ldN rfl rfl rfl rfl | exact Still.len rfl rfl rfl rfl rfl | exact Still.skip rfl rfl rfl | exact Still.ldRow1 rfl rfl rfl (by assumption) (by assumption) rfl rfl | exact Still.ldR rfl rfl rfl (by apply_assumption) rfl))); cases hi)) rfl rfl ?_ | ((fail_if_success refine Ops.probe rfl ?_); refine Ops.gF rfl rfl (by first | rfl | assumption | (simp only [decide_eq_true_eq, decide_eq_false_iff_not, Bool.not_eq_true', Bool.not_eq_false', Bool.not_eq_eq_eq_not, Bool.not_true, Bool.not_false, beq_iff_eq, beq_eq_false_iff_ne, ne_eq, decide_eq_decide, eq_self, true_iff, iff_true, not_true_eq_false, not_false_eq_true]; first | done | omega)) ?_))
      exact Cd.ret (ret1 (A' := [MgB mb [.int .i64 kd, .int .i64 se, .int .i64 nu, .int .i64 jo, .int .i64 ba, .int .i64 ix, .int .i64 co, .int .i64 rc, .int .u64 x, .string tx, .string pr]]) rfl (Res.tmp rfl) (fun _ h => h.split) ⟨by simp [h0, h1], rfl⟩)
theorem result2_spec (mb : Nat) (m : Ms) (hx : 0 ≤ m.rbits ∧ m.rbits < 18446744073709551616) (h0 : 0 ≤ m.rcode) (h1 : m.rcode < 18446744073709551616) :
    Con Tryz.prog 156 #[ptr mb] [MgB mb m.row] fun v A => v = .string (Fd.lay m .result) ∧ A = [MgB mb m.row] := by
  obtain ⟨kd, se, nu, jo, ba, ix, co, rc, rb, tx, pr⟩ := m
  dsimp only at hx h0 h1
  obtain ⟨x, rfl⟩ : ∃ x : Nat, rb = x := ⟨rb.toNat, by omega⟩
  obtain ⟨r, rfl⟩ : ∃ r : Nat, rc = r := ⟨rc.toNat, by omega⟩
  refine Con.intro (vs := [_]) Tryz.func156 rfl Tryz.ntmps156 rfl (fun B => ?_)
  simp only [Fd.lay, Int.toNat_natCast]
  have hs := numB_size (n := r) (by omega)
  have hs2 := hiB_size x 8
  repeat' (first | refine Cd.seq ?_ | refine Cd.reg ?_ | refine Ops.asg rfl rfl rfl rfl ?_)
  refine Cd.draw [(0, 0, []), (1, 0, []), (2, 0, []), (3, 0, []), (4, 1, []), (5, 0, []), (7, 0, []), (8, 0, []), (9, 0, []), (10, 0, []), (11, 1, []), (6, 2, [11]), (12, 2, []), (13, 0, []), (14, 0, [])] (by kernel_rfl) (by kernel_rfl) (by simp only [picked, nth]; exact rfl) ?_
  repeat' (first | refine Ops.mv rfl rfl rfl rfl ?_ | refine Ops.nilP rfl rfl rfl rfl ?_ | refine Ops.fa0 rfl rfl rfl rfl ?_ | refine Ops.fa rfl rfl rfl rfl ?_ | refine Ops.ld1 rfl rfl rfl rfl rfl ?_)
  refine Ops.cvI rfl rfl rfl rfl ?_
  rw [wrap_u64 (by omega)]
  repeat' (first | refine Ops.mv rfl rfl rfl rfl ?_ | refine Ops.nilP rfl rfl rfl rfl ?_ | refine Ops.fa0 rfl rfl rfl rfl ?_ | refine Ops.fa rfl rfl rfl rfl ?_ | refine Ops.ld1 rfl rfl rfl rfl rfl ?_)
  refine Ops.call (num_spec r (by omega)) rfl (by first | exact noPd rfl | (intro v A' hR i hi; obtain ⟨A2, hR, rfl⟩ := hR; (try obtain ⟨rfl, rfl⟩ := hR); (repeat (rcases List.mem_cons.1 hi with rfl | hi; · (first | exact Still.ld1 rfl rfl rfl rfl rfl | exact Still.ldN rfl rfl rfl rfl | exact Still.len rfl rfl rfl rfl rfl | exact Still.skip rfl rfl rfl | exact Still.ldRow1 rfl rfl rfl (by assumption) (by assumption) rfl rfl | exact Still.ldR rfl rfl rfl (by apply_assumption) rfl))); cases hi)) rfl rfl rfl (fun v A' hR => ?_)
  obtain ⟨rfl, rfl⟩ := hR
  skip
  refine Ops.call (bits_spec x (by omega)) rfl (by first | exact noPd rfl | (intro v A' hR i hi; obtain ⟨A2, hR, rfl⟩ := hR; (try obtain ⟨rfl, rfl⟩ := hR); (repeat (rcases List.mem_cons.1 hi with rfl | hi; · (first | exact Still.ld1 rfl rfl rfl rfl rfl | exact Still.ldN rfl rfl rfl rfl | exact Still.len rfl rfl rfl rfl rfl | exact Still.skip rfl rfl rfl | exact Still.ldRow1 rfl rfl rfl (by assumption) (by assumption) rfl rfl | exact Still.ldR rfl rfl rfl (by apply_assumption) rfl))); cases hi)) rfl rfl rfl (fun v A' hR => ?_)
  obtain ⟨rfl, rfl⟩ := hR
  refine Ops.cat rfl rfl rfl rfl (by omega) rfl ?_
  repeat' (first | refine Ops.nil ?_ | refine Ops.asg rfl rfl rfl rfl ?_)
  exact Cd.ret (ret1 (A' := [MgB mb [.int .i64 kd, .int .i64 se, .int .i64 nu, .int .i64 jo, .int .i64 ba, .int .i64 ix, .int .i64 co, .int .i64 r, .int .u64 x, .string tx, .string pr]]) rfl (Res.tmp rfl) (fun _ h => h.split) ⟨rfl, rfl⟩)
theorem result3_spec (B0 : Base) (mb rb : Nat) (m : Ms) (bs : ByteArray) (p : Nat) (e : Int) (hp : p ≤ bs.size) (hb : bs.size ≤ 1000000) :
    ConB Tryz.prog B0 157 #[ptr mb, ptr rb] [MgB mb m.row, RdB rb bs p e] fun v A => A = [MgB mb (Fd.read bs (m, p, e) .result).1.row, RdB rb bs ((Fd.read bs (m, p, e) .result).2.1 : Nat) (Fd.read bs (m, p, e) .result).2.2] := by
  obtain ⟨kd, se, nu, jo, ba, ix, co, rc, rbt, tx, pr⟩ := m
  refine ConB.intro (vs := [_, _]) Tryz.func157 rfl Tryz.ntmps157 rfl (fun B hB => ?_)
  repeat' (first | refine Cd.reg ?_ | refine Ops.mv rfl rfl rfl rfl ?_)
  refine Ops.callB (rnum_spec B0 rb bs p 7 e hp hb (by omega)) hB rfl (noPd rfl) rfl rfl rfl (fun v A' hR => ?_)
  obtain ⟨rfl, rfl⟩ := hR
  have h1 : (rdNum bs 7 p e).1 ≤ 7 := rdNum_le
  have h2 : (rdNum bs 7 p e).2.1 ≤ bs.size := rdNum_at hp
  refine Ops.cvI rfl rfl rfl rfl ?_
  rw [wrap_i64 (by omega)]
  repeat' (first | refine Ops.mv rfl rfl rfl rfl ?_)
  refine Ops.callB (rbits_spec B0 rb bs (rdNum bs 7 p e).2.1 (rdNum bs 7 p e).2.2 h2 hb) hB rfl (noPd rfl) rfl rfl rfl (fun v A' hR => ?_)
  obtain ⟨rfl, rfl⟩ := hR
  repeat' (first | refine Ops.nilP rfl rfl rfl rfl ?_ | refine Ops.fa0 rfl rfl rfl rfl ?_ | refine Ops.bld rfl rfl rfl rfl ?_ | refine Ops.stN rfl rfl rfl rfl rfl rfl (noPd rfl) ?_)
  exact Ops.nilN (end0 (A' := [MgB mb [.int .i64 kd, .int .i64 se, .int .i64 nu, .int .i64 jo, .int .i64 ba, .int .i64 ix, .int .i64 co, .int .i64 (((rdNum bs 7 p e).1 : Nat) : Int), .int .u64 (((rdBits bs (rdNum bs 7 p e).2.1 (rdNum bs 7 p e).2.2).1 : Nat) : Int), .string tx, .string pr], RdB rb bs (((rdBits bs (rdNum bs 7 p e).2.1 (rdNum bs 7 p e).2.2).2.1 : Nat) : Int) (rdBits bs (rdNum bs 7 p e).2.1 (rdNum bs 7 p e).2.2).2.2]) rfl (fun _ h => h.split) rfl)
theorem result_fd : FdA .result (fnV 154) (fnV 156) (fnV 157) [] := by
  refine ⟨⟨_, [], rfl, inferInstance, fun mb m hok => ?_⟩, ⟨_, [], rfl, inferInstance, fun mb m hok hm => ?_⟩, ⟨_, [], rfl, inferInstance, fun B0 mb m rb bs p e hp hb => ?_⟩⟩
  · exact result1_spec mb m hok.x.1
  · have h : 0 ≤ m.rcode ∧ m.rcode ≤ 7 := by
      simp only [Fd.may, Bool.or_eq_true, Bool.and_eq_true, decide_eq_true_eq] at hm
      omega
    exact result2_spec mb m hok.x h.1 (by omega)
  · exact result3_spec B0 mb rb m bs p e hp hb
theorem result_spec : Con Tryz.prog 100 #[] [] fun v A => ∃ v1 v2 v3, v = .agg [v1, v2, v3].toArray ∧ FdA .result v1 v2 v3 A := by
  refine Con.intro (vs := []) Tryz.func100 rfl Tryz.ntmps100 rfl (fun B => ?_)
  repeat' (first | refine Cd.seq ?_ | refine Cd.reg ?_ | refine Ops.nil ?_ | refine Ops.bld rfl rfl rfl rfl ?_ | refine Ops.alloc rfl rfl rfl (noPd rfl) (fun b => ?_) | refine Ops.stN rfl rfl rfl rfl rfl rfl (noPd rfl) ?_)
  exact Cd.ret (ret1 (A' := []) rfl (Res.cellN rfl) (fun _ h => h.split) ⟨_, _, _, rfl, result_fd⟩)
end Go.Proofs.YtnmjdoaogdaehaaGreat
