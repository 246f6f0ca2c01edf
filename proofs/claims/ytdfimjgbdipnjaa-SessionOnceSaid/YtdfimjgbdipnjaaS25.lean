import Derived.Test.YtdfimjgbdipnjaaS19
import Derived.Test.YtdfimjgbdipnjaaSep16
import Derived.Test.YtdfimjgbdipnjaaSep19
import Derived.Test.YtdfimjgbdipnjaaSep25
namespace Go.Proofs.Ytdfimjgbdipnjaa
open Go Go.Sep Go.Proofs
set_option maxRecDepth 10000
set_option maxHeartbeats 4000000
set_option synthInstance.maxSize 2000
set_option linter.unusedSimpArgs false
set_option linter.unusedVariables false

/-! A number's text. -/
def textB (n : Nat) : ByteArray := bytesS [IntKind.u8.wrap ((n : Int).fdiv (2 ^ 16)), IntKind.u8.wrap ((n : Int).fdiv (2 ^ 8)), IntKind.u8.wrap (n : Int)]
theorem textB_size (n : Nat) : (textB n).size = 3 := by simp [textB, bytesS, ByteArray.size_push]
theorem bytesS3 (a b c : Int) : bytesS [a, b, c] = ⟨#[UInt8.ofNat a.toNat, UInt8.ofNat b.toNat, UInt8.ofNat c.toNat]⟩ := rfl
theorem textB_at (n i : Nat) (hn : n < 16777216) (hi : i < 3) : ∃ b : UInt8, (textB n)[i]? = some b ∧ b.toNat = n / 256 ^ (2 - i) % 256 := by
  have e1 : IntKind.u8.wrap ((n : Int).fdiv (2 ^ 16)) = ((n / 65536 : Nat) : Int) := by
    rw [Int.fdiv_eq_ediv_of_nonneg _ (by decide), show (2 : Int) ^ 16 = 65536 from rfl]
    show ((n : Int) / 65536) % 256 = _
    omega
  have e2 : IntKind.u8.wrap ((n : Int).fdiv (2 ^ 8)) = ((n / 256 % 256 : Nat) : Int) := by
    rw [Int.fdiv_eq_ediv_of_nonneg _ (by decide), show (2 : Int) ^ 8 = 256 from rfl]
    show ((n : Int) / 256) % 256 = _
    omega
  have e3 : IntKind.u8.wrap (n : Int) = ((n % 256 : Nat) : Int) := by
    show (n : Int) % 256 = _
    omega
  unfold textB
  rw [e1, e2, e3, bytesS3, Int.toNat_natCast, Int.toNat_natCast, Int.toNat_natCast]
  match i, hi with
  | 0, _ => exact ⟨UInt8.ofNat (n / 65536), rfl, by rw [UInt8.toNat_ofNat']⟩
  | 1, _ => exact ⟨UInt8.ofNat (n / 256 % 256), rfl, by rw [UInt8.toNat_ofNat']; show n / 256 % 256 % 256 = n / 256 % 256; omega⟩
  | 2, _ => exact ⟨UInt8.ofNat (n % 256), rfl, by rw [UInt8.toNat_ofNat']; show n % 256 % 256 = n / 1 % 256; omega⟩

theorem text_spec (n : Nat) : Con Try.prog 61 #[.int .i64 n] [] fun v A => v = .string (textB n) ∧ A = [] := by
  refine Con.intro (vs := [_]) Try.func61 rfl Try.ntmps61 rfl (fun B => ?_)
  repeat' (first | refine Cd.seq ?_ | refine Cd.reg ?_ | refine Ops.mv rfl rfl rfl rfl ?_ | refine Ops.asg rfl rfl rfl rfl ?_)
  refine Ops.shrI rfl rfl rfl rfl (by decide) rfl ?_
  refine Ops.cvI rfl rfl rfl rfl ?_
  repeat' (first | refine Ops.mv rfl rfl rfl rfl ?_)
  refine Ops.shrI rfl rfl rfl rfl (by decide) rfl ?_
  refine Ops.cvI rfl rfl rfl rfl ?_
  repeat' (first | refine Ops.mv rfl rfl rfl rfl ?_)
  refine Ops.cvI rfl rfl rfl rfl ?_
  refine Ops.bs3 rfl rfl rfl rfl rfl rfl rfl rfl rfl (noPd rfl) (fun b => ?_)
  refine Ops.b2s [IntKind.u8.wrap ((n : Int).fdiv (2 ^ 16)), IntKind.u8.wrap ((n : Int).fdiv (2 ^ 8)), IntKind.u8.wrap (n : Int)] rfl rfl rfl rfl rfl ?_
  repeat' (first | refine Ops.nil ?_ | refine Ops.asg rfl rfl rfl rfl ?_)
  exact Cd.ret (ret1 rfl (Res.tmp rfl) (fun _ h => h.tail) ⟨rfl, rfl⟩)

theorem place_spec (n : Nat) (hn : n < 16777216) : Con Try.prog 59 #[.string (textB n)] [] fun v A => v = .int .i64 n ∧ A = [] := by
  have hsz := textB_size n
  have hat := fun i => textB_at n i hn
  generalize textB n = s at hsz hat
  refine Con.intro (vs := [_]) Try.func59 rfl Try.ntmps59 rfl (fun B => ?_)
  repeat' (first | refine Cd.seq ?_ | refine Cd.reg ?_ | refine Ops.nil ?_ | refine Ops.asg rfl rfl rfl rfl ?_ | refine Cd.block ?_)
  refine Cd.loopK (fun i : Nat => i ≤ 3) (fun i => [(0, .string s), (3, .int .i64 ((n / 256 ^ (3 - i) : Nat) : Int)), (4, .int .i64 i)]) (fun _ => []) (fun i => 3 - i) 0 (Nat.zero_le _) ⟨rfl, by
    show _ = some (Value.int .i64 ((n / 16777216 : Nat) : Int))
    rw [Nat.div_eq_of_lt hn]; rfl, rfl, trivial⟩ (fun w h => h) (fun i hi => ?_)
  by_cases hil : i < 3
  · have hil' : (i : Int) < (s.size : Int) := by omega
    obtain ⟨bt, hbt, hbv⟩ := hat i hil
    have hstep : 256 * ((n / 256 ^ (3 - i) : Nat) : Int) + (bt.toNat : Int) = ((n / 256 ^ (3 - (i + 1)) : Nat) : Int) := by
      rw [hbv]
      match i, hil with
      | 0, _ => show 256 * ((n / 16777216 : Nat) : Int) + ((n / 65536 % 256 : Nat) : Int) = ((n / 65536 : Nat) : Int); omega
      | 1, _ => show 256 * ((n / 65536 : Nat) : Int) + ((n / 256 % 256 : Nat) : Int) = ((n / 256 : Nat) : Int); omega
      | 2, _ => show 256 * ((n / 256 : Nat) : Int) + ((n / 1 % 256 : Nat) : Int) = ((n / 1 : Nat) : Int); omega
    have hlo : n / 256 ^ (3 - i) < 16777216 := Nat.lt_of_le_of_lt (Nat.div_le_self _ _) hn
    generalize n / 256 ^ (3 - i) = acc at hstep hlo
    have hbl : bt.toNat < 256 := UInt8.toNat_lt bt
    repeat' (first | refine Cd.seq ?_ | refine Cd.reg ?_ | refine Ops.nil ?_ | refine Ops.mv rfl rfl rfl rfl ?_ | refine Ops.lenStr rfl rfl rfl rfl ?_ | refine Ops.mulI rfl rfl rfl rfl (by omega) (by omega) rfl ?_ | refine Ops.bin rfl rfl rfl rfl rfl ?_ | refine Cd.block ?_ | refine Cd.skip (Cd.next ?_) | refine Cd.condT rfl (by first | rfl | assumption | (simp only [decide_eq_true_eq, decide_eq_false_iff_not, Bool.not_eq_true', Bool.not_eq_false', Bool.not_eq_eq_eq_not, Bool.not_true, Bool.not_false, beq_iff_eq, beq_eq_false_iff_ne, ne_eq, decide_eq_decide, eq_self, true_iff, iff_true, not_true_eq_false, not_false_eq_true]; first | done | omega)) ?_)
    refine Ops.ixS (b := bt) rfl rfl rfl rfl (by omega) (by rw [Int.toNat_natCast]; exact hbt) rfl ?_
    refine Ops.cvI rfl rfl rfl rfl ?_
    rw [show IntKind.i64.wrap (bt.toNat : Int) = (bt.toNat : Int) from IntWalk.i64_in _ ⟨by omega, by omega⟩]
    repeat' (first | refine Cd.reg ?_ | refine Ops.mv rfl rfl rfl rfl ?_ | refine Ops.asg rfl rfl rfl rfl ?_ | refine Ops.addI rfl rfl rfl rfl (by omega) (by omega) rfl ?_)
    exact Ops.nilN (round_end (i + 1) (by show i + 1 ≤ 3; omega) (by show 3 - (i + 1) < 3 - i; omega) ⟨rfl, congrArg (fun x => some (Value.int .i64 x)) hstep, rfl, trivial⟩ (fun w h => h))
  · obtain rfl : i = 3 := by omega
    have hil' : ¬ ((3 : Nat) : Int) < (s.size : Int) := by omega
    repeat' (first | refine Cd.seq ?_ | refine Cd.reg ?_ | refine Ops.nil ?_ | refine Ops.mv rfl rfl rfl rfl ?_ | refine Ops.asg rfl rfl rfl rfl ?_ | refine Ops.lenStr rfl rfl rfl rfl ?_ | refine Ops.bin rfl rfl rfl rfl rfl ?_ | refine Cd.exit (Cd.next (Q' := fun _ _ _ => True) ?_) | refine Cd.condF rfl (by first | rfl | assumption | (simp only [decide_eq_true_eq, decide_eq_false_iff_not, Bool.not_eq_true', Bool.not_eq_false', Bool.not_eq_eq_eq_not, Bool.not_true, Bool.not_false, beq_iff_eq, beq_eq_false_iff_ne, ne_eq, decide_eq_decide, eq_self, true_iff, iff_true, not_true_eq_false, not_false_eq_true]; first | done | omega)) ?_)
    exact Cd.ret (ret1 rfl (Res.tmp rfl) (fun _ h => h) ⟨by show Value.int .i64 ((n / 1 : Nat) : Int) = _; rw [Nat.div_one], rfl⟩)

/-! What is under way, what acted. -/
structure Sd where
  m : Mg
  table : Bool
  life : Int
  asking : Int
  answer : Int
@[reducible] def Sd.row (x : Sd) : List Value := [.int .i64 x.m.kind, .int .i64 x.m.session, .int .i64 x.m.number, .int .i64 x.m.job, .int .i64 x.m.badge, .int .i64 x.m.index, .int .i64 x.m.count, .int .i64 x.m.code, .int .u64 x.m.bits, .string x.m.text, .string x.m.program, .bool x.table, .int .i64 x.life, .int .i64 x.asking, .int .i64 x.answer]
structure De where
  session : Int
  number : Int
  asking : Int
@[reducible] def De.row (x : De) : List Value := [.int .i64 x.session, .int .i64 x.number, .int .i64 x.asking]
def OwnW (sv : Value) (l : List Sd) (G : List Blk) : Prop := Own 103 15 sv (l.map Sd.row) G
def OwnE (sv : Value) (l : List De) (G : List Blk) : Prop := Own 114 3 sv (l.map De.row) G
theorem OwnW.form {sv : Value} {l : List Sd} {G : List Blk} (h : OwnW sv l G) : ∃ a c, sv = .slice a l.length c := by
  obtain ⟨a, c, h⟩ := Own.form h
  exact ⟨a, c, by rw [h, List.length_map]⟩
theorem OwnE.form {sv : Value} {l : List De} {G : List Blk} (h : OwnE sv l G) : ∃ a c, sv = .slice a l.length c := by
  obtain ⟨a, c, h⟩ := Own.form h
  exact ⟨a, c, by rw [h, List.length_map]⟩
theorem OwnW.some_ {sv : Value} {l : List Sd} {G : List Blk} (h : OwnW sv l G) (hn : 0 < l.length) :
    ∃ g c spare, sv = .slice (some ⟨g, 0, none⟩) l.length c ∧ G = [(g, cl ((l.map Sd.row).flatten ++ spare) 103)] ∧ (l.map Sd.row).flatten.length + spare.length = c * 15 ∧ l.length ≤ c := by
  obtain ⟨g, c, spare, h1, h2, h3, h4⟩ := Own.some_ h (by rw [List.length_map]; exact hn)
  rw [List.length_map] at h1 h4
  exact ⟨g, c, spare, h1, h2, h3, h4⟩
theorem OwnE.some_ {sv : Value} {l : List De} {G : List Blk} (h : OwnE sv l G) (hn : 0 < l.length) :
    ∃ g c spare, sv = .slice (some ⟨g, 0, none⟩) l.length c ∧ G = [(g, cl ((l.map De.row).flatten ++ spare) 114)] ∧ (l.map De.row).flatten.length + spare.length = c * 3 ∧ l.length ≤ c := by
  obtain ⟨g, c, spare, h1, h2, h3, h4⟩ := Own.some_ h (by rw [List.length_map]; exact hn)
  rw [List.length_map] at h1 h4
  exact ⟨g, c, spare, h1, h2, h3, h4⟩
theorem sd_ok (l : List Sd) : RowsOk 15 (l.map Sd.row) := rows_map (f := Sd.row) (fun _ => ⟨rfl, rfl⟩) l
theorem de_ok (l : List De) : RowsOk 3 (l.map De.row) := rows_map (f := De.row) (fun _ => ⟨rfl, rfl⟩) l
/-- The joined pair's own block. -/
@[reducible] def JB (jb cn tn : Nat) (life used asked : Int) (wv dv : Value) : Blk := (jb, cl [ptr cn, ptr tn, .int .i64 life, .int .i64 used, .int .i64 asked, wv, dv, .bool false] 75)

theorem say_spec (jb cn tn : Nat) (life used asked : Int) (wv dv : Value) (way : List Sd) (WG : List Blk) (x : Sd) (hW : OwnW wv way WG) (hlen : way.length ≤ 2000000) :
    Con Try.prog 46 #[ptr jb, .agg x.row.toArray] (JB jb cn tn life used asked wv dv :: WG) fun v A => ∃ wv' WG', A = JB jb cn tn life used asked wv' dv :: WG' ∧ OwnW wv' (way ++ [x]) WG' := by
  obtain ⟨⟨k, ss, nn, jj, bd, ix, ct, cd, bt, tx, pg⟩, tb, lf, ak, an⟩ := x
  have hll : (way.map Sd.row).length = way.length := List.length_map _
  obtain ⟨wa, wc, rfl⟩ := hW.form
  refine Con.intro (vs := [_, _]) Try.func46 rfl Try.ntmps46 rfl (fun B => ?_)
  repeat' (first | refine Cd.seq ?_ | refine Cd.reg ?_ | refine Ops.nil ?_ | refine Ops.box rfl rfl rfl rfl (noPd rfl) (fun b => ?_))
  refine Cd.draw [(0, 0, []), (1, 0, []), (2, 0, []), (3, 0, []), (4, 1, []), (5, 1, []), (6, 2, [4]), (7, 2, []), (8, 0, []), (9, 0, []), (10, 2, [])] (by kernel_rfl) (by kernel_rfl) (by simp only [picked, nth]; exact rfl) ?_
  repeat' (first | refine Ops.mv rfl rfl rfl rfl ?_ | refine Ops.nilP rfl rfl rfl rfl ?_ | refine Ops.fa0 rfl rfl rfl rfl ?_ | refine Ops.ld1 rfl rfl rfl rfl rfl ?_ | refine Ops.ldN rfl rfl rfl rfl ?_ | refine Ops.bs1 rfl rfl rfl rfl rfl rfl rfl (by first | exact noPd rfl | (intro v A' hR i hi; obtain ⟨b, rfl, rfl⟩ := hR; (repeat (rcases List.mem_cons.1 hi with rfl | hi; · (first | exact Still.ld1 rfl rfl rfl rfl rfl | exact Still.ldN rfl rfl rfl rfl | exact Still.len rfl rfl rfl rfl rfl | exact Still.skip rfl rfl rfl | exact Still.ldRow1 rfl rfl rfl (by assumption) (by assumption) rfl rfl | exact Still.ldR rfl rfl rfl (by apply_assumption) rfl))); cases hi)) (fun b => ?_))
  refine Ops.app1 (rows := way.map Sd.row) hW (by rw [hll]; omega) (by rw [hll]; omega) rfl rfl rfl rfl (by rfl) (by rfl) rfl (by first | exact noPd rfl | (intro v A' hR i hi; obtain ⟨G2, hR, rfl⟩ := hR; (repeat (rcases List.mem_cons.1 hi with rfl | hi; · (first | exact Still.ld1 rfl rfl rfl rfl rfl | exact Still.ldN rfl rfl rfl rfl | exact Still.len rfl rfl rfl rfl rfl | exact Still.skip rfl rfl rfl | exact Still.ldRow1 rfl rfl rfl (by assumption) (by assumption) rfl rfl | exact Still.ldR rfl rfl rfl (by apply_assumption) rfl))); cases hi)) rfl (fun v G' hG' => ?_)
  have hG2 : OwnW v (way ++ [⟨⟨k, ss, nn, jj, bd, ix, ct, cd, bt, tx, pg⟩, tb, lf, ak, an⟩]) G' := by
    unfold OwnW; rw [List.map_append]; exact hG'
  clear hG'
  obtain ⟨a', c', rfl⟩ := hG2.form
  repeat' (first | refine Ops.nilP rfl rfl rfl rfl ?_ | refine Ops.fa0 rfl rfl rfl rfl ?_ | refine Ops.st1 rfl rfl rfl rfl rfl (noPd rfl) ?_)
  exact Ops.nilN (end0 rfl (fun _ h => (h.split : Sat _ (JB jb cn tn life used asked (.slice a' (way ++ [(⟨⟨k, ss, nn, jj, bd, ix, ct, cd, bt, tx, pg⟩, tb, lf, ak, an⟩ : Sd)]).length c') dv :: G') _)) ⟨_, G', rfl, hG2⟩)

/-- The reply of an answer, for a request. -/
def replyK (k : Int) : Int := if k = 4 then 13 else if k = 3 then 11 else 10
def replyS (x : Sd) (answer : Int) : Sd := ⟨⟨replyK x.m.kind, x.m.session, x.m.number, 0, 0, 0, 0, 0, 0, ⟨#[]⟩, ⟨#[]⟩⟩, false, x.life, 0, answer⟩
theorem reply_spec (jb cn tn : Nat) (life used asked : Int) (wv dv : Value) (way : List Sd) (WG : List Blk) (x : Sd) (answer : Int) (hW : OwnW wv way WG) (hlen : way.length ≤ 2000000) :
    Con Try.prog 58 #[ptr jb, .agg x.row.toArray, .int .i64 answer] (JB jb cn tn life used asked wv dv :: WG) fun v A => ∃ wv' WG', A = JB jb cn tn life used asked wv' dv :: WG' ∧ OwnW wv' (way ++ [replyS x answer]) WG' := by
  have hsay := say_spec jb cn tn life used asked wv dv way WG (replyS x answer) hW hlen
  obtain ⟨⟨k, ss, nn, jj, bd, ix, ct, cd, bt, tx, pg⟩, tb, lf, ak, an⟩ := x
  dsimp only [replyS, replyK] at hsay ⊢
  obtain ⟨wa, wc, rfl⟩ := hW.form
  refine Con.intro (vs := [_, _, _]) Try.func58 rfl Try.ntmps58 rfl (fun B => ?_)
  by_cases h4 : k = 4
  · rw [if_pos h4] at hsay ⊢
    repeat' (first | refine Cd.seq ?_ | refine Cd.reg ?_ | refine Ops.nil ?_ | refine Ops.mv rfl rfl rfl rfl ?_ | refine Ops.asg rfl rfl rfl rfl ?_ | refine Ops.fa0 rfl rfl rfl rfl ?_ | refine Ops.ld1 rfl rfl rfl rfl rfl ?_ | refine Ops.ldN rfl rfl rfl rfl ?_ | refine Ops.bin rfl rfl rfl rfl rfl ?_ | refine Ops.bld rfl rfl rfl rfl ?_ | refine Ops.box rfl rfl rfl rfl (noPd rfl) (fun b => ?_) | refine Ops.alloc rfl rfl rfl (noPd rfl) (fun b => ?_) | refine Ops.stN rfl rfl rfl rfl rfl rfl (noPd rfl) ?_ | refine Cd.skip (Cd.next ?_) | refine Cd.condT rfl (by first | rfl | assumption | (simp only [decide_eq_true_eq, decide_eq_false_iff_not, Bool.not_eq_true', Bool.not_eq_false', Bool.not_eq_eq_eq_not, Bool.not_true, Bool.not_false, beq_iff_eq, beq_eq_false_iff_ne, ne_eq, decide_eq_decide, eq_self, true_iff, iff_true, not_true_eq_false, not_false_eq_true]; first | done | omega)) ?_ | refine Cd.condF rfl (by first | rfl | assumption | (simp only [decide_eq_true_eq, decide_eq_false_iff_not, Bool.not_eq_true', Bool.not_eq_false', Bool.not_eq_eq_eq_not, Bool.not_true, Bool.not_false, beq_iff_eq, beq_eq_false_iff_ne, ne_eq, decide_eq_decide, eq_self, true_iff, iff_true, not_true_eq_false, not_false_eq_true]; first | done | omega)) ?_)
    refine Ops.call hsay rfl (noPd rfl) rfl rfl rfl (fun v A' hR => ?_)
    obtain ⟨wv', WG', rfl, hW'⟩ := hR
    obtain ⟨a', c', rfl⟩ := hW'.form
    skip
    exact Ops.nilN (end0 rfl (fun _ h => h.split) ⟨_, WG', rfl, hW'⟩)
  by_cases h3 : k = 3
  · rw [if_neg h4, if_pos h3] at hsay ⊢
    repeat' (first | refine Cd.seq ?_ | refine Cd.reg ?_ | refine Ops.nil ?_ | refine Ops.mv rfl rfl rfl rfl ?_ | refine Ops.asg rfl rfl rfl rfl ?_ | refine Ops.fa0 rfl rfl rfl rfl ?_ | refine Ops.ld1 rfl rfl rfl rfl rfl ?_ | refine Ops.ldN rfl rfl rfl rfl ?_ | refine Ops.bin rfl rfl rfl rfl rfl ?_ | refine Ops.bld rfl rfl rfl rfl ?_ | refine Ops.box rfl rfl rfl rfl (noPd rfl) (fun b => ?_) | refine Ops.alloc rfl rfl rfl (noPd rfl) (fun b => ?_) | refine Ops.stN rfl rfl rfl rfl rfl rfl (noPd rfl) ?_ | refine Cd.skip (Cd.next ?_) | refine Cd.condT rfl (by first | rfl | assumption | (simp only [decide_eq_true_eq, decide_eq_false_iff_not, Bool.not_eq_true', Bool.not_eq_false', Bool.not_eq_eq_eq_not, Bool.not_true, Bool.not_false, beq_iff_eq, beq_eq_false_iff_ne, ne_eq, decide_eq_decide, eq_self, true_iff, iff_true, not_true_eq_false, not_false_eq_true]; first | done | omega)) ?_ | refine Cd.condF rfl (by first | rfl | assumption | (simp only [decide_eq_true_eq, decide_eq_false_iff_not, Bool.not_eq_true', Bool.not_eq_false', Bool.not_eq_eq_eq_not, Bool.not_true, Bool.not_false, beq_iff_eq, beq_eq_false_iff_ne, ne_eq, decide_eq_decide, eq_self, true_iff, iff_true, not_true_eq_false, not_false_eq_true]; first | done | omega)) ?_)
    refine Ops.call hsay rfl (noPd rfl) rfl rfl rfl (fun v A' hR => ?_)
    obtain ⟨wv', WG', rfl, hW'⟩ := hR
    obtain ⟨a', c', rfl⟩ := hW'.form
    skip
    exact Ops.nilN (end0 rfl (fun _ h => h.split) ⟨_, WG', rfl, hW'⟩)
  rw [if_neg h4, if_neg h3] at hsay ⊢
  repeat' (first | refine Cd.seq ?_ | refine Cd.reg ?_ | refine Ops.nil ?_ | refine Ops.mv rfl rfl rfl rfl ?_ | refine Ops.asg rfl rfl rfl rfl ?_ | refine Ops.fa0 rfl rfl rfl rfl ?_ | refine Ops.ld1 rfl rfl rfl rfl rfl ?_ | refine Ops.ldN rfl rfl rfl rfl ?_ | refine Ops.bin rfl rfl rfl rfl rfl ?_ | refine Ops.bld rfl rfl rfl rfl ?_ | refine Ops.box rfl rfl rfl rfl (noPd rfl) (fun b => ?_) | refine Ops.alloc rfl rfl rfl (noPd rfl) (fun b => ?_) | refine Ops.stN rfl rfl rfl rfl rfl rfl (noPd rfl) ?_ | refine Cd.skip (Cd.next ?_) | refine Cd.condF rfl (by first | rfl | assumption | (simp only [decide_eq_true_eq, decide_eq_false_iff_not, Bool.not_eq_true', Bool.not_eq_false', Bool.not_eq_eq_eq_not, Bool.not_true, Bool.not_false, beq_iff_eq, beq_eq_false_iff_ne, ne_eq, decide_eq_decide, eq_self, true_iff, iff_true, not_true_eq_false, not_false_eq_true]; first | done | omega)) ?_)
  refine Ops.call hsay rfl (noPd rfl) rfl rfl rfl (fun v A' hR => ?_)
  obtain ⟨wv', WG', rfl, hW'⟩ := hR
  obtain ⟨a', c', rfl⟩ := hW'.form
  skip
  exact Ops.nilN (end0 rfl (fun _ h => h.split) ⟨_, WG', rfl, hW'⟩)

/-- The number of the last deed of a session. -/
def lastOf (l : List De) (s : Int) : Int := l.foldl (fun acc e => if e.session = s then e.number else acc) 0
theorem lastOf_app (l : List De) (e : De) (s : Int) : lastOf (l ++ [e]) s = if e.session = s then e.number else lastOf l s := by simp [lastOf]
theorem acts_spec (jb cn tn : Nat) (life used asked : Int) (wv dv : Value) (deeds : List De) (DG : List Blk) (m : Mg) (asking : Int) (hE : OwnE dv deeds DG) (hlen : deeds.length ≤ 2000000)
    (hn : m.number = lastOf deeds m.session + 1) (h0 : 0 ≤ lastOf deeds m.session) (h1 : lastOf deeds m.session ≤ 1099511627776) :
    Con Try.prog 60 #[ptr jb, .agg m.row.toArray, .int .i64 asking] (JB jb cn tn life used asked wv dv :: DG) fun v A => v = .int .i64 ((deeds.length + 1 : Nat) : Int) ∧ ∃ dv' DG', A = JB jb cn tn life used asked wv dv' :: DG' ∧ OwnE dv' (deeds ++ [⟨m.session, m.number, asking⟩]) DG' := by
  obtain ⟨k, ss, nn, jj, bd, ix, ct, cd, bt, tx, pg⟩ := m
  dsimp only at hn h0 h1 ⊢
  have hll : (deeds.map De.row).length = deeds.length := List.length_map _
  obtain ⟨da, dc, rfl⟩ := hE.form
  refine Con.intro (vs := [_, _, _]) Try.func60 rfl Try.ntmps60 rfl (fun B => ?_)
  repeat' (first | refine Cd.seq ?_ | refine Cd.reg ?_ | refine Ops.nil ?_ | refine Ops.asg rfl rfl rfl rfl ?_ | refine Ops.box rfl rfl rfl rfl (noPd rfl) (fun b => ?_) | refine Cd.block ?_)
  rename Nat => bm
  refine Cd.loopK (fun i : Nat => i ≤ deeds.length) (fun i => [(0, ptr jb), (2, .int .i64 asking), (4, ptr bm), (7, .int .i64 (lastOf (deeds.take i) ss)), (8, .int .i64 i)])
    (fun _ => (bm, cl [.int .i64 k, .int .i64 ss, .int .i64 nn, .int .i64 jj, .int .i64 bd, .int .i64 ix, .int .i64 ct, .int .i64 cd, .int .u64 bt, .string tx, .string pg] 32) :: JB jb cn tn life used asked wv (.slice da deeds.length dc) :: DG) (fun i => deeds.length - i) 0 (Nat.zero_le _) ⟨rfl, rfl, rfl, rfl, rfl, trivial⟩ (fun w h => h) (fun i hi => ?_)
  by_cases hil : i < deeds.length
  · have hil' : (i : Int) < deeds.length := by omega
    obtain ⟨g, c2, spare, e1, rfl, hsp, hle⟩ := hE.some_ (by omega)
    injection e1 with q1 q2 q3
    subst q1; subst q3
    obtain ⟨e, he⟩ : ∃ e, deeds[i]? = some e := ⟨_, List.getElem?_eq_getElem hil⟩
    have hok := de_ok deeds
    have hx : (deeds.map De.row)[(i : Int).toNat]? = some e.row := map_at he
    have htk : deeds.take (i + 1) = deeds.take i ++ [e] := by
      obtain ⟨hj, rfl⟩ := List.getElem?_eq_some_iff.1 he
      rw [List.take_succ_eq_append_getElem hj]
    by_cases hs : e.session = ss
    · repeat' (first | refine Cd.seq ?_ | refine Cd.reg ?_ | refine Ops.nil ?_ | refine Ops.mv rfl rfl rfl rfl ?_ | refine Ops.nilP rfl rfl rfl rfl ?_ | refine Ops.fa0 rfl rfl rfl rfl ?_ | refine Ops.ld1 rfl rfl rfl rfl rfl ?_ | refine Ops.lenS rfl rfl rfl rfl ?_ | refine Ops.bin rfl rfl rfl rfl rfl ?_ | refine Cd.block ?_ | refine Cd.skip (Cd.next ?_) | refine Cd.condT rfl (by first | rfl | assumption | (simp only [decide_eq_true_eq, decide_eq_false_iff_not, Bool.not_eq_true', Bool.not_eq_false', Bool.not_eq_eq_eq_not, Bool.not_true, Bool.not_false, beq_iff_eq, beq_eq_false_iff_ne, ne_eq, decide_eq_decide, eq_self, true_iff, iff_true, not_true_eq_false, not_false_eq_true]; first | done | omega)) ?_)
      refine Cd.draw [(0, 0, []), (1, 0, []), (2, 0, []), (3, 1, []), (4, 0, []), (5, 0, []), (6, 0, []), (7, 1, []), (8, 0, []), (9, 1, []), (10, 0, [])] (by kernel_rfl) (by kernel_rfl) (by simp only [picked, nth]; exact rfl) ?_
      repeat' (first | refine Cd.reg ?_ | refine Ops.nil ?_ | refine Ops.mv rfl rfl rfl rfl ?_ | refine Ops.asg rfl rfl rfl rfl ?_ | refine Ops.nilP rfl rfl rfl rfl ?_ | refine Ops.fa0 rfl rfl rfl rfl ?_ | refine Ops.fa rfl rfl rfl rfl ?_ | refine Ops.ld1 rfl rfl rfl rfl rfl ?_ | refine Ops.addI rfl rfl rfl rfl (by omega) (by omega) rfl ?_ | refine Ops.bin rfl rfl rfl rfl rfl ?_ | refine Ops.ixa0 rfl rfl rfl rfl (by omega) (by omega) rfl ?_ | refine Ops.ldRow1 rfl rfl rfl (by assumption) (by assumption) rfl rfl ?_ | refine Cd.condT rfl (by first | rfl | assumption | (simp only [decide_eq_true_eq, decide_eq_false_iff_not, Bool.not_eq_true', Bool.not_eq_false', Bool.not_eq_eq_eq_not, Bool.not_true, Bool.not_false, beq_iff_eq, beq_eq_false_iff_ne, ne_eq, decide_eq_decide, eq_self, true_iff, iff_true, not_true_eq_false, not_false_eq_true]; first | done | omega)) ?_)
      exact Ops.nilN (round_end (i + 1) (by show i + 1 ≤ deeds.length; omega) (by show deeds.length - (i + 1) < deeds.length - i; omega) ⟨rfl, rfl, rfl, by rw [htk, lastOf_app, if_pos hs]; rfl, rfl, trivial⟩ (fun w h => h))
    · repeat' (first | refine Cd.seq ?_ | refine Cd.reg ?_ | refine Ops.nil ?_ | refine Ops.mv rfl rfl rfl rfl ?_ | refine Ops.nilP rfl rfl rfl rfl ?_ | refine Ops.fa0 rfl rfl rfl rfl ?_ | refine Ops.ld1 rfl rfl rfl rfl rfl ?_ | refine Ops.lenS rfl rfl rfl rfl ?_ | refine Ops.bin rfl rfl rfl rfl rfl ?_ | refine Cd.block ?_ | refine Cd.skip (Cd.next ?_) | refine Cd.condT rfl (by first | rfl | assumption | (simp only [decide_eq_true_eq, decide_eq_false_iff_not, Bool.not_eq_true', Bool.not_eq_false', Bool.not_eq_eq_eq_not, Bool.not_true, Bool.not_false, beq_iff_eq, beq_eq_false_iff_ne, ne_eq, decide_eq_decide, eq_self, true_iff, iff_true, not_true_eq_false, not_false_eq_true]; first | done | omega)) ?_)
      refine Cd.draw [(0, 0, []), (1, 0, []), (2, 0, []), (3, 1, []), (4, 0, []), (5, 0, []), (6, 0, []), (7, 1, []), (8, 0, []), (9, 1, []), (10, 0, [])] (by kernel_rfl) (by kernel_rfl) (by simp only [picked, nth]; exact rfl) ?_
      repeat' (first | refine Cd.reg ?_ | refine Ops.nil ?_ | refine Ops.mv rfl rfl rfl rfl ?_ | refine Ops.asg rfl rfl rfl rfl ?_ | refine Ops.nilP rfl rfl rfl rfl ?_ | refine Ops.fa0 rfl rfl rfl rfl ?_ | refine Ops.fa rfl rfl rfl rfl ?_ | refine Ops.ld1 rfl rfl rfl rfl rfl ?_ | refine Ops.addI rfl rfl rfl rfl (by omega) (by omega) rfl ?_ | refine Ops.bin rfl rfl rfl rfl rfl ?_ | refine Cd.skip (Cd.next (Q' := fun _ _ _ => True) ?_) | refine Ops.ixa0 rfl rfl rfl rfl (by omega) (by omega) rfl ?_ | refine Ops.ldRow1 rfl rfl rfl (by assumption) (by assumption) rfl rfl ?_ | refine Cd.condF rfl (by first | rfl | assumption | (simp only [decide_eq_true_eq, decide_eq_false_iff_not, Bool.not_eq_true', Bool.not_eq_false', Bool.not_eq_eq_eq_not, Bool.not_true, Bool.not_false, beq_iff_eq, beq_eq_false_iff_ne, ne_eq, decide_eq_decide, eq_self, true_iff, iff_true, not_true_eq_false, not_false_eq_true]; first | done | omega)) ?_)
      exact Ops.nilN (round_end (i + 1) (by show i + 1 ≤ deeds.length; omega) (by show deeds.length - (i + 1) < deeds.length - i; omega) ⟨rfl, rfl, rfl, by rw [htk, lastOf_app, if_neg hs]; rfl, rfl, trivial⟩ (fun w h => h))
  · obtain rfl : i = deeds.length := by omega
    rw [List.take_length]
    repeat' (first | refine Cd.seq ?_ | refine Cd.reg ?_ | refine Ops.nil ?_ | refine Ops.mv rfl rfl rfl rfl ?_ | refine Ops.nilP rfl rfl rfl rfl ?_ | refine Ops.fa0 rfl rfl rfl rfl ?_ | refine Ops.ld1 rfl rfl rfl rfl rfl ?_ | refine Ops.lenS rfl rfl rfl rfl ?_ | refine Ops.addI rfl rfl rfl rfl (by omega) (by omega) rfl ?_ | refine Ops.bin rfl rfl rfl rfl rfl ?_ | refine Cd.skip (Cd.next ?_) | refine Cd.exit (Cd.next (Q' := fun _ _ _ => True) ?_) | refine Cd.condF rfl (by first | rfl | assumption | (simp only [decide_eq_true_eq, decide_eq_false_iff_not, Bool.not_eq_true', Bool.not_eq_false', Bool.not_eq_eq_eq_not, Bool.not_true, Bool.not_false, beq_iff_eq, beq_eq_false_iff_ne, ne_eq, decide_eq_decide, eq_self, true_iff, iff_true, not_true_eq_false, not_false_eq_true]; first | done | omega)) ?_)
    refine Cd.draw [(0, 0, []), (1, 0, []), (2, 0, []), (3, 0, []), (4, 1, []), (5, 0, []), (6, 1, []), (7, 0, []), (8, 1, []), (9, 0, []), (10, 0, []), (11, 2, [4]), (12, 2, []), (13, 0, []), (14, 0, []), (15, 2, [])] (by kernel_rfl) (by kernel_rfl) (by simp only [picked, nth]; exact rfl) ?_
    repeat' (first | refine Ops.mv rfl rfl rfl rfl ?_ | refine Ops.nilP rfl rfl rfl rfl ?_ | refine Ops.fa0 rfl rfl rfl rfl ?_ | refine Ops.ld1 rfl rfl rfl rfl rfl ?_ | refine Ops.bld rfl rfl rfl rfl ?_ | refine Ops.bs1 rfl rfl rfl rfl rfl rfl rfl (by first | exact noPd rfl | (intro v A' hR i hi; obtain ⟨b, rfl, rfl⟩ := hR; (repeat (rcases List.mem_cons.1 hi with rfl | hi; · (first | exact Still.ld1 rfl rfl rfl rfl rfl | exact Still.ldN rfl rfl rfl rfl | exact Still.len rfl rfl rfl rfl rfl | exact Still.skip rfl rfl rfl | exact Still.ldRow1 rfl rfl rfl (by assumption) (by assumption) rfl rfl | exact Still.ldR rfl rfl rfl (by apply_assumption) rfl))); cases hi)) (fun b => ?_))
    refine Ops.app1 (rows := deeds.map De.row) hE (by rw [hll]; omega) (by rw [hll]; omega) rfl rfl rfl rfl (by rfl) (by rfl) rfl (by first | exact noPd rfl | (intro v A' hR i hi; obtain ⟨G2, hR, rfl⟩ := hR; (repeat (rcases List.mem_cons.1 hi with rfl | hi; · (first | exact Still.ld1 rfl rfl rfl rfl rfl | exact Still.ldN rfl rfl rfl rfl | exact Still.len rfl rfl rfl rfl rfl | exact Still.skip rfl rfl rfl | exact Still.ldRow1 rfl rfl rfl (by assumption) (by assumption) rfl rfl | exact Still.ldR rfl rfl rfl (by apply_assumption) rfl))); cases hi)) rfl (fun v G' hG' => ?_)
    have hG2 : OwnE v (deeds ++ [⟨ss, nn, asking⟩]) G' := by
      unfold OwnE; rw [List.map_append]; exact hG'
    clear hG'
    obtain ⟨a', c', rfl⟩ := hG2.form
    repeat' (first | refine Cd.seq ?_ | refine Cd.reg ?_ | refine Ops.nil ?_ | refine Ops.mv rfl rfl rfl rfl ?_ | refine Ops.asg rfl rfl rfl rfl ?_ | refine Ops.nilP rfl rfl rfl rfl ?_ | refine Ops.fa0 rfl rfl rfl rfl ?_ | refine Ops.ld1 rfl rfl rfl rfl rfl ?_ | refine Ops.lenS rfl rfl rfl rfl ?_ | refine Ops.st1 rfl rfl rfl rfl rfl (noPd rfl) ?_)
    exact Cd.ret (ret1 (A' := JB jb cn tn life used asked wv (.slice a' (deeds ++ [(⟨ss, nn, asking⟩ : De)]).length c') :: G') rfl (Res.tmp rfl) (fun _ h => h.split) ⟨by simp, _, G', rfl, hG2⟩)
end Go.Proofs.Ytdfimjgbdipnjaa
