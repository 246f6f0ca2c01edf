import Derived.Test.YtkoelgkghijgiaaGreatA01
import Derived.Test.YtkoelgkghijgiaaGreatA04
import Derived.Test.YtkoelgkghijgiaaGreatA16
set_option linter.unusedVariables false
set_option linter.unusedSimpArgs false
namespace Go.Proofs.YtkoelgkghijgiaaGreat
open Go Go.Sep Go.Proofs Go.Proofs.Tryz
set_option maxRecDepth 10000
set_option maxHeartbeats 40000000
set_option synthInstance.maxSize 2000
theorem andNot_top (n:Nat) (hn:n < 18446744073709551616):andNotI .u64 (n:Int) 9223372036854775808 = ((n % 9223372036854775808:Nat):Int):=by
 unfold andNotI
 show IntKind.wrap .u64 ((BitVec.ofInt 64 (n:Int) &&& ~~~(BitVec.ofInt 64 9223372036854775808)).toNat:Int) = _
 have e1: ~~~(BitVec.ofInt 64 9223372036854775808) = BitVec.ofNat 64 (2 ^ 63 - 1):=by decide
 rw [e1,BitVec.ofInt_natCast]
 have e3:(BitVec.ofNat 64 n &&& BitVec.ofNat 64 (2 ^ 63 - 1)).toNat = n % 2 ^ 63:=by
  rw [BitVec.toNat_and,BitVec.toNat_ofNat,BitVec.toNat_ofNat,Nat.mod_eq_of_lt (show n < 2 ^ 64 from hn),Nat.mod_eq_of_lt (show 2 ^ 63 - 1 < 2 ^ 64 from by decide),Nat.and_two_pow_sub_one_eq_mod]
 rw [e3,wrap_u64 (by have:=Nat.mod_lt n (show 0 < 2 ^ 63 from by decide);omega)]
theorem isNaN1_full (n:Nat) (hn:n < 18446744073709551616):Con prog 99 #[.int .u64 n] [] fun v A=>v = .bool (decide (9218868437227405312 < n % 9223372036854775808)) ∧ A = []:=by
 have hb:decide ((9218868437227405312:Int) < ((n % 9223372036854775808:Nat):Int)) = decide (9218868437227405312 < n % 9223372036854775808):=by
  rw [decide_eq_decide];omega
 refine zqI (vs:=[_]) func99 ntmps99 fun B=>?_
 rw [← hb,← andNot_top n hn]
 refine zg3 ?_
 exact ze9
theorem canon1_full (n:Nat) (hn:n < 18446744073709551616):Con prog 58 #[.int .u64 n] [] fun v A=>v = .int .u64 (canonF n:Nat) ∧ A = []:=by
 refine zqI (vs:=[_]) func58 ntmps58 fun B=>?_
 unfold canonF
 refine zg0 ?_
 refine zqA (isNaN1_full n hn) fun v A' hR=>?_
 obtain ⟨rfl,rfl⟩:=hR
 by_cases h:9218868437227405312 < n % 9223372036854775808
 ·rw [if_pos h,decide_eq_true h]
  refine zg6 ?_
  exact ze9
 ·rw [if_neg h,decide_eq_false h]
  refine zg4 ?_
  exact ze9
def bits7 (m:Ms):Bool:=!decide (m.rbits = 0) && (!hasF m.kind 114 || (!decide (m.rcode = 0) || !decide (((canonF m.rbits.toNat:Nat):Int) = m.rbits)))
def put7 (m:Ms):Bool:=decide (m.kind = 6) && (decide (m.index = 0) && !decide (m.text = ⟨#[]⟩))
def r7a (m:Ms):Bool:=rightF m.kind 115 m.session 1 1099511627776 && (rightF m.kind 110 m.number 1 1099511627776 && (rightF m.kind 106 m.job 1 8 && rightF m.kind 98 m.badge 1 1099511627776))
def r7b (m:Ms):Bool:=r7a m && (rightF m.kind 105 m.index 0 (mostF m.kind).1 && rightF m.kind 99 m.count 0 (mostF m.kind).2)
def r7c (m:Ms):Bool:=r7b m && (rightF m.kind 114 m.rcode 0 7 && (rightF m.kind 116 (m.text.size:Nat) 0 32 && rightF m.kind 112 (m.prog.size:Nat) 1 1024))
def r7d (m:Ms):Bool:=!bits7 m && r7c m
def r7e (m:Ms):Bool:=!put7 m && r7d m
def check7F (m:Ms):Int:=if nmL m.kind = [63] then 70 else if r7e m then 0 else 71
@[reducible] def Mb7 (mb:Nat) (m:Ms):Blk:=(mb,cl m.row 38)
theorem bl_one {s:ByteArray}:bl s = [63] ↔ s = ⟨#[63]⟩:=by
 constructor
 ·intro h
  have h1:s.data.toList = [63]:=by
   unfold bl at h
   generalize s.data.toList = l at h ⊢
   match l,h with
   | [x],h =>
    simp only [List.map_cons,List.map_nil,List.cons.injEq,and_true] at h
    have hx:x = 63:=UInt8.toNat_inj.1 (by
     have:x.toNat = 63:=by omega
     rw [this];rfl)
    rw [hx]
   | [],h=>cases h
   | x :: y :: r,h=>simp at h
  apply ByteArray.ext
  apply Array.ext'
  exact h1
 ·rintro rfl;decide
theorem check7_full (m:Ms) (hx:0 ≤ m.rbits ∧ m.rbits < 18446744073709551616):Con prog 25 #[.agg m.row.toArray] [] fun v A=>v = .int .i64 (check7F m) ∧ A = []:=by
 have hcan:Con prog 58 #[.int .u64 m.rbits] [] fun v A=>v = .int .u64 (canonF m.rbits.toNat:Nat) ∧ A = []:=by
  have:=canon1_full m.rbits.toNat (by omega)
  rwa [show ((m.rbits.toNat:Nat):Int) = m.rbits from by omega] at this
 refine zqI (vs:=[_]) func25 ntmps25 fun B=>?_
 unfold check7F
 repeat' (first|refine zs0 ?_|refine Ops.box rfl rfl rfl rfl (noPd rfl) (fun b=>?_))
 rename Nat=>mb
 refine zqA (named7_full m.kind) fun v A' hR=>?_
 obtain ⟨⟨s,rfl,hs⟩,rfl⟩:=hR
 by_cases hq:s = ⟨#[63]⟩
 ·rw [if_pos (hs.symm.trans (bl_one.2 hq))]
  refine zg2 ?_
  exact ze9
 rw [if_neg (fun q=>hq (bl_one.1 (hs.trans q)))]
 generalize hc4:Code.seq (Code.region 4 _ _) _ = c4
 refine zg13 ?_
 refine zqA (most7_full m.kind) fun v A' hR=>?_
 obtain ⟨rfl,rfl⟩:=hR
 refine zg1 ?_
 subst hc4
 refine Cd.cut (σ:=Unit) (fun _=>True) (fun _=>[(1,ptr mb),(3,.int .i64 (mostF m.kind).1),(4,.int .i64 (mostF m.kind).2),(5,.bool (r7a m))]) (fun _=>[Mb7 mb m]) ?_ (fun _ _=>?_)
 ·unfold r7a
  refine zg3 ?_
  refine zqA (right7_full m 115 m.session 1 1099511627776) fun v A' hR=>?_
  obtain ⟨rfl,rfl⟩:=hR
  generalize rightF m.kind 115 m.session 1 1099511627776 = b1
  cases b1
  ·refine zg6 ?_
   exact ze14
  refine zg3 ?_
  refine zqA (right7_full m 110 m.number 1 1099511627776) fun v A' hR=>?_
  obtain ⟨rfl,rfl⟩:=hR
  generalize rightF m.kind 110 m.number 1 1099511627776 = b2
  cases b2
  ·refine zg6 ?_
   exact ze14
  refine zg3 ?_
  refine zqA (right7_full m 106 m.job 1 8) fun v A' hR=>?_
  obtain ⟨rfl,rfl⟩:=hR
  generalize rightF m.kind 106 m.job 1 8 = b3
  cases b3
  ·refine zg6 ?_
   exact ze14
  refine zg3 ?_
  refine zqA (right7_full m 98 m.badge 1 1099511627776) fun v A' hR=>?_
  obtain ⟨rfl,rfl⟩:=hR
  refine zg6 ?_
  exact ze14
 refine Cd.cut (σ:=Unit) (fun _=>True) (fun _=>[(1,ptr mb),(5,.bool (r7b m))]) (fun _=>[Mb7 mb m]) ?_ (fun _ _=>?_)
 ·unfold r7b
  generalize r7a m = b
  cases b
  ·refine zg6 ?_
   exact ze15
  refine zg3 ?_
  refine zqA (right7_full m 105 m.index 0 (mostF m.kind).1) fun v A' hR=>?_
  obtain ⟨rfl,rfl⟩:=hR
  generalize rightF m.kind 105 m.index 0 (mostF m.kind).1 = b1
  cases b1
  ·refine zg6 ?_
   exact ze15
  refine zg3 ?_
  refine zqA (right7_full m 99 m.count 0 (mostF m.kind).2) fun v A' hR=>?_
  obtain ⟨rfl,rfl⟩:=hR
  refine zg6 ?_
  exact ze15
 refine Cd.cut (σ:=Unit) (fun _=>True) (fun _=>[(1,ptr mb),(5,.bool (r7c m))]) (fun _=>[Mb7 mb m]) ?_ (fun _ _=>?_)
 ·unfold r7c
  generalize r7b m = b
  cases b
  ·refine zg6 ?_
   exact ze15
  refine zg3 ?_
  refine zqA (right7_full m 114 m.rcode 0 7) fun v A' hR=>?_
  obtain ⟨rfl,rfl⟩:=hR
  generalize rightF m.kind 114 m.rcode 0 7 = b1
  cases b1
  ·refine zg6 ?_
   exact ze15
  refine zg3 ?_
  refine zqA (right7_full m 116 (m.text.size:Nat) 0 32) fun v A' hR=>?_
  obtain ⟨rfl,rfl⟩:=hR
  generalize rightF m.kind 116 (m.text.size:Nat) 0 32 = b2
  cases b2
  ·refine zg6 ?_
   exact ze15
  refine zg3 ?_
  refine zqA (right7_full m 112 (m.prog.size:Nat) 1 1024) fun v A' hR=>?_
  obtain ⟨rfl,rfl⟩:=hR
  refine zg6 ?_
  exact ze15
 refine Cd.cut (σ:=Unit) (fun _=>True) (fun _=>[(1,ptr mb),(5,.bool (r7d m))]) (fun _=>[Mb7 mb m]) ?_ (fun _ _=>?_)
 ·unfold r7d
  generalize r7c m = b3
  refine Cd.seq ?_
  by_cases h0:m.rbits = 0
  ·rw [show bits7 m = false from by simp [bits7,h0]]
   refine zdr [qz 0,qz 1,qy 2,qz 3,qz 4,qz 5,qy 6,(7,2,[]),qz 8,qz 9,qz 10,qz 11,qy 12,qz 13,qz 14,qz 15,qz 16,qz 17,qy 18,qz 20,qz 21,qy 22,(19,2,[22]),qz 23,qz 24,qz 25] ?_
   refine zk ?_
   all_goals skip
   exact ze16
  ·cases hb:hasF m.kind 114
   ·rw [show bits7 m = true from by simp [bits7,h0,hb]]
    refine zdr [qz 0,qz 1,qy 2,qz 3,qz 4,qz 5,qy 6,(7,2,[]),qz 8,qz 9,qz 10,qz 11,qy 12,qz 13,qz 14,qz 15,qz 16,qz 17,qy 18,qz 20,qz 21,qy 22,(19,2,[22]),qz 23,qz 24,qz 25] ?_
    refine zg7 ?_
    refine Ops.call (has7_full m.kind 114) rfl zp2 rfl rfl rfl (fun v A' hR=>?_)
    obtain ⟨rfl,rfl⟩:=hR
    rw [hb]
    refine zk ?_
    all_goals skip
    exact ze15
   ·by_cases h1:m.rcode = 0
    ·by_cases h2:((canonF m.rbits.toNat:Nat):Int) = m.rbits
     ·rw [show bits7 m = false from by simp [bits7,h0,hb,h1,h2]]
      refine zdr [qz 0,qz 1,qy 2,qz 3,qz 4,qz 5,qy 6,(7,2,[]),qz 8,qz 9,qz 10,qz 11,qy 12,qz 13,qz 14,qz 15,qz 16,qz 17,qy 18,qz 20,qz 21,qy 22,(19,2,[22]),qz 23,qz 24,qz 25] ?_
      refine zg7 ?_
      refine Ops.call (has7_full m.kind 114) rfl zp2 rfl rfl rfl (fun v A' hR=>?_)
      obtain ⟨rfl,rfl⟩:=hR
      rw [hb]
      refine zg11 ?_
      refine Ops.call hcan rfl zp2 rfl rfl rfl (fun v A' hR=>?_)
      obtain ⟨rfl,rfl⟩:=hR
      refine zg13 ?_
      all_goals skip
      exact ze16
     ·rw [show bits7 m = true from by simp [bits7,h0,hb,h1,h2]]
      refine zdr [qz 0,qz 1,qy 2,qz 3,qz 4,qz 5,qy 6,(7,2,[]),qz 8,qz 9,qz 10,qz 11,qy 12,qz 13,qz 14,qz 15,qz 16,qz 17,qy 18,qz 20,qz 21,qy 22,(19,2,[22]),qz 23,qz 24,qz 25] ?_
      refine zg7 ?_
      refine Ops.call (has7_full m.kind 114) rfl zp2 rfl rfl rfl (fun v A' hR=>?_)
      obtain ⟨rfl,rfl⟩:=hR
      rw [hb]
      refine zg11 ?_
      refine Ops.call hcan rfl zp2 rfl rfl rfl (fun v A' hR=>?_)
      obtain ⟨rfl,rfl⟩:=hR
      refine zg8 ?_
      all_goals skip
      exact ze15
    ·rw [show bits7 m = true from by simp [bits7,h0,hb,h1]]
     refine zdr [qz 0,qz 1,qy 2,qz 3,qz 4,qz 5,qy 6,(7,2,[]),qz 8,qz 9,qz 10,qz 11,qy 12,qz 13,qz 14,qz 15,qz 16,qz 17,qy 18,qz 20,qz 21,qy 22,(19,2,[22]),qz 23,qz 24,qz 25] ?_
     refine zg7 ?_
     refine Ops.call (has7_full m.kind 114) rfl zp2 rfl rfl rfl (fun v A' hR=>?_)
     obtain ⟨rfl,rfl⟩:=hR
     rw [hb]
     refine zk ?_
     all_goals skip
     exact ze15
 refine Cd.cut (σ:=Unit) (fun _=>True) (fun _=>[(1,ptr mb),(5,.bool (r7e m))]) (fun _=>[Mb7 mb m]) ?_ (fun _ _=>?_)
 ·unfold r7e
  generalize r7d m = b4
  by_cases h0:m.kind = 6
  ·by_cases h1:m.index = 0
   ·by_cases h2:m.text = ⟨#[]⟩
    ·rw [show put7 m = false from by simp [put7,h0,h1,h2]]
     refine zg10 ?_
     exact ze16
    ·rw [show put7 m = true from by simp [put7,h0,h1,h2]]
     refine zg14 ?_
     exact ze15
   ·rw [show put7 m = false from by simp [put7,h0,h1]]
    refine zg12 ?_
    exact ze16
  ·rw [show put7 m = false from by simp [put7,h0]]
   refine zg8 ?_
   exact ze16
 generalize r7e m = b5
 cases b5
 ·refine zg4 ?_
  exact ze9
 ·refine zg4 ?_
  exact ze9
end Go.Proofs.YtkoelgkghijgiaaGreat
namespace Go.Proofs.YtkoelgkghijgiaaGreat
open Go Go.Sep Go.Proofs
set_option maxRecDepth 10000
set_option maxHeartbeats 40000000
theorem word_bl {k:Int} (h0:1 ≤ k) (h1:k ≤ 16):bl (wordF k) = nmL k:=by
 have h:k = 1 ∨ k = 2 ∨ k = 3 ∨ k = 4 ∨ k = 5 ∨ k = 6 ∨ k = 7 ∨ k = 8 ∨ k = 9 ∨ k = 10 ∨ k = 11 ∨ k = 12 ∨ k = 13 ∨ k = 14 ∨ k = 15 ∨ k = 16:=by omega
 rcases h with rfl|rfl|rfl|rfl|rfl|rfl|rfl|rfl|rfl|rfl|rfl|rfl|rfl|rfl|rfl|rfl <;> decide
def foldL (m:Ms) (a:Ms) (l:List Int):Ms:=l.foldl (fun a x=>setL m a x.toNat) a
theorem letters_fold (m:Ms) (u:ByteArray):∀ i,i ≤ u.size → lettersG m u i = foldL m { Ms.zero with kind:=m.kind } ((bl u).take i)
 | 0,_=>rfl
 | i + 1,h=>by
  have hlt:i < u.size:=by omega
  have hb:(bl u)[i]? = some ((bat u i:Nat):Int):=by
   have h1:u[i]? = some (u[i]'hlt):=getElem?_eq_some_iff.2 ⟨hlt,rfl⟩
   rw [bl_at h1]
   unfold bat
   rw [h1]
  show setL m (lettersG m u i) (bat u i) = _
  rw [letters_fold m u i (by omega),List.take_add_one,hb]
  unfold foldL
  rw [List.foldl_append]
  show _ = setL m _ ((bat u i:Nat):Int).toNat
  rw [Int.toNat_natCast]
theorem named_fold {m:Ms} (h0:1 ≤ m.kind) (h1:m.kind ≤ 16):namedF m = foldL m { Ms.zero with kind:=m.kind } (nmL m.kind):=by
 unfold namedF
 rw [letters_fold m _ _ (Nat.le_refl _),List.take_of_length_le (by rw [bl_len];exact Nat.le_refl _),word_bl h0 h1]
theorem size_zero {s:ByteArray}:s = ⟨#[]⟩ ↔ s.size = 0:=by
 constructor
 ·rintro rfl;rfl
 ·intro h
  apply ByteArray.ext
  exact Array.eq_empty_of_size_eq_zero h
theorem size_zero' {s:ByteArray}:(⟨#[]⟩:ByteArray) = s ↔ s.size = 0:=⟨fun h=>size_zero.1 h.symm,fun h=>(size_zero.2 h).symm⟩
theorem emp_size {s:ByteArray}:s = ByteArray.empty ↔ s.size = 0:=size_zero
theorem may_whole {m:Ms} {w:Wh} {lo hi:Int}:(Fd.whole w lo hi).may m = true ↔ lo ≤ w.get m ∧ w.get m ≤ hi:=decide_eq_true_iff
theorem may_text {m:Ms} {t:Th} {lo hi:Nat}:(Fd.text t lo hi).may m = true ↔ (lo:Int) ≤ ((t.get m).size:Nat) ∧ (((t.get m).size:Nat):Int) ≤ (hi:Int):=decide_eq_true_iff
theorem may_result {m:Ms}:Fd.result.may m = true ↔ (m.rcode = 0 ∧ ((canonF m.rbits.toNat:Nat):Int) = m.rbits) ∨ ((0 < m.rcode ∧ m.rcode ≤ 7) ∧ m.rbits = 0):=by
 show ((decide (m.rcode = 0) && decide (((canonF m.rbits.toNat:Nat):Int) = m.rbits)) || (decide (0 < m.rcode ∧ m.rcode ≤ 7) && decide (m.rbits = 0))) = true ↔ _
 rw [Bool.or_eq_true,Bool.and_eq_true,Bool.and_eq_true,decide_eq_true_iff,decide_eq_true_iff,decide_eq_true_iff,decide_eq_true_iff]
theorem kinds16 {k:Int} (h0:1 ≤ k) (h1:k ≤ 16):k = 1 ∨ k = 2 ∨ k = 3 ∨ k = 4 ∨ k = 5 ∨ k = 6 ∨ k = 7 ∨ k = 8 ∨ k = 9 ∨ k = 10 ∨ k = 11 ∨ k = 12 ∨ k = 13 ∨ k = 14 ∨ k = 15 ∨ k = 16:=by omega
theorem nm_none {k:Int}:nmL k = [63] ↔ k < 1 ∨ 16 < k:=by
 by_cases h:k < 1 ∨ 16 < k
 ·refine ⟨fun _=>h,fun _=>?_⟩
  unfold nmL
  split
  ·have:k = 0:=by omega
   subst this;decide
  ·rfl
 ·refine ⟨fun e=>?_,fun q=>absurd q h⟩
  rcases kinds16 (k:=k) (by omega) (by omega) with rfl|rfl|rfl|rfl|rfl|rfl|rfl|rfl|rfl|rfl|rfl|rfl|rfl|rfl|rfl|rfl <;> exact absurd e (by decide)
theorem right_yes {k f n lo hi:Int} (h:hasF k f = true):rightF k f n lo hi = (decide (lo ≤ n) && decide (n ≤ hi)):=by unfold rightF;rw [h];rfl
theorem check7_eq (m:Ms):check7F m = wcheckF m:=by
 unfold check7F wcheckF
 by_cases hk:m.kind < 1 ∨ 16 < m.kind
 ·rw [if_pos (nm_none.2 hk),if_pos hk]
 rw [if_neg (fun q=>hk (nm_none.1 q)),if_neg hk]
 have hn:=named_fold (m:=m) (by omega) (by omega)
 have key:r7e m = (okF m && (fieldsF m.kind).all (fun fd=>fd.may m)):=by
  obtain ⟨kd,se,nu,jo,ba,ix,co,rc,rb,tx,pr⟩:=m
  dsimp only at hk hn
  unfold okF
  rw [hn,Bool.eq_iff_iff]
  have hc0:rb = 0 → canonF rb.toNat = 0:=fun h=>by rw [h];decide
  generalize hc:canonF rb.toNat = cn at hc0
  rcases kinds16 (k:=kd) (by omega) (by omega) with rfl|rfl|rfl|rfl|rfl|rfl|rfl|rfl|rfl|rfl|rfl|rfl|rfl|rfl|rfl|rfl
  all_goals
   simp [r7e,r7d,r7c,r7b,r7a,rightF,hasF,mostF,bits7,put7,nmL,nmT,foldL,setL,msEq,fieldsF,may_whole,may_text,may_result,Wh.get,Th.get,size_zero,size_zero',hc]
   simp only [emp_size,decide_eq_true_eq]
   omega
 rw [key]
end Go.Proofs.YtkoelgkghijgiaaGreat
namespace Go.Proofs.YtkoelgkghijgiaaGreat
open Go Go.Sep Go.Proofs Go.Proofs.Tryz
set_option maxRecDepth 10000
set_option maxHeartbeats 40000000
set_option synthInstance.maxSize 2000
def lay7 (m:Ms) (ch:Int):ByteArray :=
 if ch = 115 then numB m.session.toNat else if ch = 110 then numB m.number.toNat else if ch = 106 then numB m.job.toNat else if ch = 98 then numB m.badge.toNat else if ch = 105 then numB m.index.toNat else if ch = 99 then numB m.count.toNat
 else if ch = 114 then numB m.rcode.toNat ++ hiB m.rbits.toNat 8 else if ch = 116 then numB m.text.size ++ m.text else numB m.prog.size ++ m.prog
def cat7 (m:Ms) (l:List Int):ByteArray:=l.foldl (fun b ch=>b ++ lay7 m ch) (numB m.kind.toNat)
theorem cat7_more (m:Ms) (l:List Int) (ch:Int):cat7 m (l ++ [ch]) = cat7 m l ++ lay7 m ch:=by unfold cat7;rw [List.foldl_append];rfl
theorem named_bounds {m:Ms} (h:check7F m = 0) (hx:0 ≤ m.rbits ∧ m.rbits < 18446744073709551616) {ch:Int} (hc:ch ∈ nmL m.kind) :
  (ch = 115 → 1 ≤ m.session ∧ m.session ≤ 1099511627776) ∧ (ch = 110 → 1 ≤ m.number ∧ m.number ≤ 1099511627776) ∧ (ch = 106 → 1 ≤ m.job ∧ m.job ≤ 8) ∧ (ch = 98 → 1 ≤ m.badge ∧ m.badge ≤ 1099511627776) ∧
  (ch = 105 → 0 ≤ m.index ∧ m.index ≤ 31) ∧ (ch = 99 → 0 ≤ m.count ∧ m.count ≤ 32) ∧ (0 ≤ m.rcode ∧ m.rcode ≤ 7) ∧ m.text.size ≤ 32 ∧ m.prog.size ≤ 1024 ∧ 1 ≤ m.kind ∧ m.kind ≤ 16:=by
 have hw:wcheckF m = 0:=by rw [← check7_eq];exact h
 have hk:¬ (m.kind < 1 ∨ 16 < m.kind):=fun q=>by unfold wcheckF at hw;rw [if_pos q] at hw;cases hw
 have he:r7e m = true:=by
  unfold check7F at h
  rw [if_neg (fun q=>hk (nm_none.1 q))] at h
  cases hr:r7e m with
  | true=>rfl
  | false=>rw [hr] at h;cases h
 simp only [r7e,r7d,r7c,r7b,r7a,Bool.and_eq_true] at he
 obtain ⟨_,_,⟨⟨⟨e1,e2,e3,e4⟩,e5,e6⟩,e7,e8,e9⟩⟩:=he
 have hm:∀ {f n lo hi:Int},rightF m.kind f n lo hi = true → (f = ch → lo ≤ n ∧ n ≤ hi):=fun {f n lo hi} hr e=>by
  rw [right_yes (decide_eq_true (by rw [e];exact hc)),Bool.and_eq_true,decide_eq_true_iff,decide_eq_true_iff] at hr
  exact hr
 have hr:∀ {f n lo hi:Int},rightF m.kind f n lo hi = true → n = 0 ∨ (lo ≤ n ∧ n ≤ hi):=fun {f n lo hi} hr=>by
  unfold rightF at hr
  split at hr
  ·rw [Bool.and_eq_true,decide_eq_true_iff,decide_eq_true_iff] at hr;exact .inr hr
  ·exact .inl (of_decide_eq_true hr)
 have hmo:(mostF m.kind).1 ≤ 31 ∧ (mostF m.kind).2 ≤ 32:=by unfold mostF;split <;> (try split) <;> (try split) <;> decide
 have b7:=hr e7
 have b8:=hr e8
 have b9:=hr e9
 exact ⟨fun e=>hm e1 e.symm,fun e=>hm e2 e.symm,fun e=>hm e3 e.symm,fun e=>hm e4 e.symm,fun e=>by have:=hm e5 e.symm;omega,fun e=>by have:=hm e6 e.symm;omega,by omega,by omega,by omega,by omega,by omega⟩
theorem wrap_pos {x:Int} (h0:0 ≤ x) (h1:x ≤ 1099511627776):IntKind.wrap .u64 x = ((x.toNat:Nat):Int) ∧ x.toNat < 18446744073709551616:=by
 refine ⟨?_,by omega⟩
 have:=wrap_u64 (n:=x.toNat) (by omega)
 rwa [show ((x.toNat:Nat):Int) = x from by omega] at this ⊢
structure En7 where
 b:ByteArray
 i:Nat
theorem encode7_full (m:Ms) (hx:0 ≤ m.rbits ∧ m.rbits < 18446744073709551616):Con prog 12 #[.agg m.row.toArray] [] fun v A=>v = .tuple #[.string (if check7F m = 0 then cat7 m (nmL m.kind) else ⟨#[]⟩),.int .i64 (check7F m)] ∧ A = []:=by
 refine zqI (vs:=[_]) func12 ntmps12 fun B=>?_
 repeat' (first|refine zs1 ?_|refine Ops.box rfl rfl rfl rfl (noPd rfl) (fun b=>?_))
 rename Nat=>mb
 refine zqA (check7_full m hx) fun v A' hR=>?_
 obtain ⟨rfl,rfl⟩:=hR
 by_cases he0:check7F m = 0
 rotate_left
 ·rw [if_neg he0]
  refine zg2 ?_
  exact ze10
 rw [if_pos he0]
 have hbd:=fun {ch:Int} (hc:ch ∈ nmL m.kind)=>named_bounds he0 hx hc
 have hkb:1 ≤ m.kind ∧ m.kind ≤ 16:=by
  have hw:wcheckF m = 0:=by rw [← check7_eq];exact he0
  have hk:¬ (m.kind < 1 ∨ 16 < m.kind):=fun q=>by unfold wcheckF at hw;rw [if_pos q] at hw;cases hw
  omega
 rw [he0]
 obtain ⟨w0,w1⟩:=wrap_pos (x:=m.kind) (by omega) (by omega)
 have z0:=numB_size w1
 generalize hcl:Code.seq (Code.seq (Code.region 6 _ _) _) _ = cl6
 refine zg7 ?_
 refine Ops.cvI rfl rfl rfl rfl ?_
 rw [w0]
 refine zqA (r2num_spec m.kind.toNat w1) fun v A' hR=>?_
 obtain ⟨rfl,rfl⟩:=hR
 refine zg1 ?_
 refine zqA (named7_full m.kind) fun v A' hR=>?_
 obtain ⟨⟨s,rfl,hs⟩,rfl⟩:=hR
 have hsl:=bl_len s
 have h5:s.size ≤ 5:=by
  rw [← hsl,hs]
  rcases kinds16 hkb.1 hkb.2 with e|e|e|e|e|e|e|e|e|e|e|e|e|e|e|e <;> rw [e] <;> decide
 refine zg0 ?_
 subst hcl
 refine zg1 ?_
 refine Cd.loopK (σ:=En7) (fun t=>t.i ≤ s.size ∧ t.b = cat7 m ((bl s).take t.i) ∧ t.b.size ≤ 10 + t.i * 2000) (fun t=>[(1,ptr mb),(5,.string t.b),(6,.string s),(7,.int .i64 t.i)]) (fun _=>[Mb7 mb m]) (fun t=>s.size - t.i) ⟨numB m.kind.toNat,0⟩ ⟨Nat.zero_le _,rfl,by show (numB m.kind.toNat).size ≤ _;omega⟩ ⟨rfl,rfl,rfl,rfl,trivial⟩ (fun w h=>h.split) (fun t ht2=>?_)
 obtain ⟨b,i⟩:=t
 obtain ⟨hi,hbe,hbs⟩:=ht2
 dsimp only at hi hbe hbs ⊢
 by_cases hil:i < s.size
 ·have hil':(i:Int) < s.size:=by omega
  have hb:s[((i:Nat):Int).toNat]? = some (s[i]'hil):=by rw [Int.toNat_natCast];exact getElem?_eq_some_iff.2 ⟨hil,rfl⟩
  have hbl:(bl s)[i]? = some (((s[i]'hil).toNat:Nat):Int):=bl_at (by rw [Int.toNat_natCast] at hb;exact hb)
  generalize s[i]'hil = c at hb hbl
  have hch:((c.toNat:Nat):Int) ∈ nmL m.kind:=by rw [← hs];exact List.mem_of_getElem? hbl
  have htk:cat7 m ((bl s).take (i + 1)) = b ++ lay7 m ((c.toNat:Nat):Int):=by
   rw [List.take_add_one,hbl,hbe]
   exact cat7_more m _ _
  obtain ⟨q1,q2,q3,q4,q5,q6,q7,q8,q9,_,_⟩:=hbd hch
  generalize hc2:Code.seq (Code.block 1 _) _ = c2
  refine zg2 ?_
  subst hc2
  refine Cd.cut (σ:=Unit) (fun _=>True) (fun _=>[(1,ptr mb),(5,.string (b ++ lay7 m ((c.toNat:Nat):Int))),(6,.string s),(7,.int .i64 i)]) (fun _=>[Mb7 mb m]) ?_ (fun _ _=>?_)
  ·refine Cd.block ?_
   refine zg0 ?_
   refine Ops.ixS rfl rfl rfl rfl (by omega) hb rfl ?_
   generalize ((c.toNat:Nat):Int) = ch at q1 q2 q3 q4 q5 q6 ⊢
   unfold lay7
   by_cases c1:ch = 115
   ·rw [if_pos c1]
    obtain ⟨g1,g2⟩:=wrap_pos (x:=m.session) (by have:=q1 c1;omega) (by have:=q1 c1;omega)
    have z1:=numB_size g2
    refine zg15 ?_
    refine Ops.cvI rfl rfl rfl rfl ?_
    rw [g1]
    refine zqA (r2num_spec m.session.toNat g2) fun v A' hR=>?_
    obtain ⟨rfl,rfl⟩:=hR
    refine Ops.cat rfl rfl rfl rfl (by omega) rfl ?_
    refine zg0 ?_
    exact ze17
   rw [if_neg c1]
   by_cases c2:ch = 110
   ·rw [if_pos c2]
    obtain ⟨g1,g2⟩:=wrap_pos (x:=m.number) (by have:=q2 c2;omega) (by have:=q2 c2;omega)
    have z1:=numB_size g2
    refine zg8 ?_
    refine Ops.cvI rfl rfl rfl rfl ?_
    rw [g1]
    refine zqA (r2num_spec m.number.toNat g2) fun v A' hR=>?_
    obtain ⟨rfl,rfl⟩:=hR
    refine Ops.cat rfl rfl rfl rfl (by omega) rfl ?_
    refine zg0 ?_
    exact ze17
   rw [if_neg c2]
   by_cases c3:ch = 106
   ·rw [if_pos c3]
    obtain ⟨g1,g2⟩:=wrap_pos (x:=m.job) (by have:=q3 c3;omega) (by have:=q3 c3;omega)
    have z1:=numB_size g2
    refine zg8 ?_
    refine Ops.cvI rfl rfl rfl rfl ?_
    rw [g1]
    refine zqA (r2num_spec m.job.toNat g2) fun v A' hR=>?_
    obtain ⟨rfl,rfl⟩:=hR
    refine Ops.cat rfl rfl rfl rfl (by omega) rfl ?_
    refine zg0 ?_
    exact ze17
   rw [if_neg c3]
   by_cases c4:ch = 98
   ·rw [if_pos c4]
    obtain ⟨g1,g2⟩:=wrap_pos (x:=m.badge) (by have:=q4 c4;omega) (by have:=q4 c4;omega)
    have z1:=numB_size g2
    refine zg8 ?_
    refine Ops.cvI rfl rfl rfl rfl ?_
    rw [g1]
    refine zqA (r2num_spec m.badge.toNat g2) fun v A' hR=>?_
    obtain ⟨rfl,rfl⟩:=hR
    refine Ops.cat rfl rfl rfl rfl (by omega) rfl ?_
    refine zg0 ?_
    exact ze17
   rw [if_neg c4]
   by_cases c5:ch = 105
   ·rw [if_pos c5]
    obtain ⟨g1,g2⟩:=wrap_pos (x:=m.index) (by have:=q5 c5;omega) (by have:=q5 c5;omega)
    have z1:=numB_size g2
    refine zg8 ?_
    refine Ops.cvI rfl rfl rfl rfl ?_
    rw [g1]
    refine zqA (r2num_spec m.index.toNat g2) fun v A' hR=>?_
    obtain ⟨rfl,rfl⟩:=hR
    refine Ops.cat rfl rfl rfl rfl (by omega) rfl ?_
    refine zg0 ?_
    exact ze17
   rw [if_neg c5]
   by_cases c6:ch = 99
   ·rw [if_pos c6]
    obtain ⟨g1,g2⟩:=wrap_pos (x:=m.count) (by have:=q6 c6;omega) (by have:=q6 c6;omega)
    have z1:=numB_size g2
    refine zg8 ?_
    refine Ops.cvI rfl rfl rfl rfl ?_
    rw [g1]
    refine zqA (r2num_spec m.count.toNat g2) fun v A' hR=>?_
    obtain ⟨rfl,rfl⟩:=hR
    refine Ops.cat rfl rfl rfl rfl (by omega) rfl ?_
    refine zg0 ?_
    exact ze17
   rw [if_neg c6]
   by_cases c7:ch = 114
   ·rw [if_pos c7]
    obtain ⟨g1,g2⟩:=wrap_pos (x:=m.rcode) (by omega) (by omega)
    have z1:=numB_size g2
    have z2:=hiB_size m.rbits.toNat 8
    have hbits:Con prog 42 #[.int .u64 m.rbits] [] fun v A=>v = .string (hiB m.rbits.toNat 8) ∧ A = []:=by
     have:=r2bits_spec m.rbits.toNat (by omega)
     rwa [show ((m.rbits.toNat:Nat):Int) = m.rbits from by omega] at this
    refine zg2 ?_
    refine zdr [qz 0,qz 1,qz 2,qy 3,qz 4,qz 6,qz 7,qy 8,(5,2,[8]),(9,2,[]),qz 10,qz 11,(12,2,[])] ?_
    refine zg5 ?_
    refine Ops.cvI rfl rfl rfl rfl ?_
    rw [g1]
    refine zg5 ?_
    refine Ops.call (r2num_spec m.rcode.toNat g2) rfl zp6 rfl rfl rfl (fun v A' hR=>?_)
    obtain ⟨rfl,rfl⟩:=hR
    refine Ops.call hbits rfl (noPd rfl) rfl rfl rfl (fun v A' hR=>?_)
    obtain ⟨rfl,rfl⟩:=hR
    refine Ops.cat rfl rfl rfl rfl (by omega) rfl ?_
    refine Ops.cat rfl rfl rfl rfl (by rw [ByteArray.size_append];omega) rfl ?_
    refine zg3 ?_
    exact ze17
   rw [if_neg c7]
   by_cases c8:ch = 116
   ·rw [if_pos c8]
    have z1:=numB_size (n:=m.text.size) (by omega)
    refine zg8 ?_
    refine zqA (r2text_spec m.text (by omega)) fun v A' hR=>?_
    obtain ⟨rfl,rfl⟩:=hR
    refine Ops.cat rfl rfl rfl rfl (by rw [ByteArray.size_append];omega) rfl ?_
    refine zg0 ?_
    exact ze17
   ·rw [if_neg c8]
    have z1:=numB_size (n:=m.prog.size) (by omega)
    refine zg13 ?_
    refine zqA (r2text_spec m.prog (by omega)) fun v A' hR=>?_
    obtain ⟨rfl,rfl⟩:=hR
    refine Ops.cat rfl rfl rfl rfl (by rw [ByteArray.size_append];omega) rfl ?_
    refine zg0 ?_
    exact ze17
  ·have hlz:(lay7 m ((c.toNat:Nat):Int)).size ≤ 2000:=by
    generalize ((c.toNat:Nat):Int) = ch at q1 q2 q3 q4 q5 q6 ⊢
    unfold lay7
    have hz:=fun {x:Int} (h0:0 ≤ x) (h1:x ≤ 1099511627776)=>numB_size (wrap_pos h0 h1).2
    split
    ·rename_i e;have:=q1 e;have:=hz (x:=m.session) (by omega) (by omega);omega
    split
    ·rename_i e;have:=q2 e;have:=hz (x:=m.number) (by omega) (by omega);omega
    split
    ·rename_i e;have:=q3 e;have:=hz (x:=m.job) (by omega) (by omega);omega
    split
    ·rename_i e;have:=q4 e;have:=hz (x:=m.badge) (by omega) (by omega);omega
    split
    ·rename_i e;have:=q5 e;have:=hz (x:=m.index) (by omega) (by omega);omega
    split
    ·rename_i e;have:=q6 e;have:=hz (x:=m.count) (by omega) (by omega);omega
    split
    ·have:=hz (x:=m.rcode) (by omega) (by omega);rw [ByteArray.size_append,hiB_size];omega
    split
    ·have:=numB_size (n:=m.text.size) (by omega);rw [ByteArray.size_append];omega
    ·have:=numB_size (n:=m.prog.size) (by omega);rw [ByteArray.size_append];omega
   have hsz2:(b ++ lay7 m ((c.toNat:Nat):Int)).size ≤ 10 + (i + 1) * 2000:=by rw [ByteArray.size_append];omega
   rw [← htk] at hsz2 ⊢
   refine zg9 ?_
   exact Ops.nilN (round_end (⟨cat7 m ((bl s).take (i + 1)),i + 1⟩:En7) ⟨by show i + 1 ≤ s.size;omega,rfl,hsz2⟩ zp21 ⟨rfl,rfl,rfl,rfl,trivial⟩ (fun w h=>h.split))
 ·have hil':¬ (i:Int) < s.size:=by omega
  have hfin:b = cat7 m (nmL m.kind):=by rw [hbe,List.take_of_length_le (by omega),hs]
  rw [← hfin]
  refine zg2 ?_
  exact ze10
theorem cat7_enc {m:Ms} (h:wcheckF m = 0):cat7 m (nmL m.kind) = (encF m).1:=by
 have hk:¬ (m.kind < 1 ∨ 16 < m.kind):=fun q=>by unfold wcheckF at h;rw [if_pos q] at h;cases h
 unfold encF
 rw [if_pos h]
 show cat7 m (nmL m.kind) = layG m (fieldsF m.kind) (fieldsF m.kind).length
 obtain ⟨kd,se,nu,jo,ba,ix,co,rc,rb,tx,pr⟩:=m
 dsimp only at hk ⊢
 clear h
 rcases kinds16 (k:=kd) (by omega) (by omega) with rfl|rfl|rfl|rfl|rfl|rfl|rfl|rfl|rfl|rfl|rfl|rfl|rfl|rfl|rfl|rfl
 all_goals simp [cat7,nmL,nmT,lay7,fieldsF,layG,Fd.lay,Wh.get,Th.get,frameF]
end Go.Proofs.YtkoelgkghijgiaaGreat
namespace Go.Proofs.YtkoelgkghijgiaaGreat
open Go Go.Sep Go.Proofs
set_option maxRecDepth 10000
set_option maxHeartbeats 40000000
theorem bat_get {b:ByteArray} {i:Nat} (h:i < b.size):∃ c:UInt8,b[i]? = some c ∧ c.toNat = bat b i:=by
  have h1:b[i]? = some (b[i]'h):=getElem?_eq_some_iff.2 ⟨h,rfl⟩
  exact ⟨_,h1,by unfold bat;rw [h1]⟩
theorem accN_add {acc c i:Nat} (ha:acc < 2 ^ (7 * i)) (hc:c < 256) (hi:(c % 128 + 1) * 2 ^ (7 * i) ≤ 18446744073709551616):accN acc c i = acc + c % 128 * 2 ^ (7 * i):=by
  unfold accN
  have e1:c &&& 127 = c % 128:=Nat.and_two_pow_sub_one_eq_mod c 7
  have hp:=Nat.two_pow_pos (7 * i)
  have hlt:c % 128 * 2 ^ (7 * i) < 18446744073709551616:=by rw [Nat.add_mul] at hi;omega
  rw [e1,Nat.mod_eq_of_lt hlt,Nat.or_comm,Nat.mul_comm,← Nat.two_pow_add_eq_or_of_lt ha,Nat.add_comm]
def NumAt (b:ByteArray) (p:Nat) (l:List Int):Prop:=∀ (j:Nat) (x:Int),l[j]? = some x → p + j < b.size ∧ ((bat b (p + j):Nat):Int) = x
theorem numGo_last (b:ByteArray) (most:Nat) (over:Int) {n k i p acc:Nat} (hn:n < 128) (hb:NumAt b p (numL n)) (hk:1 ≤ k) (hi:i ≤ 7) (ha:acc < 2 ^ (7 * i)) (h0:0 < i → 0 < n) :
    numGo b most over k i p acc = if most < acc + n * 2 ^ (7 * i) then .bad over else .good (acc + n * 2 ^ (7 * i)) (p + (numL n).length):=by
  obtain ⟨k,rfl⟩:∃ k',k = k' + 1:=⟨k - 1,by omega⟩
  rw [numL_small hn] at hb ⊢
  obtain ⟨q1,q2⟩:=hb 0 _ rfl
  obtain ⟨c,hc,hcb⟩:=bat_get (show p < b.size by omega)
  rw [Nat.add_zero] at q2
  have hcn:c.toNat = n:=by omega
  have hpw:2 ^ (7 * i) ≤ 2 ^ 49:=Nat.pow_le_pow_right (by decide) (by omega)
  have hac:accN acc c.toNat i = acc + n * 2 ^ (7 * i):=by
    rw [hcn]
    have:=accN_add (c:=n) ha (by omega) (by
      have h1:(n % 128 + 1) * 2 ^ (7 * i) ≤ 128 * 2 ^ 49:=Nat.mul_le_mul (by omega) hpw
      omega)
    rw [this,Nat.mod_eq_of_lt hn]
  unfold numGo
  rw [hc]
  dsimp only
  rw [if_neg (by omega),if_neg (by
    rintro (⟨g1,g2⟩|⟨g1,_⟩)
    · have:=h0 g1;omega
    · omega),hac]
  rfl
theorem numGo_num (b:ByteArray) (most:Nat) (over:Int):∀ (f n k i p acc:Nat),n < 128 ^ (f + 1) → NumAt b p (numL n) → f + 1 ≤ k → i + f ≤ 7 → acc < 2 ^ (7 * i) → (0 < i → 0 < n) →
    numGo b most over k i p acc = if most < acc + n * 2 ^ (7 * i) then .bad over else .good (acc + n * 2 ^ (7 * i)) (p + (numL n).length)
  | 0,n,k,i,p,acc,hn,hb,hk,hi,ha,h0=>numGo_last b most over (by simpa using hn) hb (by omega) (by omega) ha h0
  | f + 1,n,k,i,p,acc,hn,hb,hk,hi,ha,h0=>by
    by_cases hs:n < 128
    · exact numGo_last b most over hs hb (by omega) (by omega) ha h0
    · obtain ⟨k,rfl⟩:∃ k',k = k' + 1:=⟨k - 1,by omega⟩
      rw [numL_big hs] at hb ⊢
      obtain ⟨q1,q2⟩:=hb 0 _ rfl
      obtain ⟨c,hc,hcb⟩:=bat_get (show p < b.size by omega)
      rw [Nat.add_zero] at q2
      have hcn:c.toNat = n % 128 + 128:=by omega
      have hpw:2 ^ (7 * i) ≤ 2 ^ 49:=Nat.pow_le_pow_right (by decide) (by omega)
      have hac:accN acc c.toNat i = acc + n % 128 * 2 ^ (7 * i):=by
        rw [hcn]
        have:=accN_add (c:=n % 128 + 128) ha (by omega) (by
          have h1:((n % 128 + 128) % 128 + 1) * 2 ^ (7 * i) ≤ 128 * 2 ^ 49:=Nat.mul_le_mul (by omega) hpw
          omega)
        rw [this,show (n % 128 + 128) % 128 = n % 128 from by omega]
      have hp2:2 ^ (7 * (i + 1)) = 128 * 2 ^ (7 * i):=by rw [Nat.mul_add,Nat.pow_add];omega
      have hdv:n / 128 * 128 + n % 128 = n:=by omega
      have hmul:n % 128 * 2 ^ (7 * i) + n / 128 * 2 ^ (7 * (i + 1)) = n * 2 ^ (7 * i):=by
        rw [hp2,← Nat.mul_assoc,← Nat.add_mul]
        congr 1
        omega
      have hac2:acc + n % 128 * 2 ^ (7 * i) < 2 ^ (7 * (i + 1)):=by
        have h1:n % 128 * 2 ^ (7 * i) ≤ 127 * 2 ^ (7 * i):=Nat.mul_le_mul_right _ (by omega)
        rw [hp2];omega
      have hd:n / 128 < 128 ^ (f + 1):=by
        rw [Nat.div_lt_iff_lt_mul (by decide),← Nat.pow_succ];exact hn
      have hb2:NumAt b (p + 1) (numL (n / 128)):=fun j x hx=>by
        have:=hb (j + 1) x hx
        rwa [show p + (j + 1) = p + 1 + j from by omega] at this
      have ih:=numGo_num b most over f (n / 128) k (i + 1) (p + 1) (acc + n % 128 * 2 ^ (7 * i)) hd hb2 (by omega) (by omega) hac2 (fun _=>by omega)
      unfold numGo
      rw [hc]
      dsimp only
      rw [if_pos (by omega),hac,ih,Nat.add_assoc,hmul,List.length_cons,show p + 1 + (numL (n / 128)).length = p + ((numL (n / 128)).length + 1) from by omega]
theorem numR_num {b:ByteArray} {most n p:Nat} (over:Int) (hb:NumAt b p (numL n)) (hn:n ≤ most) (hm:most ≤ 1099511627776):numR b most over p = .good n (p + (numB n).size):=by
  have hlt:n < 128 ^ (5 + 1):=by
   have:(128:Nat) ^ 6 = 4398046511104:=by decide
   omega
  unfold numR
  rw [numGo_num b most over 5 n 10 0 p 0 hlt hb (by omega) (by omega) (by decide) (fun h=>absurd h (Nat.lt_irrefl 0))]
  rw [show 0 + n * 2 ^ (7 * 0) = n from by simp,if_neg (by omega)]
  congr 1
  unfold numB
  rw [bytesOf_size]
structure Lies (b:ByteArray) (p:Nat) (x:ByteArray):Prop where
  sz:p + x.size ≤ b.size
  at_:∀ j,j < x.size → bat b (p + j) = bat x j
theorem bat_left {x y:ByteArray} {j:Nat} (h:j < x.size):bat (x ++ y) j = bat x j:=by
  unfold bat
  have h1:(x ++ y)[j]? = x[j]?:=by
    have hs:j < (x ++ y).size:=by rw [ByteArray.size_append];omega
    rw [getElem?_pos (x ++ y) j hs,getElem?_pos x j h]
    congr 1
    exact ByteArray.getElem_append_left h
  rw [h1]
theorem bat_right {x y:ByteArray} {j:Nat} (h:j < y.size):bat (x ++ y) (x.size + j) = bat y j:=by
  unfold bat
  have h1:(x ++ y)[x.size + j]? = y[j]?:=by
    have hs:x.size + j < (x ++ y).size:=by rw [ByteArray.size_append];omega
    rw [getElem?_pos (x ++ y) (x.size + j) hs,getElem?_pos y j h]
    congr 1
    rw [ByteArray.getElem_append_right (by omega)]
    congr 1
    omega
  rw [h1]
theorem Lies.left {b x y:ByteArray} {p:Nat} (h:Lies b p (x ++ y)):Lies b p x :=
  ⟨by have:=h.sz;rw [ByteArray.size_append] at this;omega,fun j hj=>by rw [h.at_ j (by rw [ByteArray.size_append];omega),bat_left hj]⟩
theorem Lies.right {b x y:ByteArray} {p:Nat} (h:Lies b p (x ++ y)):Lies b (p + x.size) y :=
  ⟨by have:=h.sz;rw [ByteArray.size_append] at this;omega,fun j hj=>by
    have:=h.at_ (x.size + j) (by rw [ByteArray.size_append];omega)
    rw [bat_right hj] at this
    rwa [Nat.add_assoc]⟩
theorem Lies.self (b:ByteArray):Lies b 0 b:=⟨by omega,fun j _=>by rw [Nat.zero_add]⟩
theorem numL_byte:∀ (n:Nat),∀ x ∈ numL n,0 ≤ x ∧ x < 256:=fun n=>by
  induction n using Nat.strongRecOn with
  | _ n ih =>
    intro x hx
    by_cases hs:n < 128
    · rw [numL_small hs,List.mem_singleton] at hx;omega
    · rw [numL_big hs] at hx
      rcases List.mem_cons.1 hx with rfl|hx
      · omega
      · exact ih (n / 128) (by omega) x hx
theorem Lies.num {b:ByteArray} {p n:Nat} (h:Lies b p (numB n)):NumAt b p (numL n):=fun j x hx=>by
  have hj:=(List.getElem?_eq_some_iff.1 hx).1
  have hsz:(numB n).size = (numL n).length:=bytesOf_size _
  have h1:=h.at_ j (by omega)
  have h2:=h.sz
  refine ⟨by omega,?_⟩
  rw [h1]
  show ((bat (bytesOf (numL n)) j:Nat):Int) = x
  rw [bytesOf_get,List.getD_eq_getElem?_getD,hx]
  have:=numL_byte n x (List.mem_of_getElem? hx)
  show ((x.toNat % 256:Nat):Int) = x
  omega
theorem eq_of_bat {x y:ByteArray} (hs:x.size = y.size) (h:∀ j,j < x.size → bat x j = bat y j):x = y:=by
  apply ByteArray.ext
  apply Array.ext hs
  intro j h1 h2
  have:=h j h1
  unfold bat at this
  rw [getElem?_pos x j h1,getElem?_pos y j h2] at this
  exact UInt8.toNat_inj.1 this
end Go.Proofs.YtkoelgkghijgiaaGreat
namespace Go.Proofs.YtkoelgkghijgiaaGreat
open Go Go.Sep Go.Proofs Go.Proofs.Tryz
set_option maxRecDepth 10000
set_option maxHeartbeats 40000000
theorem bat_extract {b:ByteArray} {p q j:Nat} (h:j < q - p) (hq:q ≤ b.size):bat (b.extract p q) j = bat b (p + j):=by
 unfold bat
 have hs:j < (b.extract p q).size:=by rw [ByteArray.size_extract];omega
 have h1:(b.extract p q)[j]? = b[p + j]?:=by
  rw [getElem?_pos (b.extract p q) j hs,getElem?_pos b (p + j) (show p + j < b.size by omega)]
  congr 1
  exact ByteArray.getElem_extract hs
 rw [h1]
theorem Lies.extract {b x:ByteArray} {p:Nat} (h:Lies b p x):b.extract p (p + x.size) = x:=by
 have hs:=h.sz
 refine eq_of_bat (by rw [ByteArray.size_extract];omega) fun j hj=>?_
 rw [ByteArray.size_extract] at hj
 rw [bat_extract (by omega) (by omega)]
 exact h.at_ j (by omega)
theorem numR_lies {b:ByteArray} {most n p:Nat} (over:Int) (h:Lies b p (numB n)) (hn:n ≤ most) (hm:most ≤ 1099511627776):numR b most over p = .good n (p + (numB n).size):=numR_num over h.num hn hm
theorem rdText_lies {b u:ByteArray} {most p:Nat} (h:Lies b p (frameF u)) (hn:u.size ≤ most) (hm:most ≤ 1000000):rdText b most p 0 = (u,p + (frameF u).size,0):=by
 have h':Lies b p (numB u.size ++ u):=h
 have h1:=h'.left
 have h2:=h'.right
 have e:txR b most p = .inr (u,p + (numB u.size).size + u.size):=by
  unfold txR
  rw [numR_lies 23 h1 hn (by omega)]
  dsimp only
  rw [if_pos h2.sz,h2.extract]
 unfold rdText
 rw [if_neg (by decide),e]
 show (u,p + (numB u.size).size + u.size,(0:Int)) = _
 rw [show (frameF u).size = (numB u.size).size + u.size from ByteArray.size_append,Nat.add_assoc]
theorem hi_bat {n i:Nat} (hi:i < 8):bat (hiB n 8) i = n / 256 ^ (7 - i) % 256:=by
 unfold hiB
 rw [bytesOf_get,hiL_at hi]
 show ((((n / 256 ^ (8 - 1 - i) % 256:Nat):Int)).toNat % 256) = _
 rw [Int.toNat_natCast,Nat.mod_mod]
theorem ofn_hi {n:Nat} (hn:n < 18446744073709551616):∀ i,i ≤ 8 → ofn (hiB n 8) i = n / 256 ^ (8 - i)
 | 0,_=>by
  show 0 = n / 256 ^ 8
  rw [Nat.div_eq_of_lt]
  exact hn
 | i + 1,h=>by
  show ofn (hiB n 8) i * 256 + bat (hiB n 8) i = _
  rw [ofn_hi hn i (by omega),hi_bat (by omega),show 8 - i = (7 - i) + 1 from by omega,Nat.pow_succ,← Nat.div_div_eq_div_mul,show 8 - (i + 1) = 7 - i from by omega]
  omega
theorem rdBits_lies {b:ByteArray} {n p:Nat} (h:Lies b p (hiB n 8)) (hn:n < 18446744073709551616):rdBits b p 0 = (n,p + 8,0):=by
 have hs:=h.sz
 have he:=h.extract
 rw [hiB_size] at hs he
 unfold rdBits
 rw [if_neg (by decide),if_pos hs,he,ofn_hi hn 8 (Nat.le_refl _)]
 simp
def Fd.put (m s:Ms):Fd → Ms
 | .whole w _ _=>w.set s (w.get m)
 | .text t _ _=>t.set s (t.get m)
 | .result=>{ s with rcode:=m.rcode,rbits:=m.rbits }
def FdB:Fd → Prop
 | .whole _ lo hi=>0 ≤ lo ∧ hi ≤ 1099511627776
 | .text _ _ hi=>hi ≤ 1024
 | .result=>True
theorem read_lies {b:ByteArray} {m s:Ms} (hx:0 ≤ m.rbits ∧ m.rbits < 18446744073709551616) {p:Nat}:∀ {fd:Fd},FdB fd → fd.may m = true → Lies b p (fd.lay m) → fd.read b (s,p,0) = (fd.put m s,p + (fd.lay m).size,0)
 | .whole w lo hi,hb,hm,hl=>by
  obtain ⟨h1,h2⟩:=may_whole.1 hm
  obtain ⟨g1,g2⟩:=hb
  have e:rdNum b 1099511627776 p 0 = ((w.get m).toNat,p + (numB (w.get m).toNat).size,0):=by
   unfold rdNum
   rw [if_neg (by decide),numR_lies 21 hl (by omega) (by omega)]
  show (w.set s ((rdNum b 1099511627776 p 0).1:Nat),(rdNum b 1099511627776 p 0).2) = _
  rw [e]
  show (w.set s (((w.get m).toNat:Nat):Int),p + (numB (w.get m).toNat).size,(0:Int)) = (w.set s (w.get m),_,0)
  rw [show (((w.get m).toNat:Nat):Int) = w.get m from by omega]
  rfl
 | .text t lo hi,hb,hm,hl=>by
  obtain ⟨h1,h2⟩:=may_text.1 hm
  have hb':hi ≤ 1024:=hb
  have e:=rdText_lies (b:=b) (u:=t.get m) (most:=hi) (p:=p) hl (by omega) (by omega)
  show (t.set s (rdText b hi p 0).1,(rdText b hi p 0).2) = _
  rw [e]
  rfl
 | .result,hb,hm,hl=>by
  have hl':Lies b p (numB m.rcode.toNat ++ hiB m.rbits.toNat 8):=hl
  have h7:0 ≤ m.rcode ∧ m.rcode ≤ 7:=by
   rcases may_result.1 hm with ⟨h,_⟩|⟨⟨h1,h2⟩,_⟩ <;> omega
  have e1:rdNum b 7 p 0 = (m.rcode.toNat,p + (numB m.rcode.toNat).size,0):=by
   unfold rdNum
   rw [if_neg (by decide),numR_lies 21 hl'.left (by omega) (by omega)]
  have e2:=rdBits_lies hl'.right (by omega)
  show ({ s with rcode:=((rdNum b 7 p 0).1:Nat),rbits:=((rdBits b (rdNum b 7 p 0).2.1 (rdNum b 7 p 0).2.2).1:Nat) },(rdBits b (rdNum b 7 p 0).2.1 (rdNum b 7 p 0).2.2).2) = _
  rw [e1]
  dsimp only
  rw [e2]
  dsimp only
  rw [show ((m.rcode.toNat:Nat):Int) = m.rcode from by omega,show ((m.rbits.toNat:Nat):Int) = m.rbits from by omega]
  show (_,p + (numB m.rcode.toNat).size + 8,(0:Int)) = (_,p + (numB m.rcode.toNat ++ hiB m.rbits.toNat 8).size,0)
  rw [ByteArray.size_append,hiB_size,Nat.add_assoc]
  rfl
def putG (m:Ms) (fds:List Fd) (s:Ms):Nat → Ms
 | 0=>s
 | i + 1=>match fds[i]? with
  | none=>putG m fds s i
  | some fd=>fd.put m (putG m fds s i)
theorem readG_lies {b:ByteArray} {m s:Ms} (hx:0 ≤ m.rbits ∧ m.rbits < 18446744073709551616) {fds:List Fd} (hb:∀ fd ∈ fds,FdB fd) (hm:∀ fd ∈ fds,fd.may m = true):∀ i,i ≤ fds.length → Lies b 0 (layG m fds i) →
  readG b fds (s,(numB m.kind.toNat).size,0) i = (putG m fds s i,(layG m fds i).size,0)
 | 0,_,_=>rfl
 | i + 1,hi,hl=>by
  have hg:=List.getElem?_eq_getElem (show i < fds.length by omega)
  have hmem:=List.getElem_mem (show i < fds.length by omega)
  generalize fds[i] = fd at hg hmem
  have e0:layG m fds (i + 1) = layG m fds i ++ fd.lay m:=by
   show layG m fds i ++ (match fds[i]? with|some fd=>fd.lay m|none=>.empty) = _
   rw [hg]
  rw [e0] at hl ⊢
  have ih:=readG_lies (s:=s) hx hb hm i (by omega) hl.left
  have e1:readG b fds (s,(numB m.kind.toNat).size,0) (i + 1) = fd.read b (readG b fds (s,(numB m.kind.toNat).size,0) i):=by
   show (match fds[i]? with|none=>readG b fds _ i|some fd=>fd.read b (readG b fds _ i)) = _
   rw [hg]
  have e2:putG m fds s (i + 1) = fd.put m (putG m fds s i):=by
   show (match fds[i]? with|none=>putG m fds s i|some fd=>fd.put m (putG m fds s i)) = _
   rw [hg]
  have hr:=hl.right
  rw [Nat.zero_add] at hr
  rw [e1,ih,e2,read_lies hx (hb fd hmem) (hm fd hmem) hr,ByteArray.size_append]
theorem fields_b (k:Int):∀ fd ∈ fieldsF k,FdB fd:=by
 unfold fieldsF
 (repeat' split) <;> (repeat' (first|exact List.forall_mem_nil _|refine List.forall_mem_cons.2 ⟨?_,?_⟩)) <;> (first|exact ⟨by decide,by decide⟩|exact (by decide:(32:Nat) ≤ 1024)|exact (by decide:(1024:Nat) ≤ 1024)|exact trivial)
def Fd.most:Fd → Nat
 | .whole _ _ _=>10
 | .text _ _ hi=>hi + 10
 | .result=>18
theorem lay_most {m:Ms}:∀ {fd:Fd},FdB fd → fd.may m = true → (fd.lay m).size ≤ fd.most
 | .whole w lo hi,hb,hm=>by
  obtain ⟨h1,h2⟩:=may_whole.1 hm
  obtain ⟨g1,g2⟩:=hb
  exact numB_size (n:=(w.get m).toNat) (by omega)
 | .text t lo hi,hb,hm=>by
  obtain ⟨h1,h2⟩:=may_text.1 hm
  have hb':hi ≤ 1024:=hb
  have:=numB_size (n:=(t.get m).size) (by omega)
  show (numB (t.get m).size ++ t.get m).size ≤ hi + 10
  rw [ByteArray.size_append];omega
 | .result,hb,hm=>by
  have h7:0 ≤ m.rcode ∧ m.rcode ≤ 7:=by
   rcases may_result.1 hm with ⟨h,_⟩|⟨⟨h1,h2⟩,_⟩ <;> omega
  have:=numB_size (n:=m.rcode.toNat) (by omega)
  show (numB m.rcode.toNat ++ hiB m.rbits.toNat 8).size ≤ 18
  rw [ByteArray.size_append,hiB_size];omega
theorem layG_most {m:Ms} {fds:List Fd} (hk:0 ≤ m.kind ∧ m.kind ≤ 16) (hb:∀ fd ∈ fds,FdB fd) (hm:∀ fd ∈ fds,fd.may m = true):∀ i,i ≤ fds.length → (layG m fds i).size ≤ 10 + ((fds.take i).map Fd.most).sum
 | 0,_=>by
  have:=numB_size (n:=m.kind.toNat) (by omega)
  show (numB m.kind.toNat).size ≤ _
  omega
 | i + 1,hi=>by
  have hg:=List.getElem?_eq_getElem (show i < fds.length by omega)
  have hmem:=List.getElem_mem (show i < fds.length by omega)
  generalize fds[i] = fd at hg hmem
  have ih:=layG_most hk hb hm i (by omega)
  have e0:layG m fds (i + 1) = layG m fds i ++ fd.lay m:=by
   show layG m fds i ++ (match fds[i]? with|some fd=>fd.lay m|none=>.empty) = _
   rw [hg]
  have h1:=lay_most (hb fd hmem) (hm fd hmem)
  rw [e0,ByteArray.size_append,List.take_add_one,hg]
  simp only [Option.toList_some,List.map_append,List.map_cons,List.map_nil,List.sum_append,List.sum_cons,List.sum_nil]
  omega
theorem fields_most (k:Int):((fieldsF k).map Fd.most).sum ≤ 1100:=by
 unfold fieldsF
 (repeat' split) <;> simp [Fd.most]
theorem lies_back {b:ByteArray} {m:Ms} {fds:List Fd}:∀ (k i:Nat),Lies b 0 (layG m fds (i + k)) → Lies b 0 (layG m fds i)
 | 0,i,h=>h
 | k + 1,i,h=>lies_back k i (Lies.left (y:=match fds[i + k]? with|some fd=>fd.lay m|none=>.empty) h)
theorem msEq_eq {a b:Ms} (h:msEq a b = true):a = b:=by
 obtain ⟨a1,a2,a3,a4,a5,a6,a7,a8,a9,a10,a11⟩:=a
 obtain ⟨b1,b2,b3,b4,b5,b6,b7,b8,b9,b10,b11⟩:=b
 unfold msEq at h
 simp only [Bool.and_eq_true,decide_eq_true_eq,and_true] at h
 obtain ⟨rfl,rfl,rfl,rfl,rfl,rfl,rfl,⟨rfl,rfl⟩,rfl,rfl⟩:=h
 rfl
theorem put_named {m:Ms} (h0:1 ≤ m.kind) (h1:m.kind ≤ 16):putG m (fieldsF m.kind) (Ms.of m.kind) (fieldsF m.kind).length = namedF m:=by
 rw [named_fold h0 h1]
 obtain ⟨kd,se,nu,jo,ba,ix,co,rc,rb,tx,pr⟩:=m
 dsimp only at h0 h1 ⊢
 rcases kinds16 h0 h1 with rfl|rfl|rfl|rfl|rfl|rfl|rfl|rfl|rfl|rfl|rfl|rfl|rfl|rfl|rfl|rfl
 all_goals simp [fieldsF,putG,Fd.put,Wh.set,Wh.get,Th.set,Th.get,foldL,setL,nmL,nmT]
theorem dec_enc {m:Ms} (h:wcheckF m = 0) (hx:0 ≤ m.rbits ∧ m.rbits < 18446744073709551616):decF (encF m).1 = (m,0):=by
 have hk:¬ (m.kind < 1 ∨ 16 < m.kind):=fun q=>by unfold wcheckF at h;rw [if_pos q] at h;cases h
 have hmay:=check_may h
 have hbd:=fields_b m.kind
 have hok:okF m = true:=by
  unfold wcheckF at h
  rw [if_neg hk] at h
  split at h
  ·rename_i hh
   rw [Bool.and_eq_true] at hh
   exact hh.1
  ·cases h
 have hn:namedF m = m:=msEq_eq (by unfold okF at hok;rw [Bool.and_eq_true] at hok;exact hok.1)
 have he:(encF m).1 = layG m (fieldsF m.kind) (fieldsF m.kind).length:=by unfold encF;rw [if_pos h]
 rw [he]
 generalize hb:layG m (fieldsF m.kind) (fieldsF m.kind).length = b
 have hl:Lies b 0 (layG m (fieldsF m.kind) (fieldsF m.kind).length):=by rw [hb];exact Lies.self b
 have h0:Lies b 0 (numB m.kind.toNat):=lies_back (m:=m) (fds:=fieldsF m.kind) _ 0 (by rw [Nat.zero_add];exact hl)
 have hrk:rdNum b 16 0 0 = (m.kind.toNat,(numB m.kind.toNat).size,0):=by
  unfold rdNum
  rw [if_neg (by decide),numR_lies 21 h0 (by omega) (by omega),Nat.zero_add]
 have hki:((m.kind.toNat:Nat):Int) = m.kind:=by omega
 have hrm:readM b = (m,b.size,0):=by
  unfold readM readK
  rw [hrk]
  dsimp only
  rw [hki,readG_lies hx hbd hmay _ (Nat.le_refl _) hl,put_named (by omega) (by omega),hn,hb]
 have hsz:b.size ≤ 2048:=by
  have:=layG_most (m:=m) (by omega) hbd hmay _ (Nat.le_refl _)
  rw [List.take_length,hb] at this
  have:=fields_most m.kind
  omega
 unfold decF
 rw [if_neg (by omega),hrm]
 dsimp only
 rw [if_pos ⟨by unfold endF;rw [if_neg (fun q=>Nat.lt_irrefl _ q.2)];rfl,h⟩]
theorem encode7_is (m:Ms) (hx:0 ≤ m.rbits ∧ m.rbits < 18446744073709551616):Con prog 12 #[.agg m.row.toArray] [] fun v A=>v = .tuple #[.string (encF m).1,.int .i64 (encF m).2] ∧ A = []:=by
 have h:=encode7_full m hx
 rw [check7_eq] at h
 unfold encF
 by_cases hw:wcheckF m = 0
 ·have:=cat7_enc hw
  unfold encF at this
  rw [if_pos hw] at this ⊢
  rwa [if_pos hw,this,hw] at h
 ·rwa [if_neg hw] at h ⊢
end Go.Proofs.YtkoelgkghijgiaaGreat
namespace Go.Proofs.YtkoelgkghijgiaaGreat
open Go Go.Sep Go.Proofs
set_option maxRecDepth 10000
set_option maxHeartbeats 40000000
theorem reqM_check {k s n:Int} (hk:k = 8 ∨ k = 10 ∨ k = 11 ∨ k = 12 ∨ k = 13) (hs:1 ≤ s ∧ s ≤ 1099511627776) (hn:1 ≤ n ∧ n ≤ 1099511627776):wcheckF (reqM k s n) = 0:=by
 rw [← check7_eq]
 rcases hk with rfl|rfl|rfl|rfl|rfl
 all_goals
  simp [check7F,reqM,nmL,nmT,r7e,r7d,r7c,r7b,r7a,rightF,hasF,mostF,bits7,put7,hs,hn]
  rfl
theorem req_bounds {m:Ms} (h:wcheckF m = 0) (hk:2 ≤ m.kind ∧ m.kind ≤ 4):(1 ≤ m.session ∧ m.session ≤ 1099511627776) ∧ (1 ≤ m.number ∧ m.number ≤ 1099511627776):=by
 have hk':m.kind = 2 ∨ m.kind = 3 ∨ m.kind = 4:=by omega
 have h1:=check_may h fS (by rcases hk' with e|e|e <;> rw [e] <;> simp [fieldsF])
 have h2:=check_may h fN (by rcases hk' with e|e|e <;> rw [e] <;> simp [fieldsF])
 exact ⟨may_whole.1 h1,may_whole.1 h2⟩
theorem dec_none:(decF ⟨#[]⟩).2 ≠ 0:=by
 have h:decF ⟨#[]⟩ = (Ms.zero,72):=by
  unfold decF
  rw [if_neg (by decide),if_neg (fun q=>?_)]
  have h1:=q.1
  have e:readM ⟨#[]⟩ = (_,0,20):=rfl
  rw [e] at h1
  exact absurd h1 (by decide)
 rw [h]
 decide
def SlotI (rs:List Se.Dk):Prop:=∀ (i:Nat) (r:Se.Dk),rs[i]? = some r → r.slot = (i:Int)
theorem SlotI.put {rs:List Se.Dk} (h:SlotI rs) {slot:Int} (hs:0 ≤ slot) {n:Option Se.Dk} (hn:∀ r,n = some r → r.slot = slot):SlotI (Se.putRow rs slot n):=by
 cases n with
 | none=>exact h
 | some r =>
  intro i x hx
  have hx':(rs.set slot.toNat r)[i]? = some x:=hx
  rw [List.getElem?_set] at hx'
  split at hx'
  ·split at hx'
   ·injection hx' with hx'
    subst hx'
    rw [hn r rfl];omega
   ·cases hx'
  ·exact h i x hx'
theorem SlotI.row {rs:List Se.Dk} (h:SlotI rs) {slot:Int} {r:Se.Dk} (hr:Se.rowAt rs slot = some r):r.slot = slot ∧ 0 ≤ slot:=by
 obtain ⟨hb,hg⟩:=Se.rowAt_some hr
 obtain ⟨b0,b1⟩:0 ≤ slot ∧ slot < rs.length:=of_decide_eq_true hb
 exact ⟨by rw [h _ _ hg];omega,b0⟩
theorem MidR.rs {c:Cf} {o o1:Co} {node life:Int} {m m1:Ms} (hr:MidR c o node life m m1 o1):o1.rs = o.rs:=by
 rcases hr with ⟨_,_,_,rfl⟩|⟨_,_,_,_,_,_,rfl⟩|⟨_,_,_,rfl⟩|⟨_,_,_,rfl⟩|⟨_,_,_,_,rfl⟩|⟨_,_,_,_,rfl⟩ <;> rfl
theorem HearR.slotI {c:Cf} {o o1:Co} {node life:Int} {data rp:ByteArray} (h:HearR c o node life data rp o1) (hs:SlotI o.rs):SlotI o1.rs:=by
 unfold HearR at h
 split at h
 ·rw [h.2];exact hs
 ·rename_i hq
  have hrun:runB c node life = true:=by
   cases hb:runB c node life with
   | true=>rfl
   | false=>exact absurd (.inr (.inl hb)) hq
  obtain ⟨r1,r2,r3,r4⟩:2 ≤ node ∧ node < 2 + c.runners ∧ 1 ≤ life ∧ life ≤ 1099511627776:=of_decide_eq_true hrun
  split at h
  ·rw [h.2]
   unfold helloO
   split
   ·refine hs.put (by omega) fun r hr=>?_
    unfold Se.openV at hr
    split at hr
    ·cases hr
    ·split at hr
     ·injection hr with hr;rw [← hr]
     ·cases hr
   ·exact hs
  ·split at h
   ·rcases h with ⟨_,_,rfl⟩|⟨_,_,_,_,_,_,_,_,_,rfl⟩
    ·exact hs
    ·exact hs
   ·rcases h with ⟨_,rfl,_⟩|⟨_,m1,o2,hm,_,rfl⟩
    ·exact hs
    ·have e:=hm.rs
     show SlotI (Se.putRow o.rs (node - 2) _)
     refine hs.put (by omega) fun r hr=>?_
     unfold Se.answerV at hr
     split at hr
     ·cases hr
     ·rename_i x hx
      split at hr
      ·injection hr with hr;rw [← hr]
       exact (hs.row hx).1
      ·cases hr
theorem submitO_rs (c:Cf) (o:Co) (p:ByteArray) (e:Int):(submitO c o p e).rs = o.rs:=by
 unfold submitO
 split <;> rfl
theorem co0_slotI (c:Cf):SlotI (co0 c).rs:=fun i r hr=>by
 have hr':(Se.fresh c.runners.toNat)[i]? = some r:=hr
 unfold Se.fresh at hr'
 rw [List.getElem?_map] at hr'
 cases hx:(List.range c.runners.toNat)[i]? with
 | none=>rw [hx] at hr';cases hr'
 | some k =>
  rw [hx] at hr'
  injection hr' with hr'
  rw [List.getElem?_range] at hx
  ·injection hx with hx
   rw [← hr',← hx]
  ·have:=(List.getElem?_eq_some_iff.1 hx).1
   rwa [List.length_range] at this
theorem stale_hear {c:Cf} {o o1:Co} {node life:Int} {m:Ms} {reply:ByteArray} (hs:SlotI o.rs) (hw:wcheckF m = 0) (hx:0 ≤ m.rbits ∧ m.rbits < 18446744073709551616) (hk:2 ≤ m.kind ∧ m.kind ≤ 4) (hr:runB c node life = true)
  (hno:∀ d ∈ o.rs.filter Se.liveB,¬ (d.slot = node - 2 ∧ d.life = life ∧ d.session = m.session)) (h:HearR c o node life (encF m).1 reply o1):reply = (encF (reqM 8 m.session m.number)).1 ∧ o1 = o:=by
 unfold HearR at h
 rw [dec_enc hw hx] at h
 dsimp only at h
 rw [if_neg (fun q=>by rcases q with q|q|q;exact q rfl;rw [hr] at q;cases q;omega),if_neg (by omega),if_neg (by omega)] at h
 have ha:(Se.askV (Se.rowAt o.rs (node - 2)) life m.session m.number).1 = 1:=by
  cases hrow:Se.rowAt o.rs (node - 2) with
  | none=>rfl
  | some r =>
   have hsl:=hs.row hrow
   have hmem:=List.mem_of_getElem? (Se.rowAt_some hrow).2
   unfold Se.askV
   dsimp only
   rw [if_pos]
   refine Decidable.by_contra fun q=>?_
   rw [not_or,not_or] at q
   obtain ⟨q1,q2,q3⟩:=q
   exact hno r (List.mem_filter.2 ⟨hmem,by unfold Se.liveB;rw [decide_eq_false q1];rfl⟩) ⟨hsl.1,Decidable.not_not.1 q2,Decidable.not_not.1 q3⟩
 rcases h with ⟨_,rfl,rfl⟩|⟨ha2,_⟩
 ·rw [ha];exact ⟨if_pos rfl,rfl⟩
 ·rw [ha] at ha2;cases ha2
theorem heedless_hear {c:Cf} {o o1:Co} {node life:Int} {data reply:ByteArray} (hq:(decF data).2 ≠ 0 ∨ runB c node life = false ∨ 5 < (decF data).1.kind) (h:HearR c o node life data reply o1):reply = ⟨#[]⟩ ∧ o1 = o:=by
 unfold HearR at h
 rw [if_pos (by rcases hq with q|q|q;exact .inl q;exact .inr (.inl q);exact .inr (.inr (by omega)))] at h
 exact h
theorem enc_bad {m:Ms} (hw:wcheckF m ≠ 0):(encF m).1 = ⟨#[]⟩:=by unfold encF;rw [if_neg hw]
end Go.Proofs.YtkoelgkghijgiaaGreat
