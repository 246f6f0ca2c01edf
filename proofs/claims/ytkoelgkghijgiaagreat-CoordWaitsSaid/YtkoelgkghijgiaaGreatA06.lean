import Derived.Test.YtkoelgkghijgiaaGreatA01
import Derived.Test.YtkoelgkghijgiaaGreatA04
import Derived.Test.YtkoelgkghijgiaaGreatA05
import Derived.Lib.UnsafeStr
import Derived.Lib.Builder
import Derived.Lib.MakeNoZero
import Derived.Laws.Externs
set_option linter.unusedVariables false
set_option linter.unusedSimpArgs false
namespace Go.Proofs.YtkoelgkghijgiaaGreat
open Go Go.Sep Go.Proofs Go.Proofs.Tryz
set_option maxRecDepth 10000
set_option maxHeartbeats 40000000
set_option synthInstance.maxSize 2000
instance :NoIf prog 293:=⟨⟨_,underlying293,rfl⟩⟩
@[reducible] def RdB (rb:Nat) (b:ByteArray) (at_ e:Int):Blk:=(rb,cl [.string b,.int .i64 at_,.int .i64 e] 222)
@[reducible] def gave (e:Int):PanicEntry:=⟨.iface 293 (.agg #[.int .i64 e]),false,false⟩
theorem take_spec (B0:Base) (rb:Nat) (b:ByteArray) (p:Nat) (e:Int) (n:Nat) (hp:p ≤ b.size) (hb:b.size ≤ 1000000) (hn:n ≤ 1000000) :
  ConX prog B0 168 #[ptr rb,.int .i64 n] [RdB rb b p e] (fun v A=>p + n ≤ b.size ∧ v = .string (b.extract p (p + n)) ∧ A = [RdB rb b ((p + n:Nat):Int) e]) (fun c A=>¬ (p + n ≤ b.size) ∧ c = [gave 20] ∧ A = [RdB rb b p e]):=by
 refine ConX.intro (vs:=[_,_]) func168 rfl ntmps168 rfl (fun B hB=>?_)
 by_cases hs:p + n ≤ b.size
 ·have hs':¬ ((b.size:Int) - (p:Int) < n):=by omega
  refine zg0 ?_
  refine zdr [qz 0,qz 1,qz 2,qz 3,qy 4,qz 5,qz 6,qz 7,qz 8,qy 9,qz 10,qz 11] ?_
  refine zg10 ?_
  refine zdr [qz 0,qz 1,qz 2,qy 3,qz 4,qz 5,qz 6,qy 7,qz 8,qz 9,qz 10,qz 11,qz 12,qy 13,qz 14,qz 15] ?_
  refine zg11 ?_
  refine Ops.slS rfl rfl rfl rfl rfl (by omega) (by omega) (by omega) rfl ?_
  rw [show ((p:Int) + n - n).toNat = p from by omega,show ((p:Int) + n).toNat = p + n from by omega,show (p:Int) + n = ((p + n:Nat):Int) from by omega]
  refine zg0 ?_
  exact Cd.ret (retX (ret1 (A':=[RdB rb b ((p + n:Nat):Int) e]) rfl (Res.tmp rfl) (fun _ h=>h.split) ⟨hs,rfl,rfl⟩))
 ·have hs':(b.size:Int) - (p:Int) < n:=by omega
  refine zg0 ?_
  refine zdr [qz 0,qz 1,qz 2,qz 3,qy 4,qz 5,qz 6,qz 7,qz 8,qy 9,qz 10,qz 11] ?_
  refine zg14 ?_
  refine Ops.mkJ rfl rfl rfl rfl ?_
  refine Ops.pan rfl rfl (panX (A':=[RdB rb b p e]) (fun _ h=>h.split) ⟨hs,rfl,rfl⟩)
inductive RR where
 | bad (e:Int)
 | good (n at_:Nat)
def accN (acc c i:Nat):Nat:=acc ||| ((c &&& 127) * 2 ^ (7 * i)) % 18446744073709551616
def numGo (b:ByteArray) (most:Nat) (over:Int):Nat → Nat → Nat → Nat → RR
 | 0,_,_,_=>.bad 22
 | k + 1,i,p,acc=>match b[p]? with
  | none=>.bad 20
  | some c=>if 127 < c.toNat then numGo b most over k (i + 1) (p + 1) (accN acc c.toNat i)
   else if (0 < i ∧ c.toNat = 0) ∨ (i = 9 ∧ 1 < c.toNat) then .bad 22
   else if most < accN acc c.toNat i then .bad over else .good (accN acc c.toNat i) (p + 1)
def numR (b:ByteArray) (most:Nat) (over:Int) (p:Nat):RR:=numGo b most over 10 0 p 0
theorem and127 (c:UInt8):andI .u8 (c.toNat:Int) 127 = ((c.toNat &&& 127:Nat):Int):=by
 rw [show (127:Int) = ((127:Nat):Int) from rfl,andI_u8 (UInt8.toNat_lt c) (by decide)]
theorem wrap_u64 {n:Nat} (h:n < 18446744073709551616):IntKind.wrap .u64 (n:Int) = (n:Int):=by
 simp only [IntKind.wrap,IntKind.bits,IntKind.signed,Bool.false_and,Bool.false_eq_true,if_false]
 omega
theorem shl_step {c i:Nat} (hi:i ≤ 9):IntKind.wrap .u64 (((c:Nat):Int) * 2 ^ (min (7 * (i:Int)).toNat (IntKind.bits .u64))) = ((c * 2 ^ (7 * i) % 18446744073709551616:Nat):Int):=by
 have e1:min (7 * (i:Int)).toNat (IntKind.bits .u64) = 7 * i:=by
  show min _ 64 = _
  omega
 rw [e1]
 simp only [IntKind.wrap,IntKind.bits,IntKind.signed,Bool.false_and,Bool.false_eq_true,if_false]
 rw [show ((c:Nat):Int) * 2 ^ (7 * i) = ((c * 2 ^ (7 * i):Nat):Int) from by push_cast;rfl]
 omega
theorem accN_lt {acc c i:Nat} (h:acc < 18446744073709551616):accN acc c i < 18446744073709551616:=by
 unfold accN
 exact Nat.or_lt_two_pow (n:=64) h (Nat.mod_lt _ (by decide))
theorem ext1 {b:ByteArray} {p:Nat} {c:UInt8} (h:b[p]? = some c):(b.extract p (p + 1))[(0:Int).toNat]? = some c:=by
 obtain ⟨h1,h2⟩:=getElem?_eq_some_iff.1 h
 have hs:(0:Nat) < (b.extract p (p + 1)).size:=by rw [ByteArray.size_extract];omega
 show (b.extract p (p + 1))[0]? = some c
 rw [getElem?_pos (b.extract p (p + 1)) 0 hs,ByteArray.getElem_extract]
 simp [h2]
structure NbS where
 i:Nat
 p:Nat
 acc:Nat
theorem number_spec (B0:Base) (rb:Nat) (b:ByteArray) (p:Nat) (e:Int) (most:Nat) (over:Int) (hp:p ≤ b.size) (hb:b.size ≤ 1000000) (hmost:most < 18446744073709551616) :
  ConX prog B0 126 #[ptr rb,.int .u64 most,.int .i64 over] [RdB rb b p e] (fun v A=>∃ n q,numR b most over p = .good n q ∧ n < 18446744073709551616 ∧ q ≤ b.size ∧ v = .int .u64 n ∧ A = [RdB rb b q e]) (fun c A=>∃ er,numR b most over p = .bad er ∧ c = [gave er] ∧ ∃ q:Nat,A = [RdB rb b q e]):=by
 refine ConX.intro (vs:=[_,_,_]) func126 rfl ntmps126 rfl (fun B hB=>?_)
 refine zg1 ?_
 refine Cd.loopK (σ:=NbS) (fun s=>s.i ≤ 10 ∧ numR b most over p = numGo b most over (10 - s.i) s.i s.p s.acc ∧ s.p ≤ b.size ∧ s.acc < 18446744073709551616) (fun s=>[(0,ptr rb),(1,.int .u64 most),(2,.int .i64 over),(7,.int .u64 s.acc),(10,.int .i64 s.i)]) (fun s=>[RdB rb b s.p e]) (fun s=>10 - s.i) ⟨0,p,0⟩ ⟨Nat.zero_le _,rfl,hp,(by decide:(0:Nat) < 18446744073709551616)⟩ ⟨rfl,rfl,rfl,rfl,rfl,trivial⟩ (fun w h=>h) (fun s hs=>?_)
 obtain ⟨i,q,acc⟩:=s
 obtain ⟨hi,hR,hq,hacc⟩:=hs
 dsimp only at hi hR hq hacc ⊢
 by_cases hi10:i = 10
 ·subst hi10
  have hbad:numR b most over p = .bad 22:=hR
  refine zg7 ?_
  refine Ops.mkJ rfl rfl rfl rfl ?_
  exact Ops.pan rfl rfl (panX (A':=[RdB rb b q e]) (fun _ h=>h.split) ⟨22,hbad,rfl,q,rfl⟩)
 have hi9:i ≤ 9:=by omega
 have hi':(i:Int) < 10:=by omega
 rw [show 10 - i = (9 - i) + 1 from by omega] at hR
 unfold numGo at hR
 refine zg2 ?_
 refine Ops.callX (take_spec B0 rb b q e 1 hq hb (by decide)) hB rfl rfl rfl (fun c A' hX=>?_) (fun v A' hX=>?_)
 ·obtain ⟨hlt,rfl,rfl⟩:=hX
  have hno:b[q]? = none:=by rw [getElem?_neg b q (by omega)]
  rw [hno] at hR
  exact panX (A':=[RdB rb b q e]) (fun _ h=>h.split) ⟨20,hR,rfl,q,rfl⟩
 ·obtain ⟨hle,rfl,rfl⟩:=hX
  obtain ⟨c,hc⟩:∃ c,b[q]? = some c:=⟨_,getElem?_pos b q (by omega)⟩
  rw [hc] at hR
  dsimp only at hR
  have hc8:=UInt8.toNat_lt c
  have hc7:c.toNat &&& 127 < 18446744073709551616:=Nat.lt_of_le_of_lt Nat.and_le_left (by omega)
  have hacc2:accN acc c.toNat i < 18446744073709551616:=accN_lt hacc
  skip
  refine Ops.ixS rfl rfl rfl rfl (by decide) (ext1 hc) rfl ?_
  refine zg3 ?_
  rw [and127]
  refine Ops.cvI rfl rfl rfl rfl ?_
  rw [wrap_u64 hc7]
  refine zg17 ?_
  refine Ops.shlI rfl rfl rfl rfl (by omega) rfl ?_
  rw [shl_step hi9]
  refine Ops.bin rfl rfl rfl rfl rfl ?_
  rw [orI_u64 hacc (Nat.mod_lt _ (by decide))]
  rw [show acc ||| (c.toNat &&& 127) * 2 ^ (7 * i) % 18446744073709551616 = accN acc c.toNat i from rfl]
  generalize accN acc c.toNat i = acc2 at hR hacc2 ⊢
  by_cases h127:127 < c.toNat
  ·rw [if_pos h127] at hR
   have h127':(127:Int) < c.toNat:=by omega
   refine zg16 ?_
   exact Ops.nilN (round_end (⟨i + 1,q + 1,acc2⟩:NbS) ⟨by show i + 1 ≤ 10;omega,by show _ = numGo b most over (10 - (i + 1)) (i + 1) (q + 1) acc2;rw [show 10 - (i + 1) = 9 - i from by omega];exact hR,hle,hacc2⟩ (by show 10 - (i + 1) < 10 - i;omega) ⟨rfl,rfl,rfl,rfl,rfl,trivial⟩ (fun w h=>h.split))
  rw [if_neg h127] at hR
  have h127':¬ (127:Int) < c.toNat:=by omega
  by_cases hform:(0 < i ∧ c.toNat = 0) ∨ (i = 9 ∧ 1 < c.toNat)
  ·rw [if_pos hform] at hR
   repeat' (first|refine Cd.seq ?_|refine Cd.reg ?_|refine Ops.nil ?_|refine Ops.mv rfl rfl rfl rfl ?_|refine Ops.asg rfl rfl rfl rfl ?_|refine Ops.bin rfl rfl rfl rfl rfl ?_|refine Ops.pickT rfl rfl rfl rfl rfl ?_|refine Ops.pickF rfl rfl rfl rfl rfl ?_|refine Ops.bld rfl rfl rfl rfl ?_|refine Ops.gSkip rfl rfl rfl ?_|refine Ops.gSkipU rfl rfl rfl rfl ?_|refine Cd.condT rfl rfl ?_|refine Cd.skip (Cd.next ?_)|refine Cd.exit (Cd.next (Q':=fun _ _ _=>True) ?_)|refine Cd.condT rfl zp0 ?_|refine Cd.condF rfl zp0 ?_|((fail_if_success refine Ops.probe rfl ?_);refine Ops.gT rfl rfl zp0 ?_)|((fail_if_success refine Ops.probe rfl ?_);refine Ops.gSplit rfl rfl (fun hc=>?_) (fun hc=>?_) <;> (try simp only [decide_eq_true_eq,decide_eq_false_iff_not,Bool.not_eq_true',Bool.not_eq_false',Bool.not_eq_eq_eq_not,Bool.not_true,Bool.not_false,Int.not_lt,Int.not_le] at hc)))
   all_goals first
    | (refine Ops.mkJ rfl rfl rfl rfl ?_;exact Ops.pan rfl rfl (panX (A':=[RdB rb b ((q + 1:Nat):Int) e]) (fun _ h=>h.split) ⟨22,hR,rfl,q + 1,rfl⟩))
    | (exfalso;omega)
  ·rw [if_neg hform] at hR
   by_cases hov:most < acc2
   ·rw [if_pos hov] at hR
    have hov':(most:Int) < acc2:=by omega
    repeat' (first|refine Cd.seq ?_|refine Cd.reg ?_|refine Ops.nil ?_|refine Ops.mv rfl rfl rfl rfl ?_|refine Ops.asg rfl rfl rfl rfl ?_|refine Ops.bin rfl rfl rfl rfl rfl ?_|refine Ops.pickT rfl rfl rfl rfl rfl ?_|refine Ops.pickF rfl rfl rfl rfl rfl ?_|refine Ops.bld rfl rfl rfl rfl ?_|refine Ops.gSkip rfl rfl rfl ?_|refine Cd.condF rfl rfl ?_|refine Cd.skip (Cd.next ?_)|refine Cd.condT rfl zp0 ?_|refine Cd.condF rfl zp0 ?_|((fail_if_success refine Ops.probe rfl ?_);refine Ops.gF rfl rfl zp0 ?_)|((fail_if_success refine Ops.probe rfl ?_);refine Ops.gSplit rfl rfl (fun hc=>?_) (fun hc=>?_) <;> (try simp only [decide_eq_true_eq,decide_eq_false_iff_not,Bool.not_eq_true',Bool.not_eq_false',Bool.not_eq_eq_eq_not,Bool.not_true,Bool.not_false,Int.not_lt,Int.not_le] at hc)))
    all_goals first
     | (refine Ops.mkJ rfl rfl rfl rfl ?_;exact Ops.pan rfl rfl (panX (A':=[RdB rb b ((q + 1:Nat):Int) e]) (fun _ h=>h.split) ⟨over,hR,rfl,q + 1,rfl⟩))
     | (exfalso;omega)
   ·rw [if_neg hov] at hR
    have hov':¬ (most:Int) < acc2:=by omega
    repeat' (first|refine Cd.seq ?_|refine Cd.reg ?_|refine Ops.nil ?_|refine Ops.mv rfl rfl rfl rfl ?_|refine Ops.asg rfl rfl rfl rfl ?_|refine Ops.bin rfl rfl rfl rfl rfl ?_|refine Ops.pickT rfl rfl rfl rfl rfl ?_|refine Ops.pickF rfl rfl rfl rfl rfl ?_|refine Ops.gSkip rfl rfl rfl ?_|refine Cd.condF rfl rfl ?_|refine Cd.skip (Cd.next ?_)|refine Cd.condF rfl zp0 ?_|((fail_if_success refine Ops.probe rfl ?_);refine Ops.gF rfl rfl zp0 ?_)|((fail_if_success refine Ops.probe rfl ?_);refine Ops.gSplit rfl rfl (fun hc=>?_) (fun hc=>?_) <;> (try simp only [decide_eq_true_eq,decide_eq_false_iff_not,Bool.not_eq_true',Bool.not_eq_false',Bool.not_eq_eq_eq_not,Bool.not_true,Bool.not_false,Int.not_lt,Int.not_le] at hc)))
    all_goals first
     | exact Cd.ret (retX (ret1 (A':=[RdB rb b ((q + 1:Nat):Int) e]) rfl (Res.tmp rfl) (fun _ h=>h.split) ⟨acc2,q + 1,hR,hacc2,hle,rfl,rfl⟩))
     | (exfalso;omega)
theorem faceuint64_pan (B0:Base) (fb xr xb rb:Nat) (bs:ByteArray) (p0 q e er:Int) (xv:Int) :
  DCon prog B0 194 #[ptr fb,ptr xr,ptr xb] (.panicking [gave er]) [(fb,cl [.int .i64 p0] 3),(xr,cl [ptr rb] 161),(xb,cl [(.int .u64 xv)] 34),RdB rb bs q e] fun u' A=>settle u' = .returning ∧ A = [(fb,cl [.int .i64 p0] 3),(xr,cl [ptr rb] 161),(xb,cl [.int .u64 0] 34),RdB rb bs p0 er]:=by
 refine DCon.intro (vs:=[_,_,_]) func194 rfl ntmps194 rfl (fun B c₀ cs hx hu=>?_)
 have hrec:recoverD (c₀ :: cs) = some (.iface 293 (.agg #[.int .i64 er]),{ c₀ with mode:=.panicking [⟨.iface 293 (.agg #[.int .i64 er]),true,false⟩] } :: cs):=by
  simp [recoverD,hu]
 refine CdS.seq ?_
 refine CdS.rec_ rfl hrec rfl rfl ?_
 refine Ops.tAss rfl rfl rfl rfl ?_
 repeat' (first|refine zs0 ?_|refine Ops.alloc rfl rfl rfl (noPd rfl) (fun b=>?_))
 refine Ops.nilN (CdS.next ?_)
 refine CdS.of rfl ?_
 refine zg6 ?_
 refine zdr [qy 0,qy 1,qy 2,qz 3,qy 4,qz 5,qz 6,qz 7,(8,2,[4]),qz 9,qz 10,(11,2,[]),(12,2,[])] ?_
 refine zg9 ?_
 exact Ops.nilN (endS (A':=[(fb,cl [.int .i64 p0] 3),(xr,cl [ptr rb] 161),(xb,cl [.int .u64 0] 34),RdB rb bs p0 er]) rfl (fun _ h=>h.split) ⟨rfl,rfl⟩)
theorem faceuint64_ret (B0:Base) (fb xr xb rb:Nat) (bs:ByteArray) (p0 q e:Int) (xv:Int) :
  DCon prog B0 194 #[ptr fb,ptr xr,ptr xb] .returning [(fb,cl [.int .i64 p0] 3),(xr,cl [ptr rb] 161),(xb,cl [(.int .u64 xv)] 34),RdB rb bs q e] fun u' A=>u' = .returning ∧ A = [(fb,cl [.int .i64 p0] 3),(xr,cl [ptr rb] 161),(xb,cl [(.int .u64 xv)] 34),RdB rb bs q e]:=by
 refine DCon.intro (vs:=[_,_,_]) func194 rfl ntmps194 rfl (fun B c₀ cs hx hu=>?_)
 have hrec:recoverD (c₀ :: cs) = none:=by simp [recoverD,hu]
 have hc0:c₀ = { c₀ with mode:=.returning }:=by rw [← hu]
 refine CdS.seq ?_
 refine CdS.rec_no rfl hrec rfl rfl ?_
 refine Ops.tAssNo rfl rfl rfl rfl ?_
 repeat' (first|refine zs0 ?_|refine Ops.alloc rfl rfl rfl (noPd rfl) (fun b=>?_))
 refine Ops.nilN (CdS.next ?_)
 refine CdS.of rfl ?_
 rw [hc0]
 refine zg4 ?_
 exact Cd.skip (endS (A':=[(fb,cl [.int .i64 p0] 3),(xr,cl [ptr rb] 161),(xb,cl [(.int .u64 xv)] 34),RdB rb bs q e]) rfl (fun _ h=>h.split) ⟨rfl,rfl⟩)
theorem faceint_pan (B0:Base) (fb xr xb rb:Nat) (bs:ByteArray) (p0 q e er:Int) (xv:Int) :
  DCon prog B0 227 #[ptr fb,ptr xr,ptr xb] (.panicking [gave er]) [(fb,cl [.int .i64 p0] 3),(xr,cl [ptr rb] 161),(xb,cl [(.int .i64 xv)] 3),RdB rb bs q e] fun u' A=>settle u' = .returning ∧ A = [(fb,cl [.int .i64 p0] 3),(xr,cl [ptr rb] 161),(xb,cl [.int .i64 0] 3),RdB rb bs p0 er]:=by
 refine DCon.intro (vs:=[_,_,_]) func227 rfl ntmps227 rfl (fun B c₀ cs hx hu=>?_)
 have hrec:recoverD (c₀ :: cs) = some (.iface 293 (.agg #[.int .i64 er]),{ c₀ with mode:=.panicking [⟨.iface 293 (.agg #[.int .i64 er]),true,false⟩] } :: cs):=by
  simp [recoverD,hu]
 refine CdS.seq ?_
 refine CdS.rec_ rfl hrec rfl rfl ?_
 refine Ops.tAss rfl rfl rfl rfl ?_
 repeat' (first|refine zs0 ?_|refine Ops.alloc rfl rfl rfl (noPd rfl) (fun b=>?_))
 refine Ops.nilN (CdS.next ?_)
 refine CdS.of rfl ?_
 refine zg6 ?_
 refine zdr [qy 0,qy 1,qy 2,qz 3,qy 4,qz 5,qz 6,qz 7,(8,2,[4]),qz 9,qz 10,(11,2,[]),(12,2,[])] ?_
 refine zg9 ?_
 exact Ops.nilN (endS (A':=[(fb,cl [.int .i64 p0] 3),(xr,cl [ptr rb] 161),(xb,cl [.int .i64 0] 3),RdB rb bs p0 er]) rfl (fun _ h=>h.split) ⟨rfl,rfl⟩)
theorem faceint_ret (B0:Base) (fb xr xb rb:Nat) (bs:ByteArray) (p0 q e:Int) (xv:Int) :
  DCon prog B0 227 #[ptr fb,ptr xr,ptr xb] .returning [(fb,cl [.int .i64 p0] 3),(xr,cl [ptr rb] 161),(xb,cl [(.int .i64 xv)] 3),RdB rb bs q e] fun u' A=>u' = .returning ∧ A = [(fb,cl [.int .i64 p0] 3),(xr,cl [ptr rb] 161),(xb,cl [(.int .i64 xv)] 3),RdB rb bs q e]:=by
 refine DCon.intro (vs:=[_,_,_]) func227 rfl ntmps227 rfl (fun B c₀ cs hx hu=>?_)
 have hrec:recoverD (c₀ :: cs) = none:=by simp [recoverD,hu]
 have hc0:c₀ = { c₀ with mode:=.returning }:=by rw [← hu]
 refine CdS.seq ?_
 refine CdS.rec_no rfl hrec rfl rfl ?_
 refine Ops.tAssNo rfl rfl rfl rfl ?_
 repeat' (first|refine zs0 ?_|refine Ops.alloc rfl rfl rfl (noPd rfl) (fun b=>?_))
 refine Ops.nilN (CdS.next ?_)
 refine CdS.of rfl ?_
 rw [hc0]
 refine zg4 ?_
 exact Cd.skip (endS (A':=[(fb,cl [.int .i64 p0] 3),(xr,cl [ptr rb] 161),(xb,cl [(.int .i64 xv)] 3),RdB rb bs q e]) rfl (fun _ h=>h.split) ⟨rfl,rfl⟩)
theorem facestring_pan (B0:Base) (fb xr xb rb:Nat) (bs:ByteArray) (p0 q e er:Int) (xv:ByteArray) :
  DCon prog B0 294 #[ptr fb,ptr xr,ptr xb] (.panicking [gave er]) [(fb,cl [.int .i64 p0] 3),(xr,cl [ptr rb] 161),(xb,cl [(.string xv)] 9),RdB rb bs q e] fun u' A=>settle u' = .returning ∧ A = [(fb,cl [.int .i64 p0] 3),(xr,cl [ptr rb] 161),(xb,cl [.string ⟨#[]⟩] 9),RdB rb bs p0 er]:=by
 refine DCon.intro (vs:=[_,_,_]) func294 rfl ntmps294 rfl (fun B c₀ cs hx hu=>?_)
 have hrec:recoverD (c₀ :: cs) = some (.iface 293 (.agg #[.int .i64 er]),{ c₀ with mode:=.panicking [⟨.iface 293 (.agg #[.int .i64 er]),true,false⟩] } :: cs):=by
  simp [recoverD,hu]
 refine CdS.seq ?_
 refine CdS.rec_ rfl hrec rfl rfl ?_
 refine Ops.tAss rfl rfl rfl rfl ?_
 repeat' (first|refine zs0 ?_|refine Ops.alloc rfl rfl rfl (noPd rfl) (fun b=>?_))
 refine Ops.nilN (CdS.next ?_)
 refine CdS.of rfl ?_
 refine zg6 ?_
 refine zdr [qy 0,qy 1,qy 2,qz 3,qy 4,qz 5,qz 6,qz 7,(8,2,[4]),qz 9,qz 10,(11,2,[]),(12,2,[])] ?_
 refine zg9 ?_
 exact Ops.nilN (endS (A':=[(fb,cl [.int .i64 p0] 3),(xr,cl [ptr rb] 161),(xb,cl [.string ⟨#[]⟩] 9),RdB rb bs p0 er]) rfl (fun _ h=>h.split) ⟨rfl,rfl⟩)
theorem facestring_ret (B0:Base) (fb xr xb rb:Nat) (bs:ByteArray) (p0 q e:Int) (xv:ByteArray) :
  DCon prog B0 294 #[ptr fb,ptr xr,ptr xb] .returning [(fb,cl [.int .i64 p0] 3),(xr,cl [ptr rb] 161),(xb,cl [(.string xv)] 9),RdB rb bs q e] fun u' A=>u' = .returning ∧ A = [(fb,cl [.int .i64 p0] 3),(xr,cl [ptr rb] 161),(xb,cl [(.string xv)] 9),RdB rb bs q e]:=by
 refine DCon.intro (vs:=[_,_,_]) func294 rfl ntmps294 rfl (fun B c₀ cs hx hu=>?_)
 have hrec:recoverD (c₀ :: cs) = none:=by simp [recoverD,hu]
 have hc0:c₀ = { c₀ with mode:=.returning }:=by rw [← hu]
 refine CdS.seq ?_
 refine CdS.rec_no rfl hrec rfl rfl ?_
 refine Ops.tAssNo rfl rfl rfl rfl ?_
 repeat' (first|refine zs0 ?_|refine Ops.alloc rfl rfl rfl (noPd rfl) (fun b=>?_))
 refine Ops.nilN (CdS.next ?_)
 refine CdS.of rfl ?_
 rw [hc0]
 refine zg4 ?_
 exact Cd.skip (endS (A':=[(fb,cl [.int .i64 p0] 3),(xr,cl [ptr rb] 161),(xb,cl [(.string xv)] 9),RdB rb bs q e]) rfl (fun _ h=>h.split) ⟨rfl,rfl⟩)
theorem faceuint64_old (B0:Base) (rb:Nat) (bs:ByteArray) (q e:Int) (g:FuncId) (ca:List Value) (he:e ≠ 0) :
  ConB prog B0 124 #[ptr rb,.func (.func g) #[] ca.toArray] [RdB rb bs q e] fun v A=>v = .int .u64 0 ∧ A = [RdB rb bs q e]:=by
 refine zqJ (vs:=[_,_]) func124 ntmps124 fun B hB=>?_
 repeat' (first|refine zs5 ?_|refine Ops.box rfl rfl rfl rfl (noPd rfl) (fun b=>?_)|refine Ops.alloc rfl rfl rfl (noPd rfl) (fun b=>?_))
 exact ze60
theorem faceuint64_new (B0:Base) (rb:Nat) (bs:ByteArray) (p:Nat) (g:FuncId) (ca:List Value) (C:List Blk) (res:Int ⊕ (Nat × Nat)) [hg:FnOk prog g]
  (hread:ConX prog B0 g ca.toArray (RdB rb bs p 0 :: C) (fun v A=>∃ u q,res = .inr (u,q) ∧ v = (.int .u64 ((u:Nat):Int)) ∧ A = RdB rb bs (q:Nat) 0 :: C) (fun c A=>∃ er,res = .inl er ∧ c = [gave er] ∧ ∃ q:Nat,A = RdB rb bs q 0 :: C)) :
  ConB prog B0 124 #[ptr rb,.func (.func g) #[] ca.toArray] (RdB rb bs p 0 :: C) fun v A=>(∃ u q,res = .inr (u,q) ∧ v = (.int .u64 ((u:Nat):Int)) ∧ A = RdB rb bs (q:Nat) 0 :: C) ∨ (∃ er,res = .inl er ∧ v = .int .u64 0 ∧ A = RdB rb bs p er :: C):=by
 refine ConX.calm (X:=fun _ _=>False) (ConX.intro (vs:=[_,_]) func124 rfl ntmps124 rfl (fun B hB=>?_)) (fun _ _ h=>h)
 repeat' (first|refine zs2 ?_|refine Ops.box rfl rfl rfl rfl (noPd rfl) (fun b=>?_)|refine Ops.alloc rfl rfl rfl (noPd rfl) (fun b=>?_))
 rename_i xr xb
 rename Nat=>fb
 refine Ops.dfr (fi:=[]) (ca:=[ptr fb,ptr xr,ptr xb]) (vs:=[]) rfl rfl rfl rfl ?_
 refine zg0 ?_
 refine Ops.callVX (fi:=[]) (vs:=[]) hread hB rfl rfl rfl rfl (fun c A' hX=>?_) (fun v A' hR=>?_)
 ·obtain ⟨er,hres,rfl,q,rfl⟩:=hX
  refine leaveD_pan (faceuint64_pan B0 fb xr xb rb bs p q 0 er 0) hB (fun u' A' hR=>?_)
  obtain ⟨hs,rfl⟩:=hR
  exact .inl ⟨hs,retX (ret1 (A':=RdB rb bs p er :: C) rfl (Res.cell1 rfl rfl) (fun _ h=>h.split) (.inr ⟨er,hres,rfl,rfl⟩))⟩
 ·obtain ⟨u,q,hres,rfl,rfl⟩:=hR
  refine zg4 ?_
  refine Cd.ret (leaveD_ret (faceuint64_ret B0 fb xr xb rb bs p q 0 (u:Int)) hB (fun u' A' hR=>?_))
  obtain ⟨rfl,rfl⟩:=hR
  exact .inl ⟨rfl,retX (ret1 (A':=RdB rb bs q 0 :: C) rfl (Res.cell1 rfl rfl) (fun _ h=>h.split) (.inl ⟨u,q,hres,rfl,rfl⟩))⟩
theorem faceint_old (B0:Base) (rb:Nat) (bs:ByteArray) (q e:Int) (g:FuncId) (ca:List Value) (he:e ≠ 0) :
  ConB prog B0 164 #[ptr rb,.func (.func g) #[] ca.toArray] [RdB rb bs q e] fun v A=>v = .int .i64 0 ∧ A = [RdB rb bs q e]:=by
 refine zqJ (vs:=[_,_]) func164 ntmps164 fun B hB=>?_
 repeat' (first|refine zs5 ?_|refine Ops.box rfl rfl rfl rfl (noPd rfl) (fun b=>?_)|refine Ops.alloc rfl rfl rfl (noPd rfl) (fun b=>?_))
 exact ze60
theorem faceint_new (B0:Base) (rb:Nat) (bs:ByteArray) (p:Nat) (g:FuncId) (ca:List Value) (C:List Blk) (res:Int ⊕ (Int × Nat)) [hg:FnOk prog g]
  (hread:ConX prog B0 g ca.toArray (RdB rb bs p 0 :: C) (fun v A=>∃ u q,res = .inr (u,q) ∧ v = (.int .i64 u) ∧ A = RdB rb bs (q:Nat) 0 :: C) (fun c A=>∃ er,res = .inl er ∧ c = [gave er] ∧ ∃ q:Nat,A = RdB rb bs q 0 :: C)) :
  ConB prog B0 164 #[ptr rb,.func (.func g) #[] ca.toArray] (RdB rb bs p 0 :: C) fun v A=>(∃ u q,res = .inr (u,q) ∧ v = (.int .i64 u) ∧ A = RdB rb bs (q:Nat) 0 :: C) ∨ (∃ er,res = .inl er ∧ v = .int .i64 0 ∧ A = RdB rb bs p er :: C):=by
 refine ConX.calm (X:=fun _ _=>False) (ConX.intro (vs:=[_,_]) func164 rfl ntmps164 rfl (fun B hB=>?_)) (fun _ _ h=>h)
 repeat' (first|refine zs2 ?_|refine Ops.box rfl rfl rfl rfl (noPd rfl) (fun b=>?_)|refine Ops.alloc rfl rfl rfl (noPd rfl) (fun b=>?_))
 rename_i xr xb
 rename Nat=>fb
 refine Ops.dfr (fi:=[]) (ca:=[ptr fb,ptr xr,ptr xb]) (vs:=[]) rfl rfl rfl rfl ?_
 refine zg0 ?_
 refine Ops.callVX (fi:=[]) (vs:=[]) hread hB rfl rfl rfl rfl (fun c A' hX=>?_) (fun v A' hR=>?_)
 ·obtain ⟨er,hres,rfl,q,rfl⟩:=hX
  refine leaveD_pan (faceint_pan B0 fb xr xb rb bs p q 0 er 0) hB (fun u' A' hR=>?_)
  obtain ⟨hs,rfl⟩:=hR
  exact .inl ⟨hs,retX (ret1 (A':=RdB rb bs p er :: C) rfl (Res.cell1 rfl rfl) (fun _ h=>h.split) (.inr ⟨er,hres,rfl,rfl⟩))⟩
 ·obtain ⟨u,q,hres,rfl,rfl⟩:=hR
  refine zg4 ?_
  refine Cd.ret (leaveD_ret (faceint_ret B0 fb xr xb rb bs p q 0 u) hB (fun u' A' hR=>?_))
  obtain ⟨rfl,rfl⟩:=hR
  exact .inl ⟨rfl,retX (ret1 (A':=RdB rb bs q 0 :: C) rfl (Res.cell1 rfl rfl) (fun _ h=>h.split) (.inl ⟨u,q,hres,rfl,rfl⟩))⟩
theorem facestring_old (B0:Base) (rb:Nat) (bs:ByteArray) (q e:Int) (g:FuncId) (ca:List Value) (he:e ≠ 0) :
  ConB prog B0 256 #[ptr rb,.func (.func g) #[] ca.toArray] [RdB rb bs q e] fun v A=>v = .string ⟨#[]⟩ ∧ A = [RdB rb bs q e]:=by
 refine zqJ (vs:=[_,_]) func256 ntmps256 fun B hB=>?_
 repeat' (first|refine zs5 ?_|refine Ops.box rfl rfl rfl rfl (noPd rfl) (fun b=>?_)|refine Ops.alloc rfl rfl rfl (noPd rfl) (fun b=>?_))
 exact ze60
theorem facestring_new (B0:Base) (rb:Nat) (bs:ByteArray) (p:Nat) (g:FuncId) (ca:List Value) (C:List Blk) (res:Int ⊕ (ByteArray × Nat)) [hg:FnOk prog g]
  (hread:ConX prog B0 g ca.toArray (RdB rb bs p 0 :: C) (fun v A=>∃ u q,res = .inr (u,q) ∧ v = (.string u) ∧ A = RdB rb bs (q:Nat) 0 :: C) (fun c A=>∃ er,res = .inl er ∧ c = [gave er] ∧ ∃ q:Nat,A = RdB rb bs q 0 :: C)) :
  ConB prog B0 256 #[ptr rb,.func (.func g) #[] ca.toArray] (RdB rb bs p 0 :: C) fun v A=>(∃ u q,res = .inr (u,q) ∧ v = (.string u) ∧ A = RdB rb bs (q:Nat) 0 :: C) ∨ (∃ er,res = .inl er ∧ v = .string ⟨#[]⟩ ∧ A = RdB rb bs p er :: C):=by
 refine ConX.calm (X:=fun _ _=>False) (ConX.intro (vs:=[_,_]) func256 rfl ntmps256 rfl (fun B hB=>?_)) (fun _ _ h=>h)
 repeat' (first|refine zs2 ?_|refine Ops.box rfl rfl rfl rfl (noPd rfl) (fun b=>?_)|refine Ops.alloc rfl rfl rfl (noPd rfl) (fun b=>?_))
 rename_i xr xb
 rename Nat=>fb
 refine Ops.dfr (fi:=[]) (ca:=[ptr fb,ptr xr,ptr xb]) (vs:=[]) rfl rfl rfl rfl ?_
 refine zg0 ?_
 refine Ops.callVX (fi:=[]) (vs:=[]) hread hB rfl rfl rfl rfl (fun c A' hX=>?_) (fun v A' hR=>?_)
 ·obtain ⟨er,hres,rfl,q,rfl⟩:=hX
  refine leaveD_pan (facestring_pan B0 fb xr xb rb bs p q 0 er ⟨#[]⟩) hB (fun u' A' hR=>?_)
  obtain ⟨hs,rfl⟩:=hR
  exact .inl ⟨hs,retX (ret1 (A':=RdB rb bs p er :: C) rfl (Res.cell1 rfl rfl) (fun _ h=>h.split) (.inr ⟨er,hres,rfl,rfl⟩))⟩
 ·obtain ⟨u,q,hres,rfl,rfl⟩:=hR
  refine zg4 ?_
  refine Cd.ret (leaveD_ret (facestring_ret B0 fb xr xb rb bs p q 0 u) hB (fun u' A' hR=>?_))
  obtain ⟨rfl,rfl⟩:=hR
  exact .inl ⟨rfl,retX (ret1 (A':=RdB rb bs q 0 :: C) rfl (Res.cell1 rfl rfl) (fun _ h=>h.split) (.inl ⟨u,q,hres,rfl,rfl⟩))⟩
def RR.sum:RR → Int ⊕ (Nat × Nat)
 | .bad e=>.inl e
 | .good n q=>.inr (n,q)
theorem numGo_le {b:ByteArray} {most:Nat} {over:Int}:∀ (k i p acc:Nat) {n q:Nat},numGo b most over k i p acc = .good n q → n ≤ most
 | 0,_,_,_,n,q,h=>by cases h
 | k + 1,i,p,acc,n,q,h=>by
  unfold numGo at h
  split at h
  ·cases h
  ·split at h
   ·exact numGo_le k _ _ _ h
   ·split at h
    ·cases h
    ·split at h
     ·cases h
     ·injection h with h1 h2
      omega
def rdNum (b:ByteArray) (most:Nat) (p:Nat) (e:Int):Nat × Nat × Int:=if e ≠ 0 then (0,p,e) else match numR b most 21 p with
 | .bad er=>(0,p,er)
 | .good n q=>(n,q,0)
def rdList (b:ByteArray) (most:Nat) (p:Nat) (e:Int):Nat × Nat × Int:=if e ≠ 0 then (0,p,e) else match numR b most 23 p with
 | .bad er=>(0,p,er)
 | .good n q=>(n,q,0)
theorem numGo_at {b:ByteArray} {most:Nat} {over:Int}:∀ (k i p acc:Nat) {n q:Nat},numGo b most over k i p acc = .good n q → p ≤ b.size → q ≤ b.size
 | 0,_,_,_,n,q,h,_=>by cases h
 | k + 1,i,p,acc,n,q,h,hp=>by
  unfold numGo at h
  split at h
  ·cases h
  ·rename_i c hc
   have hlt:=(getElem?_eq_some_iff.1 hc).1
   have hlt:p + 1 ≤ b.size:=hlt
   split at h
   ·exact numGo_at k _ _ _ h hlt
   ·split at h
    ·cases h
    ·split at h
     ·cases h
     ·injection h with h1 h2
      omega
theorem rdNum_at {b:ByteArray} {most p:Nat} {e:Int} (hp:p ≤ b.size):(rdNum b most p e).2.1 ≤ b.size:=by
 unfold rdNum
 split
 ·exact hp
 ·split
  ·exact hp
  ·rename_i n q h
   exact numGo_at _ _ _ _ h hp
theorem rdList_at {b:ByteArray} {most p:Nat} {e:Int} (hp:p ≤ b.size):(rdList b most p e).2.1 ≤ b.size:=by
 unfold rdList
 split
 ·exact hp
 ·split
  ·exact hp
  ·rename_i n q h
   exact numGo_at _ _ _ _ h hp
theorem num1_spec (B0:Base) (rb xr mb:Nat) (bs:ByteArray) (p most:Nat) (hp:p ≤ bs.size) (hb:bs.size ≤ 1000000) (hm:most < 18446744073709551616) :
  ConX prog B0 125 #[ptr xr,ptr mb] (RdB rb bs p 0 :: [(xr,cl [ptr rb] 161),(mb,cl [.int .u64 most] 34)])
   (fun v A=>∃ u q,(numR bs most 21 p).sum = .inr (u,q) ∧ v = .int .u64 ((u:Nat):Int) ∧ A = RdB rb bs (q:Nat) 0 :: [(xr,cl [ptr rb] 161),(mb,cl [.int .u64 most] 34)])
   (fun c A=>∃ er,(numR bs most 21 p).sum = .inl er ∧ c = [gave er] ∧ ∃ q:Nat,A = RdB rb bs q 0 :: [(xr,cl [ptr rb] 161),(mb,cl [.int .u64 most] 34)]):=by
 refine ConX.intro (vs:=[_,_]) func125 rfl ntmps125 rfl (fun B hB=>?_)
 refine zg6 ?_
 refine Ops.callX (number_spec B0 rb bs p 0 most 21 hp hb hm) hB rfl rfl rfl (fun c A' hX=>?_) (fun v A' hR=>?_)
 ·obtain ⟨er,hr,rfl,q,rfl⟩:=hX
  exact panX (A':=RdB rb bs q 0 :: [(xr,cl [ptr rb] 161),(mb,cl [.int .u64 most] 34)]) (fun _ h=>h.split) ⟨er,by rw [hr];rfl,rfl,q,rfl⟩
 ·obtain ⟨n,q,hr,hn,hq,rfl,rfl⟩:=hR
  refine zg0 ?_
  exact Cd.ret (retX (ret1 (A':=RdB rb bs q 0 :: [(xr,cl [ptr rb] 161),(mb,cl [.int .u64 most] 34)]) rfl (Res.tmp rfl) (fun _ h=>h.split) ⟨n,q,by rw [hr];rfl,rfl,rfl⟩))
theorem rnum_spec (B0:Base) (rb:Nat) (bs:ByteArray) (p most:Nat) (e:Int) (hp:p ≤ bs.size) (hb:bs.size ≤ 1000000) (hm:most < 18446744073709551616) :
  ConB prog B0 81 #[ptr rb,.int .u64 most] [RdB rb bs p e] fun v A=>v = .int .u64 (((rdNum bs most p e).1:Nat):Int) ∧ A = [RdB rb bs (((rdNum bs most p e).2.1:Nat):Int) (rdNum bs most p e).2.2]:=by
 refine zqJ (vs:=[_,_]) func81 ntmps81 fun B hB=>?_
 repeat' (first|refine zs0 ?_|refine Ops.box rfl rfl rfl rfl (noPd rfl) (fun b=>?_))
 rename_i xr
 rename Nat=>mb
 by_cases he:e = 0
 ·subst he
  refine Ops.callB (faceuint64_new B0 rb bs p 125 [ptr xr,ptr mb] [(xr,cl [ptr rb] 161),(mb,cl [.int .u64 most] 34)] _ (num1_spec B0 rb xr mb bs p most hp hb hm)) hB rfl (noPd rfl) rfl rfl rfl (fun v A' hR=>?_)
  have hu:rdNum bs most p 0 = match numR bs most 21 p with
   | .bad er=>(0,p,er)
   | .good n q=>(n,q,0):=if_neg (by simp)
  rcases hR with ⟨u,q,hr,rfl,rfl⟩|⟨er,hr,rfl,rfl⟩
  ·cases hn:numR bs most 21 p with
   | bad e2=>rw [hn] at hr;cases hr
   | good n q2 =>
    rw [hn] at hr hu
    injection hr with hr
    injection hr with h1 h2
    subst h1;subst h2
    rw [hu]
    refine zg0 ?_
    exact ze65
  ·cases hn:numR bs most 21 p with
   | good n q2=>rw [hn] at hr;cases hr
   | bad e2 =>
    rw [hn] at hr hu
    injection hr with h1
    subst h1
    rw [hu]
    refine zg0 ?_
    exact ze66
 ·refine zqB (faceuint64_old B0 rb bs p e 125 [ptr xr,ptr mb] he) hB fun v A' hR=>?_
  obtain ⟨rfl,rfl⟩:=hR
  rw [show rdNum bs most p e = (0,p,e) from if_pos he]
  refine zg0 ?_
  exact ze29
theorem wrap_i64 {n:Nat} (h:n < 9223372036854775808):IntKind.wrap .i64 (n:Int) = (n:Int):=by
 simp [IntKind.wrap,IntKind.bits,IntKind.signed];omega
theorem list_spec (B0:Base) (rb:Nat) (bs:ByteArray) (p most:Nat) (hp:p ≤ bs.size) (hb:bs.size ≤ 1000000) (hm:most ≤ 1099511627776) :
  ConX prog B0 166 #[ptr rb,.int .i64 most] [RdB rb bs p 0]
   (fun v A=>∃ u q,(numR bs most 23 p).sum = .inr (u,q) ∧ v = .int .i64 ((u:Nat):Int) ∧ A = [RdB rb bs (q:Nat) 0])
   (fun c A=>∃ er,(numR bs most 23 p).sum = .inl er ∧ c = [gave er] ∧ ∃ q:Nat,A = [RdB rb bs q 0]):=by
 refine ConX.intro (vs:=[_,_]) func166 rfl ntmps166 rfl (fun B hB=>?_)
 refine zg3 ?_
 refine Ops.cvI rfl rfl rfl rfl ?_
 rw [show max (0:Int) (most:Int) = (most:Int) from by omega,wrap_u64 (by omega)]
 skip
 refine Ops.callX (number_spec B0 rb bs p 0 most 23 hp hb (by omega)) hB rfl rfl rfl (fun c A' hX=>?_) (fun v A' hR=>?_)
 ·obtain ⟨er,hr,rfl,q,rfl⟩:=hX
  exact panX (A':=[RdB rb bs q 0]) (fun _ h=>h.split) ⟨er,by rw [hr];rfl,rfl,q,rfl⟩
 ·obtain ⟨n,q,hr,hn,hq,rfl,rfl⟩:=hR
  have hle:n ≤ most:=numGo_le _ _ _ _ hr
  refine Ops.cvI rfl rfl rfl rfl ?_
  rw [wrap_i64 (by omega)]
  refine zg0 ?_
  exact Cd.ret (retX (ret1 (A':=[RdB rb bs q 0]) rfl (Res.tmp rfl) (fun _ h=>h.split) ⟨n,q,by rw [hr];rfl,rfl,rfl⟩))
theorem list1_spec (B0:Base) (rb xr mb:Nat) (bs:ByteArray) (p most:Nat) (hp:p ≤ bs.size) (hb:bs.size ≤ 1000000) (hm:most ≤ 1099511627776) :
  ConX prog B0 165 #[ptr xr,ptr mb] (RdB rb bs p 0 :: [(xr,cl [ptr rb] 161),(mb,cl [.int .i64 most] 3)])
   (fun v A=>∃ u q,((numR bs most 23 p).sum.map id (fun x:Nat × Nat=>((x.1:Int),x.2))) = .inr (u,q) ∧ v = .int .i64 u ∧ A = RdB rb bs (q:Nat) 0 :: [(xr,cl [ptr rb] 161),(mb,cl [.int .i64 most] 3)])
   (fun c A=>∃ er,((numR bs most 23 p).sum.map id (fun x:Nat × Nat=>((x.1:Int),x.2))) = .inl er ∧ c = [gave er] ∧ ∃ q:Nat,A = RdB rb bs q 0 :: [(xr,cl [ptr rb] 161),(mb,cl [.int .i64 most] 3)]):=by
 refine ConX.intro (vs:=[_,_]) func165 rfl ntmps165 rfl (fun B hB=>?_)
 refine zg6 ?_
 refine Ops.callX (list_spec B0 rb bs p most hp hb hm) hB rfl rfl rfl (fun c A' hX=>?_) (fun v A' hR=>?_)
 ·obtain ⟨er,hr,rfl,q,rfl⟩:=hX
  exact panX (A':=RdB rb bs q 0 :: [(xr,cl [ptr rb] 161),(mb,cl [.int .i64 most] 3)]) (fun _ h=>h.split) ⟨er,by rw [hr];rfl,rfl,q,rfl⟩
 ·obtain ⟨n,q,hr,rfl,rfl⟩:=hR
  refine zg0 ?_
  exact Cd.ret (retX (ret1 (A':=RdB rb bs q 0 :: [(xr,cl [ptr rb] 161),(mb,cl [.int .i64 most] 3)]) rfl (Res.tmp rfl) (fun _ h=>h.split) ⟨(n:Int),q,by rw [hr];rfl,rfl,rfl⟩))
theorem rlist_spec (B0:Base) (rb:Nat) (bs:ByteArray) (p most:Nat) (e:Int) (hp:p ≤ bs.size) (hb:bs.size ≤ 1000000) (hm:most ≤ 1099511627776) :
  ConB prog B0 103 #[ptr rb,.int .i64 most] [RdB rb bs p e] fun v A=>v = .int .i64 (((rdList bs most p e).1:Nat):Int) ∧ A = [RdB rb bs (((rdList bs most p e).2.1:Nat):Int) (rdList bs most p e).2.2]:=by
 refine zqJ (vs:=[_,_]) func103 ntmps103 fun B hB=>?_
 repeat' (first|refine zs0 ?_|refine Ops.box rfl rfl rfl rfl (noPd rfl) (fun b=>?_))
 rename_i xr
 rename Nat=>mb
 by_cases he:e = 0
 ·subst he
  refine Ops.callB (faceint_new B0 rb bs p 165 [ptr xr,ptr mb] [(xr,cl [ptr rb] 161),(mb,cl [.int .i64 most] 3)] _ (list1_spec B0 rb xr mb bs p most hp hb hm)) hB rfl (noPd rfl) rfl rfl rfl (fun v A' hR=>?_)
  have hu:rdList bs most p 0 = match numR bs most 23 p with
   | .bad er=>(0,p,er)
   | .good n q=>(n,q,0):=if_neg (by simp)
  rcases hR with ⟨u,q,hr,rfl,rfl⟩|⟨er,hr,rfl,rfl⟩
  ·cases hn:numR bs most 23 p with
   | bad e2=>rw [hn] at hr;cases hr
   | good n q2 =>
    rw [hn] at hr hu
    injection hr with hr
    injection hr with h1 h2
    subst h1;subst h2
    rw [hu]
    refine zg0 ?_
    exact ze65
  ·cases hn:numR bs most 23 p with
   | good n q2=>rw [hn] at hr;cases hr
   | bad e2 =>
    rw [hn] at hr hu
    injection hr with h1
    have h1:e2 = er:=h1
    subst h1
    rw [hu]
    refine zg0 ?_
    exact ze66
 ·refine zqB (faceint_old B0 rb bs p e 165 [ptr xr,ptr mb] he) hB fun v A' hR=>?_
  obtain ⟨rfl,rfl⟩:=hR
  rw [show rdList bs most p e = (0,p,e) from if_pos he]
  refine zg0 ?_
  exact ze29
theorem read_spec (b0:ByteArray):Con prog 80 #[.string b0] [] fun v A=>∃ rb,v = ptr rb ∧ A = [RdB rb b0 0 0]:=by
 refine zqI (vs:=[_]) func80 ntmps80 fun B=>?_
 repeat' (first|refine zs3 ?_|refine Ops.box rfl rfl rfl rfl (noPd rfl) (fun b=>?_))
 rename Nat=>rb
 exact Cd.ret (ret1 (A':=[RdB rb b0 0 0]) rfl (Res.tmp rfl) (fun _ h=>h.split) ⟨rb,rfl,rfl⟩)
theorem left_spec (rb:Nat) (b0:ByteArray) (p:Nat) (e:Int) (hp:p ≤ b0.size) (hb:b0.size ≤ 1000000):Con prog 254 #[ptr rb] [RdB rb b0 p e] fun v A=>v = .int .i64 ((b0.size:Int) - (p:Int)) ∧ A = [RdB rb b0 p e]:=by
 refine zqI (vs:=[_]) func254 ntmps254 fun B=>?_
 refine zg0 ?_
 refine zdr [qz 0,qz 1,qz 2,qy 3,qz 4,qz 5,qz 6,qz 7,qy 8,qz 9,qz 10] ?_
 refine zg11 ?_
 exact Cd.ret (ret1 (A':=[RdB rb b0 p e]) rfl (Res.tmp rfl) (fun _ h=>h.split) ⟨rfl,rfl⟩)
def faultF (p:Nat) (e:Int):Int × Int:=if e = 0 then (0,0) else (e,(p:Int))
theorem fault_spec (rb:Nat) (b0:ByteArray) (p:Nat) (e:Int):Con prog 140 #[ptr rb] [RdB rb b0 p e] fun v A=>v = .tuple #[.int .i64 (faultF p e).1,.int .i64 (faultF p e).2] ∧ A = [RdB rb b0 p e]:=by
 refine zqI (vs:=[_]) func140 ntmps140 fun B=>?_
 unfold faultF
 by_cases he:e = 0
 ·rw [if_pos he]
  refine zg15 ?_
  exact ze71
 ·rw [if_neg he]
  refine zg8 ?_
  refine zdr [qz 0,qz 1,qz 2,qy 3,qz 4,qz 5,qz 6,qy 7,qz 8,qz 9] ?_
  refine zg1 ?_
  exact ze71
def endF (b0:ByteArray) (p:Nat) (e:Int):Int × Int:=if e = 0 ∧ p < b0.size then (24,(p:Int)) else faultF p e
theorem end_spec (rb:Nat) (b0:ByteArray) (p:Nat) (e:Int):Con prog 83 #[ptr rb] [RdB rb b0 p e] fun v A=>v = .tuple #[.int .i64 (endF b0 p e).1,.int .i64 (endF b0 p e).2] ∧ A = [RdB rb b0 p e]:=by
 refine zqI (vs:=[_]) func83 ntmps83 fun B=>?_
 unfold endF
 by_cases he:e = 0
 ·by_cases hlt:p < b0.size
  ·have hlt':(p:Int) < b0.size:=by omega
   rw [if_pos ⟨he,hlt⟩]
   refine zg0 ?_
   refine zdr [qz 0,qz 1,qz 2,qy 3,qz 4,qz 5,qz 6,qz 7,qz 8,qy 9,qz 10,qz 11,qz 12,qy 13,qz 14,qz 15,qz 16] ?_
   refine zg14 ?_
   refine zdr [qz 0,qz 1,qz 2,qy 3,qz 4,qz 5] ?_
   refine zg1 ?_
   exact ze71
  ·have hlt':¬ (p:Int) < b0.size:=by omega
   rw [if_neg (fun h=>hlt h.2)]
   refine zg0 ?_
   refine zdr [qz 0,qz 1,qz 2,qy 3,qz 4,qz 5,qz 6,qz 7,qz 8,qy 9,qz 10,qz 11,qz 12,qy 13,qz 14,qz 15,qz 16] ?_
   refine zg10 ?_
   refine zqA (fault_spec rb b0 p e) fun v A' hR=>?_
   obtain ⟨rfl,rfl⟩:=hR
   refine zg1 ?_
   exact ze71
 ·rw [if_neg (fun h=>he h.1)]
  refine zg0 ?_
  refine zdr [qz 0,qz 1,qz 2,qy 3,qz 4,qz 5,qz 6,qz 7,qz 8,qy 9,qz 10,qz 11,qz 12,qy 13,qz 14,qz 15,qz 16] ?_
  refine zg8 ?_
  refine zqA (fault_spec rb b0 p e) fun v A' hR=>?_
  obtain ⟨rfl,rfl⟩:=hR
  refine zg1 ?_
  exact ze71
theorem bytesOf_size (xs:List Int):(bytesOf xs).size = xs.length:=by
 unfold bytesOf
 suffices ∀ (s:ByteArray),(xs.foldl (fun r n=>r.push (UInt8.ofNat n.toNat)) s).size = s.size + xs.length by simpa using this .empty
 induction xs with
 | nil=>intro s;simp
 | cons x xs ih=>intro s;rw [List.foldl_cons,ih,ByteArray.size_push,List.length_cons];omega
theorem numB_size {n:Nat} (h:n < 18446744073709551616):(numB n).size ≤ 10:=by
 rw [numB,bytesOf_size]
 exact numL_len 9 n (by omega)
theorem text_spec (s:ByteArray) (hs:s.size ≤ 1000000000):Con prog 177 #[.string s] [] fun v A=>v = .string (numB s.size ++ s) ∧ A = []:=by
 refine zqI (vs:=[_]) func177 ntmps177 fun B=>?_
 refine zg4 ?_
 refine Ops.cvI rfl rfl rfl rfl ?_
 rw [wrap_u64 (by omega)]
 skip
 refine zqA (num_spec s.size (by omega)) fun v A' hR=>?_
 obtain ⟨rfl,rfl⟩:=hR
 refine zg0 ?_
 refine Ops.cat rfl rfl rfl rfl ?_ rfl ?_
 ·have:(numB s.size).size ≤ 10:=numB_size (by omega)
  omega
 refine zg0 ?_
 exact ze9
@[reducible] def CtB (cb:Nat) (bl la re:Int):Blk:=(cb,cl [.int .i64 bl,.int .i64 la,.int .i64 re] 339)
theorem bnew_yes (bl re:Int) (h1:1 ≤ bl) (h2:bl ≤ 16) (h3:0 ≤ re) (h4:re ≤ 1099511627776):Con prog 191 #[.int .i64 bl,.int .i64 re] [] fun v A=>∃ cb,v = .tuple #[ptr cb,.int .i64 0] ∧ A = [CtB cb bl re re]:=by
 refine zqI (vs:=[_,_]) func191 ntmps191 fun B=>?_
 have g1:¬ bl < 1:=by omega
 have g2:¬ 16 < bl:=by omega
 have g3:¬ re < 0:=by omega
 have g4:¬ 1099511627776 < re:=by omega
 repeat' (first|refine Cd.seq ?_|refine Cd.reg ?_|refine Ops.nil ?_|refine Ops.mv rfl rfl rfl rfl ?_|refine Ops.asg rfl rfl rfl rfl ?_|refine Ops.bin rfl rfl rfl rfl rfl ?_|refine Ops.pickF rfl rfl rfl rfl rfl ?_|refine Ops.bld rfl rfl rfl rfl ?_|refine Ops.box rfl rfl rfl rfl (noPd rfl) (fun b=>?_)|refine Cd.skip (Cd.next ?_)|refine Cd.condF rfl zp0 ?_|((fail_if_success refine Ops.probe rfl ?_);refine Ops.gF rfl rfl zp0 ?_))
 rename Nat=>cb
 exact Cd.ret (ret2 (A':=[CtB cb bl re re]) rfl (Res.tmp rfl) (Res.tmp rfl) (fun _ h=>h.split) ⟨cb,rfl,rfl⟩)
theorem bmore_spec (cb xc xr:Nat) (bl la re:Int) (r0:Int) (h1:1 ≤ bl) (h2:bl ≤ 16) (h3:0 ≤ re) (h4:re ≤ 1099511627776) :
  Con prog 259 #[ptr xc,ptr xr] [CtB cb bl la re,(xc,cl [ptr cb] 114),(xr,cl [.int .i64 r0] 3)]
   fun v A=>A = [CtB cb bl la (if re < la then min (re + bl) 1099511627776 else re),(xc,cl [ptr cb] 114),(xr,cl [.int .i64 (if re < la then min (re + bl) 1099511627776 else r0)] 3)]:=by
 refine zqI (vs:=[_,_]) func259 ntmps259 fun B=>?_
 by_cases hlt:re < la
 ·rw [if_pos hlt,if_pos hlt]
  refine zg0 ?_
  refine zdr [qy 0,qz 1,qz 2,qy 3,qy 4,qz 5,qz 6,qy 7,qz 8] ?_
  refine zg15 ?_
  refine zdr [qy 0,qy 1,qz 2,qz 3,qy 4,qy 5,qz 6,qz 7,qy 8,qz 9,qz 10,qz 11,qz 12,(13,2,[])] ?_
  refine zg9 ?_
  exact Ops.nilN (end0 (A':=[CtB cb bl la (min (re + bl) 1099511627776),(xc,cl [ptr cb] 114),(xr,cl [.int .i64 (min (re + bl) 1099511627776)] 3)]) rfl (fun _ h=>h.split) rfl)
 ·rw [if_neg hlt,if_neg hlt]
  refine zg0 ?_
  refine zdr [qy 0,qz 1,qz 2,qy 3,qy 4,qz 5,qz 6,qy 7,qz 8] ?_
  refine zg13 ?_
  exact Cd.skip (end0 (A':=[CtB cb bl la re,(xc,cl [ptr cb] 114),(xr,cl [.int .i64 r0] 3)]) rfl (fun _ h=>h.split) rfl)
def nextB (bl la re:Int):(Int × Int × Int) × Int × Int :=
 if 1099511627776 ≤ la then ((0,0,101),la,re)
 else if re < la + 1 then ((la + 1,min (re + bl) 1099511627776,0),la + 1,min (re + bl) 1099511627776)
 else ((la + 1,0,0),la + 1,re)
theorem bnext_spec (cb:Nat) (bl la re:Int) (h1:1 ≤ bl) (h2:bl ≤ 16) (h3:0 ≤ re) (h4:re ≤ 1099511627776) (h5:0 ≤ la) :
  Con prog 216 #[ptr cb] [CtB cb bl la re]
   fun v A=>v = .tuple #[.int .i64 (nextB bl la re).1.1,.int .i64 (nextB bl la re).1.2.1,.int .i64 (nextB bl la re).1.2.2] ∧ A = [CtB cb bl (nextB bl la re).2.1 (nextB bl la re).2.2]:=by
 refine zqI (vs:=[_]) func216 ntmps216 fun B=>?_
 by_cases hmax:1099511627776 ≤ la
 ·rw [show nextB bl la re = ((0,0,101),la,re) from if_pos hmax]
  repeat' (first|refine zs5 ?_|refine Ops.box rfl rfl rfl rfl (noPd rfl) (fun b=>?_)|refine Ops.alloc rfl rfl rfl (noPd rfl) (fun b=>?_))
  exact Cd.ret (ret3 (A':=[CtB cb bl la re]) rfl (Res.tmp rfl) (Res.cell1 rfl rfl) (Res.tmp rfl) (fun _ h=>h.split) ⟨rfl,rfl⟩)
 ·repeat' (first|refine zs7 ?_|refine Ops.box rfl rfl rfl rfl (noPd rfl) (fun b=>?_)|refine Ops.alloc rfl rfl rfl (noPd rfl) (fun b=>?_))
  rename_i xc
  rename Nat=>xr
  refine Ops.callV (fi:=[]) (vs:=[]) (bmore_spec cb xc xr bl (la + 1) re 0 h1 h2 h3 h4) rfl (noPd rfl) rfl rfl rfl rfl (fun v A' hR=>?_)
  obtain rfl:=hR
  by_cases hlt:re < la + 1
  ·rw [show nextB bl la re = ((la + 1,min (re + bl) 1099511627776,0),la + 1,min (re + bl) 1099511627776) from by unfold nextB;rw [if_neg hmax,if_pos hlt]]
   rw [if_pos hlt,if_pos hlt]
   refine zg0 ?_
   refine zdr [qy 0,qz 1,qz 2,qy 3,qy 4,qz 5,(6,2,[]),qz 7] ?_
   refine zg1 ?_
   exact Cd.ret (ret3 (A':=[CtB cb bl (la + 1) (min (re + bl) 1099511627776)]) rfl (Res.tmp rfl) (Res.cell1 rfl rfl) (Res.tmp rfl) (fun _ h=>h.split) ⟨rfl,rfl⟩)
  ·rw [show nextB bl la re = ((la + 1,0,0),la + 1,re) from by unfold nextB;rw [if_neg hmax,if_neg hlt]]
   rw [if_neg hlt,if_neg hlt]
   refine zg0 ?_
   refine zdr [qy 0,qz 1,qz 2,qy 3,qy 4,qz 5,(6,2,[]),qz 7] ?_
   refine zg1 ?_
   exact Cd.ret (ret3 (A':=[CtB cb bl (la + 1) re]) rfl (Res.tmp rfl) (Res.cell1 rfl rfl) (Res.tmp rfl) (fun _ h=>h.split) ⟨rfl,rfl⟩)
end Go.Proofs.YtkoelgkghijgiaaGreat
namespace Go.Sep
open Go
def bv (s:ByteArray):List Value:=s.data.toList.map fun u=>Value.int .u8 u.toNat
theorem bv_len (s:ByteArray):(bv s).length = s.size:=by simp [bv]
theorem bv_one (s:ByteArray):oneAll (bv s) = true:=by
 unfold oneAll bv
 rw [List.all_map,List.all_eq_true]
 intro u _;rfl
theorem bv_app (a b:ByteArray):bv (a ++ b) = bv a ++ bv b:=by simp [bv]
theorem bv_extract (s:ByteArray) (i j:Nat):bv (s.extract i j) = ((bv s).take j).drop i:=by
 simp [bv,List.map_take,List.map_drop,List.drop_take]
theorem bv_empty:bv .empty = []:=rfl
theorem bv_arr (s:ByteArray) (n:Nat):((s.extract 0 n).data.map fun b=>(Value.int .u8 (b.toNat:Int))) = (bv (s.extract 0 n)).toArray:=by
 apply Array.ext'
 simp [bv]
theorem oneAll_bv (s:ByteArray):∀ u ∈ bv s,u.oneCell' = true:=oneAll_mem (bv_one s)
theorem run_bytes {P:Program} {w:World} {b o n c:Nat} {s:ByteArray} (hn:s.size = n) (h:∀ j u,(bv s)[j]? = some u → w.cell? ⟨b,o + j,none⟩ = some u) :
  (Conv.bytesToString (.slice (some ⟨b,o,none⟩) n c)).run P w = .ok (.string s) w:=by
 have hrd:(loadCells ⟨b,o,none⟩ n).run P w = .ok (bv s).toArray w:=run_loadCells (by rw [bv_len,hn]) h
 unfold Conv.bytesToString
 simp only [Sem.run_bind,hrd,Result.andThen_ok]
 rw [List.forIn_toArray]
 have e:bv s = (s.data.toList.map fun u=>((u.toNat:Nat):Int)).map fun n=>Value.int .u8 n:=by simp [bv]
 rw [e,run_pushes (fun _ _=>rfl)]
 simp only [Result.andThen_ok,Sem.run_pure]
 congr 2
 have:∀ (l:List UInt8) (acc:ByteArray),(l.map fun u=>((u.toNat:Nat):Int)).foldl (fun r n=>r.push (UInt8.ofNat n.toNat)) acc = ⟨acc.data ++ l.toArray⟩:=by
  intro l
  induction l with
  | nil=>intro acc;simp
  | cons x l ih =>
   intro acc
   rw [List.map_cons,List.foldl_cons,ih]
   apply ByteArray.ext
   simp [ByteArray.push]
 rw [this]
 apply ByteArray.ext
 simp
section
variable {P:Program} {N:Fi} {B:Base} {Q:Exit → Act → World → Prop} {T:Tm} {A:List Blk} {ops:Array Oper} {l:List Oper}
variable {d:Nat} {ty:TypeId} {pos:String} {af:Array Edge} {m:Md} {gd:Option (Nat × Bool)}
theorem Ops.slAr {t e:TypeId} {ge:Bool} {x:Operand} {n sz bs b o:Nat} {zc:List Value} (hm:m.rd true = true) (hg:gst ops T gd = some true) [ht:TyD P t (.array n e)] [he:Ty P e ge sz bs zc] (hx:ev T x = some (.pointer (some ⟨b,o,none⟩))) (hd:Nat.blt d N.n = true)
  (k:Ops P N B Q ops m.tl l ((d,.slice (some ⟨b,o,none⟩) n n) :: T) A):Ops P N B Q ops m (⟨some d,.slice t x none none none,ty,pos,af,gd⟩ :: l) T A :=
 Ops.pureV hm hg hd (fun a w hF=>by
  simp [execOp,hF.eval hx,Instr.sliceAt,Instr.sureAddr,ht.run_und,Instr.sliceBounds,he.run_size,add_none]) k
theorem Ops.slArHi {t e:TypeId} {ge:Bool} {x z:Operand} {n sz bs b o:Nat} {k':IntKind} {j:Int} {zc:List Value} (hm:m.rd true = true) (hg:gst ops T gd = some true) [ht:TyD P t (.array n e)] [he:Ty P e ge sz bs zc] (hx:ev T x = some (.pointer (some ⟨b,o,none⟩))) (hz:ev T z = some (.int k' j)) (h0:0 ≤ j) (h1:j ≤ n) (hd:Nat.blt d N.n = true)
  (k:Ops P N B Q ops m.tl l ((d,.slice (some ⟨b,o,none⟩) j.toNat n) :: T) A):Ops P N B Q ops m (⟨some d,.slice t x none (some z) none,ty,pos,af,gd⟩ :: l) T A :=
 Ops.pureV hm hg hd (fun a w hF=>by
  simp [execOp,hF.eval hx,hF.eval hz,Instr.sliceAt,Instr.sureAddr,ht.run_und,Instr.sliceBounds,run_bound h0 h1,he.run_size,add_none]) k
theorem Ops.cvSp {s t e:TypeId} {x:Operand} {b o n c:Nat} {bs:ByteArray} {L:List Value} {E:TypeId} (hm:m.rd false = true) (hg:gst ops T gd = some true) [hs:TyD P s (.slice e)] [he:TyD P e (.int .u8)] [ht:TyD P t .string] (hx:ev T x = some (.slice (some ⟨b,o,none⟩) n c)) [hb:Has A b (cl L E)]
  (hn:bs.size = n) (h:∀ j u,(bv bs)[j]? = some u → L[o + j]? = some u) (hd:Nat.blt d N.n = true) (k:Ops P N B Q ops m.tl l ((d,.string bs) :: T) A):Ops P N B Q ops m (⟨some d,.convert s t x,ty,pos,af,gd⟩ :: l) T A :=
 Ops.readV hm hg hd (fun a w hF hS=>by
  have hr:=run_bytes (P:=P) (w:=w) (b:=b) (o:=o) (c:=c) hn (fun j u hu=>by rw [cell_of (hS.here _ hb.mem)];exact h j u hu)
  have:(convert s t (.slice (some ⟨b,o,none⟩) n c)).run P w = .ok (.string bs) w:=by
   simp [convert,hs.run_und,ht.run_und,he.run_und,hr]
  simp [execOp,hF.eval hx,this]) k
theorem Ops.cpS {t ts e:TypeId} {ge:Bool} {x y:Operand} {b o n c bs:Nat} {s:ByteArray} {zc L L':List Value} {E:TypeId} {A':List Blk} (hm:m.eff = true) (hg:gst ops T gd = some true) [ht:TyD P t (.slice e)] [he:Ty P e ge 1 bs zc]
  (hx:ev T x = some (.slice (some ⟨b,o,none⟩) n c)) (hy:ev T y = some (.string s)) [hb:Has A b (cl L E)] (hfit:o + min s.size n ≤ L.length) (hL:ins L o (bv (s.extract 0 (min s.size n))) = L') [hu:Upd A b (cl L E) (cl L' E) A'] (hd:Nat.blt d N.n = true)
  (hp:Pd P N B ops m T (some d) (fun v X=>v = .int .i64 (min s.size n:Nat) ∧ X = A')) (k:Ops P N B Q ops m.tl l ((d,.int .i64 (min s.size n:Nat)) :: T) A') :
  Ops P N B Q ops m (⟨some d,.call { callee:=.builtin .copy,args:=#[x,y],argTypes:=#[t,ts] },ty,pos,af,gd⟩ :: l) T A :=
 Ops.effV hm hp hg hd (fun a w hF hS=>by
  obtain ⟨A1,A2,rfl,rfl⟩:=hu.put
  have hlen:(bv (s.extract 0 (min s.size n))).length = min s.size n:=by rw [bv_len];simp
  obtain ⟨w',hr,hS'⟩:=run_storeCells (P:=P) (off:=o) (bv (s.extract 0 (min s.size n))) 0 L w hS (oneAll_bv _) (by rw [hlen];omega)
  rw [Nat.add_zero,hL] at hS'
  have h2:(Builtin.copy_ #[t,ts] ty #[.slice (some ⟨b,o,none⟩) n c,.string s]).run P w = .ok (.int .i64 (min s.size n:Nat)) w':=by
   have hfc:(Builtin.firstCells 1 (min s.size n) (.string s)).run P w = .ok (bv (s.extract 0 (min s.size n))).toArray w:=by
    simp only [Builtin.firstCells,bv_arr,Sem.run_pure]
   have hn':s.size.min n = min s.size n:=rfl
   simp [Builtin.copy_,ht.run_und,he.run_size,Builtin.lenOf,hn',hfc,hr]
   rfl
  simp only [execOp,resolve,invoke,builtin,Sem.run_bind,Sem.run_pure,Result.andThen_ok,List.map_toArray,List.map_cons,List.map_nil,hF.eval hx,hF.eval hy,h2,effPost]
  exact ⟨_,⟨trivial,rfl⟩,hS'⟩) fun v X ⟨h1,h2⟩=>by rw [h1,h2];exact k
theorem Ops.mkU {t e:TypeId} {ge:Bool} {x y:Operand} {sz bs:Nat} {z:Value} {zc:List Value} {i:Int} {k1 k2:IntKind} (hm:m.eff = true) (hg:gst ops T gd = some true) [ht:TyD P t (.slice e)] [he:Ty P e ge sz bs zc] (hzc:zc = List.replicate sz z) (hx:ev T x = some (.int k1 i)) (hy:ev T y = some (.int k2 i)) (h0:0 < i) (h1:i ≤ 1048576) (hb:bs ≤ 65536) (hsz:0 < sz) (hd:Nat.blt d N.n = true)
  (hp:Pd P N B ops m T (some d) (NewR (fun b=>.slice (some ⟨b,0,none⟩) i.toNat i.toNat) (cl (List.replicate (i.toNat * sz) z) e) A)) (k:∀ b,Ops P N B Q ops m.tl l ((d,.slice (some ⟨b,0,none⟩) i.toNat i.toNat) :: T) ((b,cl (List.replicate (i.toNat * sz) z) e) :: A)):Ops P N B Q ops m (⟨some d,.makeSlice t x y,ty,pos,af,gd⟩ :: l) T A :=
 Ops.new (v:=fun b=>.slice (some ⟨b,0,none⟩) i.toNat i.toNat) hm hp hg hd (fun a w hF hS=>by
  obtain ⟨zv,hz,hzc'⟩:=he.run_zero (w:=w)
  obtain ⟨i3,hi3,his3,hib3⟩:=he.run_info (w:=w)
  obtain ⟨n,rfl⟩:∃ n:Nat,i = n:=⟨i.toNat,by omega⟩
  have wl:IntKind.i64.wrap (n:Int) = n:=by simp [IntKind.wrap,IntKind.bits,IntKind.signed];omega
  have hnb:n * bs ≤ 1048576 * 65536:=Nat.mul_le_mul (by omega) hb
  have hnb':(bs:Int) * (n:Int) ≤ 68719476736:=by
   have:((n * bs:Nat):Int) ≤ ((1048576 * 65536:Nat):Int):=by exact_mod_cast hnb
   rw [Int.natCast_mul,Int.mul_comm] at this
   omega
  have n1:¬ ((n:Int) < 0):=by omega
  have n2:¬ (281474976710656 < (bs:Int) * (n:Int)):=by omega
  have n3:¬ (140737488355328 < n * bs):=by omega
  have hn0:¬ n * sz = 0:=by
   intro h
   rcases Nat.mul_eq_zero.1 h with h|h <;> omega
  have hn1:¬ (n = 0 ∨ sz = 0):=by omega
  simp [execOp,hF.eval hx,hF.eval hy,Instr.makeSlice,ht.run_und,asInt,asIntOf,hi3,his3,hib3,he.run_size,wl,n1,n2,n3,newRow,askRoom,roomBytes,cl,hn0,hn1,hz,hzc',hzc]
  congr 2
  apply Array.ext
  ·simp
  ·intro q h1 h2
   simp [Nat.mod_lt _ hsz]) k
theorem Ops.cpNil {t ts e:TypeId} {ge:Bool} {x y:Operand} {a0:Option Addr} {n c bs:Nat} {zc:List Value} (hm:m.rd true = true) (hg:gst ops T gd = some true) [ht:TyD P t (.slice e)] [he:Ty P e ge 1 bs zc]
  (hx:ev T x = some (.slice a0 n c)) (hy:ev T y = some (.slice none 0 0)) (hd:Nat.blt d N.n = true) (k:Ops P N B Q ops m.tl l ((d,.int .i64 0) :: T) A) :
  Ops P N B Q ops m (⟨some d,.call { callee:=.builtin .copy,args:=#[x,y],argTypes:=#[t,ts] },ty,pos,af,gd⟩ :: l) T A :=
 Ops.pureV hm hg hd (fun a w hF=>by
  have h2:(Builtin.copy_ #[t,ts] ty #[.slice a0 n c,.slice none 0 0]).run P w = .ok (.int .i64 0) w:=by
   cases a0 <;> simp [Builtin.copy_,ht.run_und,he.run_size,Builtin.lenOf,Builtin.firstCells,storeCells] <;> rfl
  simp only [execOp,resolve,invoke,builtin,Sem.run_bind,Sem.run_pure,Result.andThen_ok,List.map_toArray,List.map_cons,List.map_nil,hF.eval hx,hF.eval hy,h2]) k
end
end Go.Sep
namespace Go.Proofs.YtkoelgkghijgiaaGreat
open Go Go.Sep Go.Proofs Go.Proofs.Tryz
set_option maxRecDepth 10000
set_option maxHeartbeats 40000000
set_option synthInstance.maxSize 2000
def zs:ByteArray:=⟨Array.replicate 128 0⟩
theorem bv_zs:bv zs = List.replicate 128 (.int .u8 0):=by simp [bv,zs]
theorem zeros_eq (n:Nat):List.replicate (n * 128) (Value.int .u8 0) = ((List.replicate n zs).map bv).flatten ++ []:=by
 rw [List.append_nil]
 induction n with
 | zero=>rfl
 | succ n ih=>rw [List.replicate_succ,List.map_cons,List.flatten_cons,← ih,bv_zs,List.replicate_append_replicate];congr 1;omega
@[reducible] def DkB (db g c n:Nat) (rv:Value) (ar bd:Int) (de:Bool):Blk:=(db,cl [.slice (some ⟨g,0,none⟩) n c,rv,.int .i64 ar,.int .i64 bd,.bool de] 136)
@[reducible] def SeB (g:Nat) (S:List ByteArray) (sp:List Value):Blk:=(g,cl ((S.map bv).flatten ++ sp) 139)
def DiskA (db:Nat) (S:List ByteArray) (ar bd:Int) (de:Bool) (k:Nat) (D:List Blk):Prop :=
 ∃ g c sp rv rows H,D = DkB db g c S.length rv ar bd de :: SeB g S sp :: H ∧ Own 275 2 rv rows H ∧ rows.length ≤ k ∧ S.length ≤ c ∧ (∀ s ∈ S,s.size = 128)
theorem dnew_spec (n:Nat) (h1:1 ≤ n) (h2:n ≤ 1026):Con prog 33 #[.int .i64 n] [] fun v A=>∃ db,v = .tuple #[ptr db,.int .i64 0] ∧ DiskA db (List.replicate n zs) 0 0 false 0 A:=by
 refine zqI (vs:=[_]) func33 ntmps33 fun B=>?_
 have g1:¬ (n:Int) < 1:=by omega
 have g2:¬ 1026 < (n:Int):=by omega
 refine zg8 ?_
 refine Ops.mkU (z:=.int .u8 0) (sz:=128) rfl rfl rfl rfl rfl (by omega) (by omega) (by omega) (by omega) rfl (noPd rfl) (fun g=>?_)
 rw [show ((n:Int).toNat) = n from by omega,zeros_eq]
 repeat' (first|refine zs0 ?_|refine Ops.box rfl rfl rfl rfl (noPd rfl) (fun b=>?_))
 rename Nat=>db
 exact Cd.ret (ret2 (A':=[DkB db g n n (.slice none 0 0) 0 0 false,SeB g (List.replicate n zs) []]) rfl (Res.tmp rfl) (Res.tmp rfl) (fun _ h=>h.split) ⟨db,rfl,g,n,[],.slice none 0 0,[],[],by rw [List.length_replicate],Own.none,Nat.le_refl _,by simp,fun s hs=>by rw [List.eq_of_mem_replicate hs];rfl⟩)
theorem dsize_spec (db:Nat) (S:List ByteArray) (ar bd:Int) (de:Bool) (k:Nat) (D:List Blk) (hD:DiskA db S ar bd de k D):Con prog 113 #[ptr db] D fun v A=>v = .int .i64 S.length ∧ A = D:=by
 obtain ⟨g,c,sp,rv,rows,H,rfl,hown,hk,hc,hs⟩:=hD
 refine zqI (vs:=[_]) func113 ntmps113 fun B=>?_
 refine zg1 ?_
 exact ze80
theorem ddead_spec (db:Nat) (S:List ByteArray) (ar bd:Int) (de:Bool) (k:Nat) (D:List Blk) (hD:DiskA db S ar bd de k D):Con prog 114 #[ptr db] D fun v A=>v = .bool de ∧ A = D:=by
 obtain ⟨g,c,sp,rv,rows,H,rfl,hown,hk,hc,hs⟩:=hD
 refine zqI (vs:=[_]) func114 ntmps114 fun B=>?_
 refine zg1 ?_
 exact ze80
theorem dis_spec (db:Nat) (S:List ByteArray) (ar bd:Int) (de:Bool) (k:Nat) (D:List Blk) (hD:DiskA db S ar bd de k D) (i:Int):Con prog 183 #[ptr db,.int .i64 i] D fun v A=>v = .bool (decide (0 ≤ i ∧ i < S.length)) ∧ A = D:=by
 obtain ⟨g,c,sp,rv,rows,H,rfl,hown,hk,hc,hs⟩:=hD
 refine zqI (vs:=[_,_]) func183 ntmps183 fun B=>?_
 by_cases h0:0 ≤ i
 ·by_cases h1:i < (S.length:Int)
  ·rw [decide_eq_true (⟨h0,h1⟩:0 ≤ i ∧ i < S.length)]
   refine zg18 ?_
   exact Cd.ret (ret1 (A':=DkB db g c S.length rv ar bd de :: SeB g S sp :: H) rfl (Res.tmp rfl) (fun _ h=>h.split) ⟨by rw [decide_eq_true h1],rfl⟩)
  ·rw [decide_eq_false (fun h:0 ≤ i ∧ i < S.length=>h1 h.2)]
   refine zg18 ?_
   exact Cd.ret (ret1 (A':=DkB db g c S.length rv ar bd de :: SeB g S sp :: H) rfl (Res.tmp rfl) (fun _ h=>h.split) ⟨by rw [decide_eq_false h1],rfl⟩)
 ·rw [decide_eq_false (fun h:0 ≤ i ∧ i < S.length=>h0 h.1)]
  refine zg11 ?_
  exact ze80
theorem bv_rows {S:List ByteArray} (hs:∀ s ∈ S,s.size = 128):RowsOk 128 (S.map bv):=fun r hr=>by
 obtain ⟨s,h,rfl⟩:=List.mem_map.1 hr
 exact ⟨by rw [bv_len,hs s h],bv_one s⟩
theorem sec_at {S:List ByteArray} (hs:∀ s ∈ S,s.size = 128) {i:Nat} {s:ByteArray} (hi:S[i]? = some s) (sp:List Value):∀ j u,(bv s)[j]? = some u → ((S.map bv).flatten ++ sp)[i * 128 + j]? = some u:=fun j u hu=>by
 have hr:=bv_rows hs
 have hj:j < 128:=by
  have:=(List.getElem?_eq_some_iff.1 hu).1
  rw [bv_len,hs s (List.mem_of_getElem? hi)] at this
  exact this
 have h1:=hr.at_ (i:=i) (k:=j) (r:=bv s) (by rw [List.getElem?_map,hi];rfl) hj
 rw [List.getElem?_append_left (List.getElem?_eq_some_iff.1 (h1.trans hu)).1,h1,hu]
theorem sec_set {S:List ByteArray} (hs:∀ s ∈ S,s.size = 128) {i:Nat} {s x:ByteArray} (hi:S[i]? = some s) (hx:x.size ≤ 128) (sp:List Value) :
  ins ((S.map bv).flatten ++ sp) (i * 128) (bv x) = ((S.set i (x ++ s.extract x.size 128)).map bv).flatten ++ sp:=by
 have hr:=bv_rows hs
 have hlt:=(List.getElem?_eq_some_iff.1 hi).1
 have hsz:=hs s (List.mem_of_getElem? hi)
 have h:=rows_setN (i:=i) (o:=0) (r:=bv s) (r':=bv (x ++ s.extract x.size 128)) (vs:=bv x) hr (by rw [List.getElem?_map,hi];rfl) ⟨by
  rw [bv_app,bv_extract]
  simp only [List.take_zero,List.nil_append,Nat.zero_add,bv_len]
  rw [List.take_of_length_le (by rw [bv_len];omega)],by rw [bv_len,bv_len];omega⟩ sp
 rw [Nat.add_zero] at h
 rw [h,List.map_set]
def readD (S:List ByteArray) (de:Bool) (i:Int):ByteArray × Int:=if de then (.empty,2) else if 0 ≤ i ∧ i < S.length then (S.getD i.toNat .empty,0) else (.empty,40)
theorem dread_spec (db:Nat) (S:List ByteArray) (ar bd:Int) (de:Bool) (k:Nat) (D:List Blk) (hD:DiskA db S ar bd de k D) (i:Int):Con prog 234 #[ptr db,.int .i64 i] D fun v A=>v = .tuple #[.string (readD S de i).1,.int .i64 (readD S de i).2] ∧ A = D:=by
 have hD0:=hD
 obtain ⟨g,c,sp,rv,rows,H,rfl,hown,hk,hc,hs⟩:=hD
 refine zqI (vs:=[_,_]) func234 ntmps234 fun B=>?_
 cases de with
 | true =>
  refine zg1 ?_
  exact Cd.ret (ret2 (A':=DkB db g c S.length rv ar bd true :: SeB g S sp :: H) rfl (Res.tmp rfl) (Res.tmp rfl) (fun _ h=>h.split) ⟨rfl,rfl⟩)
 | false =>
  refine zg7 ?_
  refine Ops.call (dis_spec db S ar bd false k _ hD0 i) rfl (noPd rfl) rfl rfl rfl (fun v A' hR=>?_)
  obtain ⟨rfl,rfl⟩:=hR
  by_cases hin:0 ≤ i ∧ i < S.length
  ·rw [decide_eq_true hin,show readD S false i = (S.getD i.toNat .empty,0) from by unfold readD;rw [if_neg (by simp),if_pos hin]]
   obtain ⟨h0,h1⟩:=hin
   refine zg17 ?_
   refine Ops.slAr rfl rfl rfl rfl ?_
   have hi:S[i.toNat]? = some (S.getD i.toNat .empty):=by
    rw [List.getD_eq_getElem?_getD,List.getElem?_eq_getElem (by omega)];rfl
   refine Ops.cvSp (bs:=S.getD i.toNat .empty) rfl rfl rfl (hs _ (List.mem_of_getElem? hi)) (sec_at hs hi sp) rfl ?_
   refine zg0 ?_
   exact ze81
  ·rw [decide_eq_false hin,show readD S false i = (.empty,40) from by unfold readD;rw [if_neg (by simp),if_neg hin]]
   refine zg6 ?_
   exact ze81
def cutS (x s:ByteArray) (n:Nat):ByteArray:=x.extract 0 n ++ s.extract n 128
theorem cutS_size {x s:ByteArray} {n:Nat} (hx:x.size = 128) (hs:s.size = 128) (hn:n ≤ 128):(cutS x s n).size = 128:=by simp [cutS,hx,hs];omega
theorem cutS_full {x s:ByteArray} (hx:x.size = 128):cutS x s 128 = x:=by
 have h1:x.extract 0 128 = x:=by rw [← hx];exact ByteArray.extract_zero_size
 have h2:s.extract 128 128 = .empty:=by simp
 rw [cutS,h1,h2,ByteArray.append_empty]
def writeD (S:List ByteArray) (ar bd:Int) (de:Bool) (i:Int) (x:ByteArray):(List ByteArray × Int × Bool) × Int :=
 if de then ((S,ar,de),2)
 else if ¬ (0 ≤ i ∧ i < S.length) then ((S,ar,de),40)
 else if x.size ≠ 128 then ((S,ar,de),41)
 else if ar = 1 then ((S.set i.toNat (cutS x (S.getD i.toNat .empty) bd.toNat),ar,true),2)
 else ((S.set i.toNat x,max 0 (ar - 1),de),0)
theorem dwrite_spec (db:Nat) (S:List ByteArray) (ar bd:Int) (de:Bool) (k:Nat) (D:List Blk) (hD:DiskA db S ar bd de k D) (i:Int) (x:ByteArray) (hk:k ≤ 1000000000000) (hb0:0 ≤ bd) (hb1:bd ≤ 128) (har:0 ≤ ar) (har2:ar ≤ 9223372036854775807) :
  Con prog 117 #[ptr db,.int .i64 i,.string x] D fun v A=>v = .int .i64 (writeD S ar bd de i x).2 ∧ DiskA db (writeD S ar bd de i x).1.1 (writeD S ar bd de i x).1.2.1 bd (writeD S ar bd de i x).1.2.2 (k + 1) A:=by
 have hD0:=hD
 obtain ⟨g,c,sp,rv,rows,H,rfl,hown,hk1,hc,hs⟩:=hD
 have hD1:DiskA db S ar bd de (k + 1) (DkB db g c S.length rv ar bd de :: SeB g S sp :: H):=⟨g,c,sp,rv,rows,H,rfl,hown,by omega,hc,hs⟩
 refine zqI (vs:=[_,_,_]) func117 ntmps117 fun B=>?_
 unfold writeD
 cases de with
 | true =>
  refine zg1 ?_
  exact Cd.ret (ret1 (A':=DkB db g c S.length rv ar bd true :: SeB g S sp :: H) rfl (Res.tmp rfl) (fun _ h=>h.split) ⟨rfl,hD1⟩)
 | false =>
  simp only [Bool.false_eq_true,if_false]
  refine zg1 ?_
  refine Ops.call (dis_spec db S ar bd false k _ hD0 i) rfl (noPd rfl) rfl rfl rfl (fun v A' hR=>?_)
  obtain ⟨rfl,rfl⟩:=hR
  by_cases hin:0 ≤ i ∧ i < S.length
  ·rw [decide_eq_true hin,if_neg (not_not_intro hin)]
   obtain ⟨h0,h1⟩:=hin
   have hi:S[i.toNat]? = some (S.getD i.toNat .empty):=by
    rw [List.getD_eq_getElem?_getD,List.getElem?_eq_getElem (by omega)];rfl
   have hss:=hs _ (List.mem_of_getElem? hi)
   by_cases hx:x.size = 128
   ·rw [if_neg (not_not_intro hx)]
    have hfit:∀ n,n ≤ 128 → i.toNat * 128 + n ≤ ((S.map bv).flatten ++ sp).length:=fun n hn=>by
     rw [List.length_append,(bv_rows hs).len,List.length_map]
     have:(i.toNat + 1) * 128 ≤ S.length * 128:=Nat.mul_le_mul_right _ (by omega)
     omega
    have hx':(x.size:Int) = 128:=by omega
    by_cases h1r:ar = 1
    ·rw [if_pos h1r]
     refine zg8 ?_
     refine zdr [qz 0,qz 1,qz 2,qy 3,qz 4,qz 5,qz 6,qz 7,qz 8,qy 9,qz 10,qz 11,(12,2,[])] ?_
     refine zg17 ?_
     refine Ops.slArHi rfl rfl rfl rfl hb0 hb1 rfl ?_
     refine zg0 ?_
     have hmin:min x.size bd.toNat = bd.toNat:=by omega
     refine Ops.cpS (L':=((S.set i.toNat (cutS x (S.getD i.toNat .empty) bd.toNat)).map bv).flatten ++ sp) rfl rfl rfl rfl (by rw [hmin];exact hfit _ (by omega)) ?_ rfl (noPd rfl) ?_
     ·rw [hmin,sec_set hs hi (by simp;omega) sp]
      simp only [cutS,ByteArray.size_extract,show min bd.toNat x.size - 0 = bd.toNat from by omega]
     refine zg1 ?_
     refine Cd.ret (ret1 (A':=DkB db g c S.length rv ar bd true :: SeB g (S.set i.toNat (cutS x (S.getD i.toNat .empty) bd.toNat)) sp :: H) rfl (Res.tmp rfl) (fun _ h=>h.split) ⟨rfl,g,c,sp,rv,rows,H,by rw [List.length_set],hown,by omega,by rw [List.length_set];exact hc,fun s hm=>?_⟩)
     rcases List.mem_or_eq_of_mem_set hm with hm|rfl
     ·exact hs s hm
     ·exact cutS_size hx hss (by omega)
    ·rw [if_neg h1r]
     obtain ⟨a0,c0,hsv⟩:=hown.form
     subst hsv
     refine zg10 ?_
     have hmin:min x.size 128 = 128:=by omega
     refine Ops.slAr rfl rfl rfl rfl ?_
     refine zg0 ?_
     refine Ops.cpS (L':=((S.set i.toNat x).map bv).flatten ++ sp) rfl rfl rfl rfl (by rw [hmin];exact hfit _ (by omega)) ?_ rfl (noPd rfl) ?_
     ·rw [hmin,sec_set hs hi (by simp;omega) sp,ByteArray.size_extract,show min 128 x.size - 0 = 128 from by omega]
      have h9:=cutS_full (s:=S.getD i.toNat .empty) hx
      rw [cutS] at h9
      rw [h9]
     repeat' (first|refine zs3 ?_|refine Ops.bs1 rfl rfl rfl rfl rfl rfl rfl (noPd rfl) (fun b=>?_))
     refine Ops.app1 hown (by omega) (by omega) rfl rfl rfl rfl (by rfl) (by rfl) rfl (noPd rfl) rfl (fun v' G' hG'=>?_)
     obtain ⟨a1,c1,rfl⟩:=hG'.form
     refine zg1 ?_
     refine Cd.ret (ret1 (A':=DkB db g c S.length _ (max 0 (ar - 1)) bd false :: SeB g (S.set i.toNat x) sp :: G') rfl (Res.tmp rfl) (fun _ h=>h.split) ⟨rfl,g,c,sp,_,_,G',by rw [List.length_set],hG',by simp;omega,by rw [List.length_set];exact hc,fun s hm=>?_⟩)
     rcases List.mem_or_eq_of_mem_set hm with hm|rfl
     ·exact hs s hm
     ·exact hx
   ·rw [if_pos hx]
    have hx':¬ (x.size:Int) = 128:=by omega
    refine zg8 ?_
    exact ze1
  ·rw [decide_eq_false hin,if_pos hin]
   refine zg6 ?_
   exact ze1
end Go.Proofs.YtkoelgkghijgiaaGreat
namespace Go.Sep
open Go
def clF (l:List Value) (E:TypeId) (f:Nat):Obj:=.cells l.toArray E (0,f)
def BG (E:TypeId) (sv:Value) (s:ByteArray) (G:List Blk):Prop :=
 (sv = .slice none 0 0 ∧ s = .empty ∧ G = []) ∨ ∃ g c sp f,sv = .slice (some ⟨g,0,none⟩) s.size c ∧ G = [(g,clF (bv s ++ sp) E f)] ∧ f ≤ s.size ∧ s.size + sp.length = c ∧ 0 < c
theorem BG.none {E:TypeId}:BG E (.slice none 0 0) .empty []:=.inl ⟨rfl,rfl,rfl⟩
theorem BG.form {E:TypeId} {sv:Value} {s:ByteArray} {G:List Blk} (h:BG E sv s G):∃ a c,sv = .slice a s.size c:=by
 rcases h with ⟨rfl,rfl,_⟩|⟨g,c,sp,f,rfl,_⟩
 ·exact ⟨_,_,rfl⟩
 ·exact ⟨_,_,rfl⟩
section
variable {P:Program} {B:Base}
theorem clF_cell {w:World} {b:Nat} {l:List Value} {E:TypeId} {f:Nat} (h:w.heap[b]? = some (clF l E f)) (off:Nat):w.cell? ⟨b,off,none⟩ = l[off]?:=by
 simp [World.cell?,h,clF]
theorem run_storeF {A1 A2:List Blk} {b:Nat} {E:TypeId} {off f:Nat} (hf:f ≤ off) (vs:List Value):∀ (i:Nat) (l:List Value) (w:World),Sat B (A1 ++ (b,clF l E f) :: A2) w →
  (∀ u ∈ vs,u.oneCell' = true) → off + i + vs.length ≤ l.length →
  ∃ w',(storeCells ⟨b,off,none⟩ vs i).run P w = .ok () w' ∧ Sat B (A1 ++ (b,clF (ins l (off + i) vs) E f) :: A2) w':=by
 induction vs with
 | nil=>intro i l w h _ _;exact ⟨w,by simp [storeCells],by rw [ins_nil];exact h⟩
 | cons v vs ih =>
  intro i l w h h1 hlen
  simp only [List.length_cons] at hlen
  have hb:=h.here (b,clF l E f) (List.mem_append_right _ (List.mem_cons_self ..))
  have hst:Sat B (A1 ++ (b,clF (l.set (off + i) v) E f) :: A2) (w.setCell ⟨b,off + i,Option.none⟩ v):=by
   refine h.put rfl rfl rfl ?_ fun n hn=>?_
   ·simp only [clF] at hb ⊢
    simp [World.setCell,Array.getElem?_modify,hb]
   ·simp [World.setCell,Array.getElem?_modify,Ne.symm hn]
  obtain ⟨w',hr,hS⟩:=ih (i + 1) (l.set (off + i) v) _ hst (fun u hu=>h1 u (List.mem_cons_of_mem _ hu)) (by simp;omega)
  refine ⟨w',?_,?_⟩
  ·simp only [storeCells,Sem.run_bind,add_none]
   have hfr:w.frozen? ⟨b,off + i,Option.none⟩ = false:=by
    simp only [World.frozen?,hb,clF]
    simp;omega
   rw [run_store P w _ v .plain (h1 v (List.mem_cons_self ..)),clF_cell hb,hfr,List.getElem?_eq_getElem (by omega)]
   simpa using hr
  ·rw [ins_cons (by omega)];exact hS
theorem run_appendS {w:World} {t ts ty e bs:Nat} {zc:List Value} (ht:TyD P t (.slice e)) (hts:TyD P ts .string) (he:Ty P e false 1 bs zc) (hzc:zc.length = 1) (hbs:bs ≤ 8) {sv:Value} {s x:ByteArray} {G F:List Blk} (hS:Sat B (G ++ F) w) (hb:BG e sv s G) (hsz:s.size + x.size ≤ 1000000000000) :
  effPost P B (fun v X=>∃ G',BG e v (s ++ x) G' ∧ X = G' ++ F) ((do pure (Next.value (← Builtin.append_ #[t,ts] ty #[sv,.string x])):Sem Next).run P w):=by
 obtain ⟨a,c,hsv⟩:=hb.form
 obtain ⟨i,hi,his,hib⟩:=he.run_info (w:=w)
 have hfc:∀ w':World,(Builtin.firstCells 1 x.size (.string x)).run P w' = .ok (bv x).toArray w':=fun w'=>by
  have:=bv_arr x x.size
  simp only [ByteArray.extract_zero_size] at this
  simp only [Builtin.firstCells,ByteArray.extract_zero_size,this,Sem.run_pure]
 by_cases hcap:s.size + x.size ≤ c
 ·rcases hb with ⟨h1,h2,h3⟩|⟨g,c',sp,f,h1,h2,h3,h4,h5⟩
  ·subst h2;subst h3
   rw [hsv] at h1
   injection h1 with h1 h1' h1''
   subst h1
   have hx0:x.size = 0:=by simp at hcap;omega
   have hxe:x = .empty:=ByteArray.size_eq_zero_iff.1 hx0
   subst hxe
   have:(Builtin.append_ #[t,ts] ty #[sv,.string .empty]).run P w = .ok sv w:=by
    have:=hfc w
    simp only [ByteArray.size_empty] at this
    simp [Builtin.append_,ht.run_und,hts.run_und,he.run_size,hsv,h1'',Builtin.lenOf,this,bv_empty]
   simp only [Sem.run_bind,this,Result.andThen_ok,Sem.run_pure,effPost]
   exact ⟨F,⟨[],by rw [hsv];simpa [h1''] using (BG.none (E:=e)),rfl⟩,by simpa using hS⟩
  ·rw [hsv] at h1
   injection h1 with h1 h1' h1''
   subst h1;subst h1'';subst h2
   obtain ⟨w',hr,hS'⟩:=run_storeF (P:=P) (A1:=[]) (A2:=F) (b:=g) (E:=e) (off:=s.size) h3 (bv x) 0 (bv s ++ sp) w (by simpa using hS) (oneAll_bv x) (by rw [List.length_append,bv_len,bv_len];omega)
   have:(Builtin.append_ #[t,ts] ty #[sv,.string x]).run P w = .ok (.slice (some ⟨g,0,Option.none⟩) (s.size + x.size) c) w':=by
    simp [Builtin.append_,ht.run_und,hts.run_und,he.run_size,hsv,Builtin.lenOf,hcap,hfc,add_none,hr]
   simp only [Sem.run_bind,this,Result.andThen_ok,Sem.run_pure,effPost]
   refine ⟨_,⟨[(g,clF (ins (bv s ++ sp) (s.size + 0) (bv x)) e f)],.inr ⟨g,c,sp.drop x.size,f,by rw [ByteArray.size_append],?_,by rw [ByteArray.size_append];omega,by rw [ByteArray.size_append,List.length_drop];omega,h5⟩,rfl⟩,by simpa using hS'⟩
   have e1:ins (bv s ++ sp) (s.size + 0) (bv x) = bv s ++ bv x ++ sp.drop (bv x).length:=by rw [Nat.add_zero,← bv_len];exact ins_app _ _ _
   rw [e1,bv_len,bv_app]
 ·have hle:=nextcap_le (need:=s.size + x.size) (c:=c) (by omega)
  have hb2:¬ (Builtin.nextslicecap (s.size + x.size) c * bs > 2 ^ 48):=by
   have h1:=Nat.mul_le_mul_right bs hle
   have h2:=Nat.mul_le_mul_left (s.size + x.size + (s.size + x.size) / 4 + 512) hbs
   rw [show (2:Nat) ^ 48 = 281474976710656 from rfl]
   omega
  have hm2:¬ (IntKind.i64.max < (s.size:Int) + (x.size:Int)):=by
   rw [show IntKind.i64.max = 9223372036854775807 from rfl]
   omega
  obtain ⟨z,hz,hzcell⟩:=he.run_zero (w:=w.drew)
  have hold:∀ w',Sat B (G ++ F) w' → (Builtin.firstCells 1 s.size sv).run P w' = .ok (bv s).toArray w':=by
   intro w' hS'
   rcases hb with ⟨h1,h2,h3⟩|⟨g,c',sp,f,h1,h2,h3,h4,h5⟩
   ·subst h1;subst h2
    simp [Builtin.firstCells,bv_empty]
   ·subst h2;subst h1
    simp only [Builtin.firstCells,Nat.mul_one]
    exact run_loadCells (bv_len s) fun j u hu=>by
     rw [Nat.zero_add,clF_cell (hS'.here (g,clF (bv s ++ sp) e f) (by simp)),List.getElem?_append_left (List.getElem?_eq_some_iff.1 hu).1,hu]
  generalize hq:Question.appendCap (s.size + x.size) c e = q
  have hfo:q.forced = false:=by subst hq;rfl
  have hcut:s.size + x.size ≤ q.cut (w.tape w.drawn q):=by
   subst hq
   simp only [Question.cut]
   omega
  have hS2:Sat B (G ++ F) w.drew:=hS.drew
  obtain ⟨i3,hi3,his3,hib3⟩:=he.run_info (w:=w.drew)
  generalize hnce:q.cut (w.tape w.drawn q) = nc at hcut
  have hrest:(Builtin.zeroCells zc.toArray (nc - (s.size + x.size))).size = nc - (s.size + x.size):=by
   simp [Builtin.zeroCells,hzc]
  have:(Builtin.append_ #[t,ts] ty #[sv,.string x]).run P w =
    .ok (.slice (some ⟨w.heap.size,0,Option.none⟩) (s.size + x.size) nc) (w.drew.alloc (.cells ((bv s).toArray ++ (bv x).toArray ++ Builtin.zeroCells zc.toArray (nc - (s.size + x.size))) e)):=by
   unfold Builtin.append_
   clear hle
   generalize (2:Nat) ^ 48 = M at hb2 ⊢
   generalize IntKind.i64.max = M2 at hm2 ⊢
   have hold2:=hold _ hS2
   have hx2:=hfc w.drew
   rw [hsv] at hold2
   simp [ht.run_und,hts.run_und,he.run_size,hsv,Builtin.lenOf,hcap,hi,hib,hm2,hb2,hq,hfo,hnce,hi3,hold2,hx2,hz,hzcell,newRow]
   simp only [← List.append_toArray,Array.append_assoc]
  simp only [Sem.run_bind,this,Result.andThen_ok,Sem.run_pure,effPost]
  have hnc:0 < nc:=by
   rcases Nat.eq_zero_or_pos nc with h|h
   ·omega
   ·exact h
  refine ⟨_,⟨[(w.heap.size,clF (bv (s ++ x) ++ (Builtin.zeroCells zc.toArray (nc - (s.size + x.size))).toList) e 0)],.inr ⟨w.heap.size,nc,_,0,by rw [ByteArray.size_append],rfl,Nat.zero_le _,by rw [ByteArray.size_append,Array.length_toList,hrest];omega,hnc⟩,rfl⟩,?_⟩
  have h9:=hS2.right.alloc (.cells ((bv s).toArray ++ (bv x).toArray ++ Builtin.zeroCells zc.toArray (nc - (s.size + x.size))) e)
  have e9:(Obj.cells ((bv s).toArray ++ (bv x).toArray ++ Builtin.zeroCells zc.toArray (nc - (s.size + x.size))) e) = clF (bv (s ++ x) ++ (Builtin.zeroCells zc.toArray (nc - (s.size + x.size))).toList) e 0:=by
   simp [clF,bv_app]
  rw [e9] at h9 ⊢
  exact h9
theorem run_us {w:World} {pt it ty e:Nat} (hp:TyD P pt (.pointer e)) (hc:P.cellsOf e = 1) {A1 A2:List Blk} {g f n:Nat} {s:ByteArray} {L:List Value} (hS:Sat B (A1 ++ (g,clF L e f) :: A2) w) (hn:s.size = n) (hL:∀ (j:Nat) (u:Value),(bv s)[j]? = some u → L[j]? = some u) (hle:s.size ≤ L.length) (h0:0 < n) (hf:f ≤ n) (h63:n ≤ 9223372036854775807) :
  ∃ w',(Builtin.unsafeString_ #[pt,it] ty #[.pointer (some ⟨g,0,none⟩),.int .i64 n]).run P w = .ok (.string s) w' ∧ Sat B (A1 ++ (g,clF L e n) :: A2) w':=by
 have hb:=hS.here (g,clF L e f) (List.mem_append_right _ (List.mem_cons_self ..))
 have hsl:s.data.toList.length = n:=by rw [← hn];rfl
 have h1:=Lib.run_unsafeString_row (P:=P) (w:=w) pt it ty e hp.und hc g L.length (by simp [World.shape?,hb,clF]) s.data.toList (fun h=>by rw [h] at hsl;simp at hsl;omega) (by rw [hsl];omega) (by rw [hsl];omega) (fun j x hx=>by
  rw [add_none,Nat.zero_add,clF_cell hb]
  exact hL j _ (by simp only [bv,List.getElem?_map,hx,Option.map_some]))
 refine ⟨w.freeze ⟨g,0,none⟩ n,?_,?_⟩
 ·rw [hsl] at h1
  exact h1
 ·have hn0:¬ n = 0:=by omega
  refine hS.put (by simp [World.freeze,hn0]) (by simp [World.freeze,hn0]) (by simp [World.freeze,hn0]) ?_ fun m hm=>?_
  ·simp only [World.freeze,hn0,if_false,Array.getElem?_modify,if_true,hb,Option.map_some,clF]
   congr 2
   by_cases hz:f = 0
   ·subst hz;simp
   ·have:¬ (0 = f):=fun h=>hz h.symm
    simp [this];omega
  ·simp [World.freeze,hn0,Array.getElem?_modify,Ne.symm hm]
end
class ExtOk (P:Program) (f:FuncId) (e:outParam (Array Value → Sem Value)):Prop where
 ok:∃ fn,P.funcs[f]? = some fn ∧ (fn.name == "runtime.NumGoroutine") = false ∧ fn.body.isNone = true ∧ Extern.findNext fn = none ∧ Extern.find fn = some e
section
variable {P:Program} {N:Fi} {B:Base} {Q:Exit → Act → World → Prop} {T:Tm} {A:List Blk} {ops:Array Oper} {l:List Oper}
variable {d:Nat} {ty:TypeId} {pos:String} {af:Array Edge} {m:Md} {gd:Option (Nat × Bool)}
theorem ExtOk.run {f:FuncId} {e:Array Value → Sem Value} (h:ExtOk P f e) {a:Act} {w:World} {xs:List Operand} {vs:List Value} {ats:Array TypeId} (hF:Fr N T a) (hx:evs T xs = some vs) :
  (execOp a.eval ⟨some d,.call { callee:=.value (.func f),args:=xs.toArray,argTypes:=ats },ty,pos,af,gd⟩).run P w = ((e vs.toArray).run P w).andThen fun v w'=>.ok (.value v) w':=by
 obtain ⟨fn,h1,h2,h3,h4,h5⟩:=h.ok
 simp [execOp,resolve,Act.eval,Deferred.ofValue,invoke,hF.evals hx,run_callFunc_extern h1 h2 h3 h4 h5]
theorem Ops.extR {f:FuncId} {e:Array Value → Sem Value} {xs:List Operand} {vs:List Value} {ats:Array TypeId} {v:Value} (hm:m.eff = true) (hg:gst ops T gd = some true) [h:ExtOk P f e] (hx:evs T xs = some vs) (hr:∀ w:World,(e vs.toArray).run P w = .ok v w) (hd:Nat.blt d N.n = true)
  (hp:Pd P N B ops m T (some d) (fun u X=>u = v ∧ X = A)) (k:Ops P N B Q ops m.tl l ((d,v) :: T) A):Ops P N B Q ops m (⟨some d,.call { callee:=.value (.func f),args:=xs.toArray,argTypes:=ats },ty,pos,af,gd⟩ :: l) T A :=
 Ops.effV hm hp hg hd (fun a w hF hS=>by
  rw [h.run hF hx,hr w]
  exact ⟨A,⟨rfl,rfl⟩,hS⟩) fun u X ⟨h1,h2⟩=>by rw [h1,h2];exact k
theorem Ops.mkNZ {f:FuncId} {ps:Array TypeId} {t e:TypeId} {n:Nat} {xs:List Operand} {ats:Array TypeId} (hm:m.eff = true) (hg:gst ops T gd = some true) [h:ExtOk P f (Extern.BytealgMakeNoZero.makeNoZero ps #[t])] [ht:TyD P t (.slice e)] (hx:evs T xs = some [.int .i64 n]) (h1:n ≤ 1000000000) (hd:Nat.blt d N.n = true)
  (hp:Pd P N B ops m T (some d) (fun v X=>∃ b cs,v = .slice (some ⟨b,0,none⟩) n cs.length ∧ n ≤ cs.length ∧ X = (b,cl cs e) :: A)) (k:∀ b cs,n ≤ cs.length → Ops P N B Q ops m.tl l ((d,.slice (some ⟨b,0,none⟩) n cs.length) :: T) ((b,cl cs e) :: A)) :
  Ops P N B Q ops m (⟨some d,.call { callee:=.value (.func f),args:=xs.toArray,argTypes:=ats },ty,pos,af,gd⟩ :: l) T A :=
 Ops.effV hm hp hg hd (fun a w hF hS=>by
  obtain ⟨cs,hr,hc,_⟩:=Lib.run_makeNoZero (P:=P) w ps t e ht.und n (by omega)
  rw [h.run hF hx,hr]
  have:=(hS.drew.drew).alloc (.cells cs e)
  exact ⟨_,⟨w.heap.size,cs.toList,by rw [Array.length_toList],by rw [Array.length_toList];exact hc,rfl⟩,this⟩) fun v X ⟨b,cs,h1,h2,h3⟩=>by rw [h1,h3];exact k b cs h2
theorem Ops.appG {t ts e bs:Nat} {x y:Operand} {sv:Value} {s u:ByteArray} {G F:List Blk} {zc:List Value} (hown:BG e sv s G) (hsz:s.size + u.size ≤ 1000000000000) (hm:m.eff = true) (hg:gst ops T gd = some true) [ht:TyD P t (.slice e)] [hts:TyD P ts .string] [he:Ty P e false 1 bs zc] (hzc:zc.length = 1) (hbs:bs ≤ 8)
  (hx:ev T x = some sv) (hy:ev T y = some (.string u)) [hs:Split A G F] (hd:Nat.blt d N.n = true) (hp:Pd P N B ops m T (some d) (fun v X=>∃ G',BG e v (s ++ u) G' ∧ X = G' ++ F))
  (k:∀ v G',BG e v (s ++ u) G' → Ops P N B Q ops m.tl l ((d,v) :: T) (G' ++ F)):Ops P N B Q ops m (⟨some d,.call { callee:=.builtin .append,args:=#[x,y],argTypes:=#[t,ts] },ty,pos,af,gd⟩ :: l) T A :=
 Ops.effV hm hp hg hd (fun a w hF hS=>by
  have:=run_appendS (P:=P) (w:=w) (ty:=ty) (ts:=ts) (x:=u) ht hts he hzc hbs (hS.perm hs.perm) hown hsz
  simp only [execOp,resolve,invoke,builtin,Sem.run_bind,Sem.run_pure,Result.andThen_ok,List.map_toArray,List.map_cons,List.map_nil,hF.eval hx,hF.eval hy] at this ⊢
  exact this) fun v X ⟨G',h1,h2⟩=>by rw [h2];exact k v G' h1
theorem Ops.usd {t:TypeId} {x:Operand} {a0:Option Addr} {n c:Nat} (hm:m.eff = true) (hg:gst ops T gd = some true) (hx:ev T x = some (.slice a0 n c)) (hc:a0 = none ∨ 0 < c) (hd:Nat.blt d N.n = true) (hp:Pd P N B ops m T (some d) (fun u X=>u = .pointer a0 ∧ X = A)) (k:Ops P N B Q ops m.tl l ((d,.pointer a0) :: T) A) :
  Ops P N B Q ops m (⟨some d,.call { callee:=.builtin .unsafeSliceData,args:=#[x],argTypes:=#[t] },ty,pos,af,gd⟩ :: l) T A :=
 Ops.effV hm hp hg hd (fun a w hF hS=>by
  have:∀ tt,(Builtin.unsafeSliceData_ #[t] tt #[.slice a0 n c]).run P w = .ok (.pointer a0) w:=fun tt=>by
   cases a0 with
   | none=>exact Lib.run_unsafeSliceData_nil w _ _ _ _
   | some a=>exact Lib.run_unsafeSliceData_row w _ _ _ _ _ (by rcases hc with h|h <;> first|omega|cases h)
  simp only [execOp,resolve,invoke,builtin,Sem.run_bind,Sem.run_pure,Result.andThen_ok,List.map_toArray,List.map_cons,List.map_nil,hF.eval hx,this,effPost]
  exact ⟨A,⟨trivial,rfl⟩,hS⟩) fun u X ⟨h1,h2⟩=>by rw [h1,h2];exact k
theorem Ops.us {pt it e:TypeId} {x y:Operand} {a0:Option Addr} {n c:Nat} {s:ByteArray} {G F:List Blk} (hb:BG e (.slice a0 n c) s G) (hm:m.eff = true) (hg:gst ops T gd = some true) [hp':TyD P pt (.pointer e)] (hc:P.cellsOf e = 1) (hx:ev T x = some (.pointer a0)) (hy:ev T y = some (.int .i64 n)) (h63:n ≤ 9223372036854775807) [hs:Split A G F] (hd:Nat.blt d N.n = true)
  (hp:Pd P N B ops m T (some d) (fun u X=>∃ G',u = .string s ∧ BG e (.slice a0 n c) s G' ∧ X = G' ++ F)) (k:∀ G',BG e (.slice a0 n c) s G' → Ops P N B Q ops m.tl l ((d,.string s) :: T) (G' ++ F)) :
  Ops P N B Q ops m (⟨some d,.call { callee:=.builtin .unsafeString,args:=#[x,y],argTypes:=#[pt,it] },ty,pos,af,gd⟩ :: l) T A :=
 Ops.effV hm hp hg hd (fun a w hF hS=>by
  have hn:n = s.size:=by
   obtain ⟨a1,c1,h⟩:=hb.form
   injection h
  have hS':=hS.perm hs.perm
  have hr:∃ (w':World) (G':List Blk),(Builtin.unsafeString_ #[pt,it] ty #[.pointer a0,.int .i64 n]).run P w = .ok (.string s) w' ∧ BG e (.slice a0 n c) s G' ∧ Sat B (G' ++ F) w':=by
   rcases Nat.eq_zero_or_pos n with h0|h0
   ·have hse:s = .empty:=ByteArray.size_eq_zero_iff.1 (by omega)
    refine ⟨w,G,?_,hb,hS'⟩
    rw [hse,h0]
    exact Lib.run_unsafeString_none w pt it ty a0
   ·rcases hb with ⟨h1,h2,_⟩|⟨g,c',sp,f,h1,h2,h3,h4,h5⟩
    ·subst h2;simp at hn;omega
    ·injection h1 with h1 h1' h1''
     subst h1;subst h2;subst h1''
     obtain ⟨w',hr,hS2⟩:=run_us (P:=P) (it:=it) (ty:=ty) hp' hc (A1:=[]) (A2:=F) (n:=n) (by simpa using hS') hn.symm (fun j u hu=>by rw [List.getElem?_append_left (List.getElem?_eq_some_iff.1 hu).1,hu]) (by rw [List.length_append,bv_len];omega) h0 (by omega) h63
     exact ⟨w',[(g,clF (bv s ++ sp) e n)],hr,.inr ⟨g,c,sp,n,by rw [hn],rfl,by omega,h4,h5⟩,by simpa using hS2⟩
  obtain ⟨w',G',hr,hB,hS2⟩:=hr
  simp only [execOp,resolve,invoke,builtin,Sem.run_bind,Sem.run_pure,Result.andThen_ok,List.map_toArray,List.map_cons,List.map_nil,hF.eval hx,hF.eval hy,hr,effPost]
  exact ⟨_,⟨G',trivial,hB,rfl⟩,hS2⟩) fun u X ⟨G',h1,h2,h3⟩=>by rw [h1,h3];exact k G' h2
theorem Ops.toU {s t u:TypeId} {gu:Bool} {x:Operand} {b off sz bs:Nat} {zc L:List Value} {E:TypeId} (hm:m.rd false = true) (hg:gst ops T gd = some true) [hs:TyD P s (.pointer u)] [ht:TyD P t .unsafePointer] [hu:Ty P u gu sz bs zc] (hsz:sz ≠ 0) (hx:ev T x = some (.pointer (some ⟨b,off,none⟩))) [hb:Has A b (cl L E)] (hoff:off < L.length) (hd:Nat.blt d N.n = true)
  (k:Ops P N B Q ops m.tl l ((d,.pointer (some ⟨b,off,none⟩)) :: T) A):Ops P N B Q ops m (⟨some d,.convert s t x,ty,pos,af,gd⟩ :: l) T A :=
 Ops.readV hm hg hd (fun a w hF hS=>by
  obtain ⟨i,z,hi,_,_,hs',_⟩:=hu.get
  have:=Lib.run_to_unsafe (P:=P) (w:=w) ⟨b,off,none⟩ hs.und ht.und hi (by rw [hs'];exact hsz) (e:=E) (cells:=L.length) (by simp [World.shape?,hS.here _ hb.mem,cl]) hoff
  simp [execOp,hF.eval hx,this]) k
theorem Ops.fromU {s t u:TypeId} {gu:Bool} {x:Operand} {b sz bs:Nat} {zc L:List Value} (hm:m.rd false = true) (hg:gst ops T gd = some true) [hs:TyD P s .unsafePointer] [ht:TyD P t (.pointer u)] [hu:Ty P u gu sz bs zc] (hl:liesAt P P.depth u (L.length / P.cellsOf u) 0 u 1 = true) (hx:ev T x = some (.pointer (some ⟨b,0,none⟩))) [hb:Has A b (cl L u)] (hd:Nat.blt d N.n = true)
  (k:Ops P N B Q ops m.tl l ((d,.pointer (some ⟨b,0,none⟩)) :: T) A):Ops P N B Q ops m (⟨some d,.convert s t x,ty,pos,af,gd⟩ :: l) T A :=
 Ops.readV hm hg hd (fun a w hF hS=>by
  obtain ⟨i,z,hi,_,_,hs',_⟩:=hu.get
  have:=Lib.run_from_unsafe (P:=P) (w:=w) ⟨b,0,none⟩ hs.und ht.und hi (e:=u) (cells:=L.length) (by simp [World.shape?,hS.here _ hb.mem,cl]) hl
  simp [execOp,hF.eval hx,this]) k
theorem Ops.capS {t:TypeId} {x:Operand} {at':Option Addr} {n c:Nat} {e:TypeId} (hm:m.rd true = true) (hg:gst ops T gd = some true) [ht:TyD P t (.slice e)] (hx:ev T x = some (.slice at' n c)) (hd:Nat.blt d N.n = true)
  (k:Ops P N B Q ops m.tl l ((d,.int .i64 c) :: T) A):Ops P N B Q ops m (⟨some d,.call { callee:=.builtin .cap,args:=#[x],argTypes:=#[t] },ty,pos,af,gd⟩ :: l) T A :=
 Ops.pureV hm hg hd (fun a w hF=>by simp [execOp,resolve,invoke,builtin,Builtin.cap_,hF.eval hx,ht.run_und,goInt]) k
end
section
variable {P:Program} {t:TypeId}
theorem eqIn_ptrSame {e:TypeId} [h:TyD P t (.pointer e)] {g:Bool} {sz bs:Nat} {zc:List Value} [he:Ty P e g sz bs zc] {a:Addr} {w:World} (hsz:sz ≠ 0) (d:Nat):(Op.equalIn (d + 1) t (.pointer (some a)) (.pointer (some a))).run P w = .ok true w:=by
 obtain ⟨i,z,hi,_,_,hs,_⟩:=he.get
 simp [Op.equalIn,h.run_und,he.run_size,hsz,samePointer,sameAddr]
class PtrSized (P:Program) (t:TypeId):Prop where
 ok:∃ e g sz bs zc,TyD P t (.pointer e) ∧ Ty P e g sz bs zc ∧ sz ≠ 0
instance (priority:=900) BinRun.nePtrSame [h:PtrSized P t] {a:Addr}:BinRun P .neq t (.pointer (some a)) (.pointer (some a)) (.bool false):=⟨fun xo yo w=>by
 obtain ⟨e,g,sz,bs,zc,h1,h2,h3⟩:=h.ok
 rw [Sem.run_bind,run_eqGuard_ptr,Result.andThen_ok]
 exact run_neq rfl fun d=>eqIn_ptrSame (h:=h1) (he:=h2) h3 d⟩
end
end Go.Sep
namespace Go.Proofs.YtkoelgkghijgiaaGreat
open Go Go.Sep Go.Proofs Go.Proofs.Tryz
set_option maxRecDepth 10000
set_option maxHeartbeats 40000000
set_option synthInstance.maxSize 2000
instance :TyD prog 361 .unsafePointer:=⟨underlying361⟩
instance :ExtOk prog 282 Extern.AbiNoEscape.same:=⟨⟨_,func282,by kernel_rfl,by kernel_rfl,by kernel_rfl,by kernel_rfl⟩⟩
instance :ExtOk prog 322 (Extern.BytealgMakeNoZero.makeNoZero #[3] #[137]):=⟨⟨_,func322,by kernel_rfl,by kernel_rfl,by kernel_rfl,by kernel_rfl⟩⟩
theorem cells_u8:prog.cellsOf 5 = 1:=by kernel_rfl
theorem lies_bld:liesAt prog prog.depth 265 (2 / prog.cellsOf 265) 0 265 1 = true:=by kernel_rfl
instance :PtrSized prog 263:=⟨_,_,_,_,_,inferInstance,inferInstance,by decide⟩
@[reducible] def BuB (bb:Nat) (a0:Option Addr) (sv:Value):Blk:=(bb,cl [.pointer a0,sv] 265)
theorem cpck_spec (bb:Nat) (a0:Option Addr) (sv:Value) (ha:a0 = none ∨ a0 = some ⟨bb,0,none⟩):Con prog 235 #[ptr bb] [BuB bb a0 sv] fun v A=>A = [BuB bb (some ⟨bb,0,none⟩) sv]:=by
 refine zqI (vs:=[_]) func235 ntmps235 fun B=>?_
 rcases ha with rfl|rfl
 ·refine zg7 ?_
  refine Ops.toU (off:=0) rfl rfl (by decide) rfl (by simp) rfl ?_
  refine Ops.extR (vs:=[ptr bb]) rfl rfl rfl (fun w=>Lib.run_noEscape w _) rfl (noPd rfl) ?_
  refine Ops.fromU rfl rfl lies_bld rfl rfl ?_
  refine zg1 ?_
  exact Ops.nilN (end0 (A':=[BuB bb (some ⟨bb,0,none⟩) sv]) rfl (fun _ h=>h.split) rfl)
 ·refine zg7 ?_
  exact Cd.skip (end0 (A':=[BuB bb (some ⟨bb,0,none⟩) sv]) rfl (fun _ h=>h.split) rfl)
def BuA (bb:Nat) (s:ByteArray) (D:List Blk):Prop:=∃ a0 sv G,D = BuB bb a0 sv :: G ∧ (a0 = none ∨ a0 = some ⟨bb,0,none⟩) ∧ BG 5 sv s G
theorem bwrite_spec (bb:Nat) (s u:ByteArray) (D:List Blk) (hD:BuA bb s D) (hsz:s.size + u.size ≤ 1000000000000):Con prog 175 #[ptr bb,.string u] D fun v A=>BuA bb (s ++ u) A:=by
 obtain ⟨a0,sv,G,rfl,ha,hG⟩:=hD
 refine zqI (vs:=[_,_]) func175 ntmps175 fun B=>?_
 obtain ⟨a1,c1,rfl⟩:=hG.form
 refine zg0 ?_
 refine zqA (cpck_spec bb a0 (.slice a1 s.size c1) ha) fun v A' hR=>?_
 subst hR
 refine zg1 ?_
 refine Ops.appG hG hsz rfl rfl rfl (by decide) rfl rfl rfl (noPd rfl) (fun v G' hG'=>?_)
 obtain ⟨a2,c2,rfl⟩:=hG'.form
 refine zg1 ?_
 exact Cd.ret (ret2 (A':=BuB bb (some ⟨bb,0,none⟩) _ :: G') rfl (Res.tmp rfl) (Res.tmp rfl) (fun _ h=>h.split) ⟨_,_,G',rfl,.inr rfl,hG'⟩)
theorem blen_spec (bb:Nat) (s:ByteArray) (D:List Blk) (hD:BuA bb s D):Con prog 290 #[ptr bb] D fun v A=>v = .int .i64 s.size ∧ A = D:=by
 obtain ⟨a0,sv,G,rfl,ha,hG⟩:=hD
 refine zqI (vs:=[_]) func290 ntmps290 fun B=>?_
 obtain ⟨a1,c1,rfl⟩:=hG.form
 refine zg1 ?_
 exact Cd.ret (ret1 (A':=BuB bb a0 _ :: G) rfl (Res.tmp rfl) (fun _ h=>h.split) ⟨rfl,rfl⟩)
theorem bstring_spec (bb:Nat) (s:ByteArray) (D:List Blk) (hD:BuA bb s D) (hsz:s.size ≤ 1000000000000):Con prog 178 #[ptr bb] D fun v A=>v = .string s ∧ BuA bb s A:=by
 obtain ⟨a0,sv,G,rfl,ha,hG⟩:=hD
 refine zqI (vs:=[_]) func178 ntmps178 fun B=>?_
 obtain ⟨a1,c1,rfl⟩:=hG.form
 have hc:a1 = none ∨ 0 < c1:=by
  rcases hG with ⟨h1,_,_⟩|⟨g,c,sp,f,h1,_,_,_,h5⟩
  ·injection h1 with h1;exact .inl h1
  ·injection h1 with h1 _ h3;subst h3;exact .inr h5
 refine zg0 ?_
 refine zdr [qz 0,qz 1,qz 2,qy 3,qz 5,qz 6,qz 7,qy 8,qy 9,(4,2,[8,9]),(10,2,[]),qz 11] ?_
 refine zg17 ?_
 refine Ops.usd rfl rfl rfl hc rfl (by intro v A' hR i hi;obtain ⟨rfl,rfl⟩:=hR;(repeat (rcases List.mem_cons.1 hi with rfl|hi;· (first|exact Still.ld1 rfl rfl rfl rfl rfl|exact Still.ldN rfl rfl rfl rfl|exact Still.len rfl rfl rfl rfl rfl|exact Still.skip rfl rfl rfl|exact Still.ldRow1 rfl rfl rfl (by assumption) (by assumption) rfl rfl|exact Still.ldR rfl rfl rfl (by apply_assumption) rfl)));cases hi) ?_
 skip
 refine Ops.us hG rfl rfl cells_u8 rfl rfl (by omega) rfl (noPd rfl) (fun G' hG'=>?_)
 refine zg0 ?_
 exact Cd.ret (ret1 (A':=BuB bb a0 _ :: G') rfl (Res.tmp rfl) (fun _ h=>h.split) ⟨rfl,_,_,G',rfl,ha,hG'⟩)
theorem bgrow_in (bb n:Nat) (h1:n ≤ 100000000) (h2:0 < n) (a0:Option Addr):Con prog 315 #[ptr bb,.int .i64 n] [BuB bb a0 (.slice none 0 0)] fun v A=>∃ sv G,A = BuB bb a0 sv :: G ∧ BG 5 sv .empty G:=by
 refine zqI (vs:=[_,_]) func315 ntmps315 fun B=>?_
 refine zg0 ?_
 refine zdr [qz 0,qz 1,qz 2,qy 3,qz 4,qz 5,qz 6,qz 7,qz 9,qz 10,qz 11,qy 12,qy 13,(8,2,[12,13]),qz 14,qz 15] ?_
 refine zg5 ?_
 refine Ops.capS rfl rfl rfl rfl ?_
 refine zg16 ?_
 rw [show (2 * ((0:Nat):Int) + (n:Int)) = (n:Int) from by omega]
 refine Ops.mkNZ (n:=n) rfl rfl (by rfl) (by omega) rfl (by intro v A' hR i hi;obtain ⟨b2,cs,rfl,_,rfl⟩:=hR;(repeat (rcases List.mem_cons.1 hi with rfl|hi;· (first|exact Still.ld1 rfl rfl rfl rfl rfl|exact Still.ldN rfl rfl rfl rfl|exact Still.len rfl rfl rfl rfl rfl|exact Still.skip rfl rfl rfl|exact Still.ldRow1 rfl rfl rfl (by assumption) (by assumption) rfl rfl|exact Still.ldR rfl rfl rfl (by apply_assumption) rfl)));cases hi) (fun b2 cs hcs=>?_)
 refine zg16 ?_
 rw [show ((0:Nat):Int).toNat = 0 from rfl]
 refine Ops.cpNil rfl rfl rfl rfl rfl ?_
 refine zg1 ?_
 exact Ops.nilN (end0 (A':=BuB bb a0 (.slice (some ⟨b2,0,none⟩) 0 cs.length) :: [(b2,cl cs 5)]) rfl (fun _ h=>h.split) ⟨_,[(b2,cl cs 5)],rfl,.inr ⟨b2,cs.length,cs,0,rfl,rfl,Nat.zero_le _,by simp,by omega⟩⟩)
theorem bgrow_spec (bb n:Nat) (h1:n ≤ 100000000) (h2:0 < n):Con prog 289 #[ptr bb,.int .i64 n] [BuB bb none (.slice none 0 0)] fun v A=>BuA bb .empty A:=by
 refine zqI (vs:=[_,_]) func289 ntmps289 fun B=>?_
 refine zg0 ?_
 refine zqA (cpck_spec bb none (.slice none 0 0) (.inl rfl)) fun v A' hR=>?_
 subst hR
 have h3:¬ (n:Int) < 0:=by omega
 have h4:(0:Int) < n:=by omega
 refine zg4 ?_
 refine zdr [qz 0,qz 1,qz 2,qy 3,qz 4,qz 5,qz 6,qz 7,qy 8,qy 9,qz 10,qz 11,qz 12] ?_
 refine zg5 ?_
 refine Ops.capS rfl rfl rfl rfl ?_
 refine zg14 ?_
 refine zqA (bgrow_in bb n h1 h2 (some ⟨bb,0,none⟩)) fun v A' hR=>?_
 obtain ⟨sv,G,rfl,hG⟩:=hR
 skip
 exact Ops.nilN (end0 (A':=BuB bb (some ⟨bb,0,none⟩) sv :: G) rfl (fun _ h=>h.split) ⟨_,_,G,rfl,.inr rfl,hG⟩)
end Go.Proofs.YtkoelgkghijgiaaGreat
