import Derived.Test.YtaecdnfkcebbeaaGreatA01
import Derived.Test.YtaecdnfkcebbeaaGreatA36
import Derived.Test.YtaecdnfkcebbeaaGreatA31
set_option linter.unusedVariables false
set_option linter.unusedSimpArgs false
namespace Go.Proofs.YtaecdnfkcebbeaaGreat
open Go Go.Sep Go.Proofs
set_option maxRecDepth 10000
set_option maxHeartbeats 40000000
set_option synthInstance.maxSize 2000
theorem runner_yes (xb lb tb cb mb db wb sb:Nat) (c:Cf) (hc:CfOk c) (tv:Value) (dead:Bool) (node life:Int) (h1:2 ≤ node) (h2:node < 2 + c.runners) (h3:1 ≤ life) (h4:life ≤ 1099511627776) :
  Con Tryz.prog 40 #[ptr xb,.agg [.int .i64 node,.int .i64 life].toArray] [CoB xb lb tb cb mb db wb sb c tv dead] fun v A=>v = .bool true ∧ A = [CoB xb lb tb cb mb db wb sb c tv dead]:=by
 obtain ⟨⟨a1,a2⟩,_⟩:=id hc
 refine Con.intro (vs:=[_,_]) Tryz.func40 rfl Tryz.ntmps40 rfl (fun B=>?_)
 repeat' (first|refine Cd.seq ?_|refine Cd.reg ?_|refine Ops.asg rfl rfl rfl rfl ?_|refine Ops.box rfl rfl rfl rfl (noPd rfl) (fun b=>?_))
 refine Cd.draw [(0,0,[]),(1,1,[]),(2,0,[]),(3,0,[]),(4,0,[]),(5,1,[]),(6,0,[]),(7,0,[]),(8,0,[]),(9,0,[]),(10,1,[]),(11,0,[]),(12,0,[]),(13,0,[]),(14,0,[]),(15,0,[]),(16,1,[]),(17,0,[]),(18,0,[]),(19,0,[]),(20,0,[]),(21,1,[]),(22,0,[]),(23,0,[]),(24,0,[])] (by kernel_rfl) (by kernel_rfl) (by simp only [picked,nth];exact rfl) ?_
 refine zg30 ?_
 exact Cd.ret (ret1 (A':=[CoB xb lb tb cb mb db wb sb c tv dead]) rfl (Res.tmp rfl) (fun _ h=>h.split) ⟨by rw [decide_eq_true h4],rfl⟩)
theorem does_hello (xb:Nat) (node life:Int) (m:Ms) (hm:m.kind = 1):Con Tryz.prog 41 #[.agg (heV xb node life m).toArray] [] fun v A=>v = .func (.func 91) [.agg (heV xb node life m).toArray].toArray #[] ∧ A = []:=by
 refine Con.intro (vs:=[_]) Tryz.func41 rfl Tryz.ntmps41 rfl (fun B=>?_)
 repeat' (first|refine Ops.mkF rfl rfl rfl rfl rfl ?_|refine Cd.seq ?_|refine Cd.reg ?_|refine Ops.nil ?_|refine Ops.asg rfl rfl rfl rfl ?_|refine Ops.fa0 rfl rfl rfl rfl ?_|refine Ops.fa rfl rfl rfl rfl ?_|refine Ops.ld1 rfl rfl rfl rfl rfl ?_|refine Ops.ldN rfl rfl rfl rfl ?_|refine Ops.bin rfl rfl rfl rfl rfl ?_|refine Ops.box rfl rfl rfl rfl (noPd rfl) (fun b=>?_)|refine Cd.block ?_|refine Cd.condT rfl zp0 ?_)
 exact ze8
@[reducible] def dgV (number fn fl tn tl:Int) (s:ByteArray):List Value:=[.int .i64 number,.int .i64 fn,.int .i64 fl,.int .i64 tn,.int .i64 tl,.string s]
theorem hear1_hello (B0:Base) (xb lb tb cb mb db wb sb:Nat) (c:Cf) (hc:CfOk c) (tv:Value) (dead:Bool) (CA:List Blk) (node life:Int) (h1:2 ≤ node) (h2:node < 2 + c.runners) (h3:1 ≤ life) (h4:life ≤ 1099511627776)
  (data:ByteArray) (hsz:data.size < 9223372036854775808) (m:Ms) (hdec:decF data = (m,0)) (hm:m.kind = 1) (reply:ByteArray) (hrep:¬ reply = ⟨#[]⟩) (R:List Blk → Prop)
  (hh:ConB Tryz.prog B0 91 #[.agg (heV xb node life m).toArray] (CoB xb lb tb cb mb db wb sb c tv dead :: CA) fun v A=>v = .string reply ∧ R A) (dx xx fx sx:Nat) :
  ConB Tryz.prog B0 38 #[ptr dx,ptr xx,ptr fx,ptr sx] (CoB xb lb tb cb mb db wb sb c tv dead :: (CA ++ [(dx,cl [.string data] 9),(xx,cl [ptr xb] 26),(fx,cl [.int .i64 node,.int .i64 life] 37),(sx,cl [.slice none 0 0] 61)]))
   fun v A=>∃ A1 g,R A1 ∧ A = A1 ++ [(sx,cl [.slice (some ⟨g,0,none⟩) 1 1] 61),(g,cl (dgV 0 0 0 node life reply) 66)]:=by
 refine ConB.intro (vs:=[_,_,_,_]) Tryz.func38 rfl Tryz.ntmps38 rfl (fun B hB=>?_)
 refine zg4 ?_
 refine Ops.callB (wdecode_spec B0 data hsz) hB rfl (noPd rfl) rfl rfl rfl (fun v A' hR=>?_)
 rw [hdec] at hR
 obtain ⟨rfl,rfl⟩:=hR
 dsimp only
 repeat' (first|refine Cd.seq ?_|refine Cd.reg ?_|refine Ops.mv rfl rfl rfl rfl ?_|refine Ops.asg rfl rfl rfl rfl ?_|refine Ops.ld1 rfl rfl rfl rfl rfl ?_|refine Ops.ldN rfl rfl rfl rfl ?_|refine Ops.bin rfl rfl rfl rfl rfl ?_|refine Ops.ext rfl rfl rfl rfl rfl ?_|refine Ops.alloc rfl rfl rfl (noPd rfl) (fun b=>?_)|refine Ops.stN rfl rfl rfl rfl rfl rfl (noPd rfl) ?_)
 rename Nat=>mx
 refine Ops.call (runner_yes xb lb tb cb mb db wb sb c hc tv dead node life h1 h2 h3 h4) rfl (noPd rfl) rfl rfl rfl (fun v A' hR=>?_)
 obtain ⟨rfl,rfl⟩:=hR
 repeat' (first|refine Cd.seq ?_|refine Cd.reg ?_|refine Ops.nil ?_|refine Ops.ld1 rfl rfl rfl rfl rfl ?_|refine Ops.ldN rfl rfl rfl rfl ?_|refine Ops.un rfl rfl rfl rfl ?_|refine Ops.pickF rfl rfl rfl rfl rfl ?_|refine Ops.bld rfl rfl rfl rfl ?_|refine Ops.alloc rfl rfl rfl (noPd rfl) (fun b=>?_)|refine Ops.stN rfl rfl rfl rfl rfl rfl (noPd rfl) ?_|refine Cd.condF rfl rfl ?_|refine Cd.skip (Cd.next ?_))
 rename Nat=>yx
 refine Ops.call (does_hello xb node life m hm) rfl (noPd rfl) rfl rfl rfl (fun v A' hR=>?_)
 obtain ⟨rfl,rfl⟩:=hR
 refine zg13 ?_
 refine Ops.callVB (fi:=[.agg (heV xb node life m).toArray]) (ca:=[]) (vs:=[]) hh hB rfl (noPd rfl) rfl rfl rfl rfl (fun v A' hR=>?_)
 obtain ⟨rfl,hR⟩:=hR
 repeat' (first|refine Cd.seq ?_|refine Cd.reg ?_|refine Ops.nil ?_|refine Ops.mv rfl rfl rfl rfl ?_|refine Ops.asg rfl rfl rfl rfl ?_|refine Ops.ldN rfl rfl rfl rfl ?_|refine Ops.bin rfl rfl rfl rfl rfl ?_|refine Ops.bld rfl rfl rfl rfl ?_|refine Ops.bs1 rfl rfl rfl rfl rfl rfl rfl (noPd rfl) (fun b=>?_)|refine Ops.st1 rfl rfl rfl rfl rfl (noPd rfl) ?_|refine Cd.skip (Cd.next ?_)|refine Cd.condF rfl zp0 ?_)
 rename Nat=>g
 exact Ops.nilN (end0 (A':=A' ++ [(sx,cl [.slice (some ⟨g,0,none⟩) 1 1] 61),(g,cl (dgV 0 0 0 node life reply) 66)]) rfl (fun _ h=>h.split) ⟨A',g,hR,rfl⟩)
theorem hear_hello (B0:Base) (xb lb tb cb mb db wb sb:Nat) (c:Cf) (hc:CfOk c) (tv:Value) (x:Dk) (k:Nat) (D:List Blk) (hD:DkA db x k D) (hde:x.de = false) (F:List Blk) (node life:Int) (h1:2 ≤ node) (h2:node < 2 + c.runners) (h3:1 ≤ life) (h4:life ≤ 1099511627776)
  (data:ByteArray) (hsz:data.size < 9223372036854775808) (m:Ms) (hdec:decF data = (m,0)) (hm:m.kind = 1) (reply:ByteArray) (hrep:¬ reply = ⟨#[]⟩) (R:List Blk → Prop)
  (hh:ConB Tryz.prog B0 91 #[.agg (heV xb node life m).toArray] (CoB xb lb tb cb mb db wb sb c tv false :: (D ++ F)) fun v A=>v = .string reply ∧ R A) :
  ConB Tryz.prog B0 18 #[ptr xb,.agg [.int .i64 node,.int .i64 life].toArray,.string data] (CoB xb lb tb cb mb db wb sb c tv false :: (D ++ F))
   fun v A=>∃ A1 g,v = .tuple #[.slice (some ⟨g,0,none⟩) 1 1,.int .i64 0] ∧ R A1 ∧ A = A1 ++ [(g,cl (dgV 0 0 0 node life reply) 66)]:=by
 refine ConB.intro (vs:=[_,_,_]) Tryz.func18 rfl Tryz.ntmps18 rfl (fun B hB=>?_)
 repeat' (first|refine Ops.mkF rfl rfl rfl rfl rfl ?_|refine Cd.seq ?_|refine Cd.reg ?_|refine Ops.asg rfl rfl rfl rfl ?_|refine Ops.ld1 rfl rfl rfl rfl rfl ?_|refine Ops.box rfl rfl rfl rfl (noPd rfl) (fun b=>?_)|refine Ops.alloc rfl rfl rfl (noPd rfl) (fun b=>?_))
 rename_i xx fx dx
 rename Nat=>sx
 have hd:=hear1_hello B0 xb lb tb cb mb db wb sb c hc tv false (D ++ F) node life h1 h2 h3 h4 data hsz m hdec hm reply hrep R hh dx xx fx sx
 rw [List.append_assoc] at hd
 refine Ops.callB (caught_calm B0 xb lb tb cb mb db wb sb c tv x k D hD hde _ 38 [ptr dx,ptr xx,ptr fx,ptr sx] _ hd) hB rfl (noPd rfl) rfl rfl rfl (fun v A' hR=>?_)
 obtain ⟨rfl,v0,A1,g,hR,rfl⟩:=hR
 refine zg13 ?_
 exact Cd.ret (ret2 (A':=A1 ++ [(g,cl (dgV 0 0 0 node life reply) 66)]) rfl (Res.tmp rfl) (Res.tmp rfl) (fun _ h=>h.split) ⟨A1,g,rfl,hR,rfl⟩)
end Go.Proofs.YtaecdnfkcebbeaaGreat
namespace Go.Sep
open Go
section
variable {P:Program}
variable {N:Fi} {B:Base} {Q:Exit → Act → World → Prop} {T:Tm} {A:List Blk} {ops:Array Oper} {l:List Oper}
variable {d:Nat} {ty:TypeId} {pos:String} {af:Array Edge} {m:Md} {gd:Option (Nat × Bool)}
end
end Go.Sep
namespace Go.Sep
open Go
section
variable {P:Program}
theorem eqIn_nilNil {t:TypeId} {ps rs:Array TypeId} {vr:Bool} [h:TyD P t (.func ps rs vr)] {w:World} (d:Nat):(Op.equalIn (d + 1) t .nilFunc .nilFunc).run P w = .ok true w:=by
 simp [Op.equalIn,h.run_und]
theorem run_eqGuard_nilNil {t:TypeId} {op:BinOp} {xo yo:Operand} {w:World}:(eqGuard op t xo yo .nilFunc .nilFunc).run P w = .ok () w:=by
 unfold eqGuard;cases op <;> rfl
instance BinRun.eqNilNil {t:TypeId} {ps rs:Array TypeId} {vr:Bool} [h:TyD P t (.func ps rs vr)]:BinRun P .eql t .nilFunc .nilFunc (.bool true):=⟨fun xo yo w=>by
 rw [Sem.run_bind,run_eqGuard_nilNil,Result.andThen_ok]
 exact run_eql rfl fun d=>eqIn_nilNil d⟩
end
end Go.Sep
namespace Go.Proofs.YtaecdnfkcebbeaaGreat
open Go Go.Sep Go.Proofs
set_option maxRecDepth 10000
set_option maxHeartbeats 40000000
set_option synthInstance.maxSize 2000
def runB (c:Cf) (node life:Int):Bool:=decide (2 ≤ node ∧ node < 2 + c.runners ∧ 1 ≤ life ∧ life ≤ 1099511627776)
theorem runner_no (xb lb tb cb mb db wb sb:Nat) (c:Cf) (hc:CfOk c) (tv:Value) (dead:Bool) (node life:Int) (hn:runB c node life = false) :
  Con Tryz.prog 40 #[ptr xb,.agg [.int .i64 node,.int .i64 life].toArray] [CoB xb lb tb cb mb db wb sb c tv dead] fun v A=>v = .bool false ∧ A = [CoB xb lb tb cb mb db wb sb c tv dead]:=by
 obtain ⟨⟨a1,a2⟩,_⟩:=id hc
 have hn:¬ (2 ≤ node ∧ node < 2 + c.runners ∧ 1 ≤ life ∧ life ≤ 1099511627776):=of_decide_eq_false hn
 refine Con.intro (vs:=[_,_]) Tryz.func40 rfl Tryz.ntmps40 rfl (fun B=>?_)
 by_cases h1:2 ≤ node
 ·by_cases h2:node < 2 + c.runners
  ·by_cases h3:1 ≤ life
   ·have h4:¬ life ≤ 1099511627776:=fun q=>hn ⟨h1,h2,h3,q⟩
    repeat' (first|refine Cd.seq ?_|refine Cd.reg ?_|refine Ops.asg rfl rfl rfl rfl ?_|refine Ops.box rfl rfl rfl rfl (noPd rfl) (fun b=>?_))
    refine Cd.draw [(0,0,[]),(1,1,[]),(2,0,[]),(3,0,[]),(4,0,[]),(5,1,[]),(6,0,[]),(7,0,[]),(8,0,[]),(9,0,[]),(10,1,[]),(11,0,[]),(12,0,[]),(13,0,[]),(14,0,[]),(15,0,[]),(16,1,[]),(17,0,[]),(18,0,[]),(19,0,[]),(20,0,[]),(21,1,[]),(22,0,[]),(23,0,[]),(24,0,[])] (by kernel_rfl) (by kernel_rfl) (by simp only [picked,nth];exact rfl) ?_
    refine zg30 ?_
    exact Cd.ret (ret1 (A':=[CoB xb lb tb cb mb db wb sb c tv dead]) rfl (Res.tmp rfl) (fun _ h=>h.split) ⟨by rw [decide_eq_false h4],rfl⟩)
   ·repeat' (first|refine Cd.seq ?_|refine Cd.reg ?_|refine Ops.asg rfl rfl rfl rfl ?_|refine Ops.box rfl rfl rfl rfl (noPd rfl) (fun b=>?_))
    refine Cd.draw [(0,0,[]),(1,1,[]),(2,0,[]),(3,0,[]),(4,0,[]),(5,1,[]),(6,0,[]),(7,0,[]),(8,0,[]),(9,0,[]),(10,1,[]),(11,0,[]),(12,0,[]),(13,0,[]),(14,0,[]),(15,0,[]),(16,1,[]),(17,0,[]),(18,0,[]),(19,0,[]),(20,0,[]),(21,1,[]),(22,0,[]),(23,0,[]),(24,0,[])] (by kernel_rfl) (by kernel_rfl) (by simp only [picked,nth];exact rfl) ?_
    refine zg30 ?_
    exact ze62
  ·repeat' (first|refine Cd.seq ?_|refine Cd.reg ?_|refine Ops.asg rfl rfl rfl rfl ?_|refine Ops.box rfl rfl rfl rfl (noPd rfl) (fun b=>?_))
   refine Cd.draw [(0,0,[]),(1,1,[]),(2,0,[]),(3,0,[]),(4,0,[]),(5,1,[]),(6,0,[]),(7,0,[]),(8,0,[]),(9,0,[]),(10,1,[]),(11,0,[]),(12,0,[]),(13,0,[]),(14,0,[]),(15,0,[]),(16,1,[]),(17,0,[]),(18,0,[]),(19,0,[]),(20,0,[]),(21,1,[]),(22,0,[]),(23,0,[]),(24,0,[])] (by kernel_rfl) (by kernel_rfl) (by simp only [picked,nth];exact rfl) ?_
   refine zg30 ?_
   exact ze62
 ·repeat' (first|refine Cd.seq ?_|refine Cd.reg ?_|refine Ops.asg rfl rfl rfl rfl ?_|refine Ops.box rfl rfl rfl rfl (noPd rfl) (fun b=>?_))
  refine Cd.draw [(0,0,[]),(1,1,[]),(2,0,[]),(3,0,[]),(4,0,[]),(5,1,[]),(6,0,[]),(7,0,[]),(8,0,[]),(9,0,[]),(10,1,[]),(11,0,[]),(12,0,[]),(13,0,[]),(14,0,[]),(15,0,[]),(16,1,[]),(17,0,[]),(18,0,[]),(19,0,[]),(20,0,[]),(21,1,[]),(22,0,[]),(23,0,[]),(24,0,[])] (by kernel_rfl) (by kernel_rfl) (by simp only [picked,nth];exact rfl) ?_
  refine zg11 ?_
  exact ze62
theorem does_request (xb:Nat) (node life:Int) (m:Ms) (hm:m.kind = 2 ∨ m.kind = 3 ∨ m.kind = 4):Con Tryz.prog 41 #[.agg (heV xb node life m).toArray] [] fun v A=>v = .func (.func 92) [.agg (heV xb node life m).toArray].toArray #[] ∧ A = []:=by
 refine Con.intro (vs:=[_]) Tryz.func41 rfl Tryz.ntmps41 rfl (fun B=>?_)
 have h1:¬ m.kind = 1:=by omega
 by_cases h2:m.kind = 2
 ·repeat' (first|refine Ops.mkF rfl rfl rfl rfl rfl ?_|refine Cd.seq ?_|refine Cd.reg ?_|refine Ops.nil ?_|refine Ops.asg rfl rfl rfl rfl ?_|refine Ops.fa0 rfl rfl rfl rfl ?_|refine Ops.fa rfl rfl rfl rfl ?_|refine Ops.ld1 rfl rfl rfl rfl rfl ?_|refine Ops.ldN rfl rfl rfl rfl ?_|refine Ops.bin rfl rfl rfl rfl rfl ?_|refine Ops.box rfl rfl rfl rfl (noPd rfl) (fun b=>?_)|refine Cd.block ?_|refine Cd.skip (Cd.next ?_)|refine Cd.condT rfl zp0 ?_|refine Cd.condF rfl zp0 ?_)
  exact ze8
 ·by_cases h3:m.kind = 3
  ·repeat' (first|refine Ops.mkF rfl rfl rfl rfl rfl ?_|refine Cd.seq ?_|refine Cd.reg ?_|refine Ops.nil ?_|refine Ops.asg rfl rfl rfl rfl ?_|refine Ops.fa0 rfl rfl rfl rfl ?_|refine Ops.fa rfl rfl rfl rfl ?_|refine Ops.ld1 rfl rfl rfl rfl rfl ?_|refine Ops.ldN rfl rfl rfl rfl ?_|refine Ops.bin rfl rfl rfl rfl rfl ?_|refine Ops.box rfl rfl rfl rfl (noPd rfl) (fun b=>?_)|refine Cd.block ?_|refine Cd.skip (Cd.next ?_)|refine Cd.condT rfl zp0 ?_|refine Cd.condF rfl zp0 ?_)
   exact ze8
  ·have h4:m.kind = 4:=by omega
   repeat' (first|refine Ops.mkF rfl rfl rfl rfl rfl ?_|refine Cd.seq ?_|refine Cd.reg ?_|refine Ops.nil ?_|refine Ops.asg rfl rfl rfl rfl ?_|refine Ops.fa0 rfl rfl rfl rfl ?_|refine Ops.fa rfl rfl rfl rfl ?_|refine Ops.ld1 rfl rfl rfl rfl rfl ?_|refine Ops.ldN rfl rfl rfl rfl ?_|refine Ops.bin rfl rfl rfl rfl rfl ?_|refine Ops.box rfl rfl rfl rfl (noPd rfl) (fun b=>?_)|refine Cd.block ?_|refine Cd.condT rfl zp0 ?_|refine Cd.condF rfl zp0 ?_)
   exact ze8
theorem does_chunk (xb:Nat) (node life:Int) (m:Ms) (hm:m.kind = 5):Con Tryz.prog 41 #[.agg (heV xb node life m).toArray] [] fun v A=>v = .func (.func 93) [.agg (heV xb node life m).toArray].toArray #[] ∧ A = []:=by
 refine Con.intro (vs:=[_]) Tryz.func41 rfl Tryz.ntmps41 rfl (fun B=>?_)
 have h1:¬ m.kind = 1:=by omega
 have h2:¬ m.kind = 2:=by omega
 have h3:¬ m.kind = 3:=by omega
 have h4:¬ m.kind = 4:=by omega
 repeat' (first|refine Ops.mkF rfl rfl rfl rfl rfl ?_|refine Cd.seq ?_|refine Cd.reg ?_|refine Ops.nil ?_|refine Ops.asg rfl rfl rfl rfl ?_|refine Ops.fa0 rfl rfl rfl rfl ?_|refine Ops.fa rfl rfl rfl rfl ?_|refine Ops.ld1 rfl rfl rfl rfl rfl ?_|refine Ops.ldN rfl rfl rfl rfl ?_|refine Ops.bin rfl rfl rfl rfl rfl ?_|refine Ops.box rfl rfl rfl rfl (noPd rfl) (fun b=>?_)|refine Cd.block ?_|refine Cd.condT rfl zp0 ?_|refine Cd.condF rfl zp0 ?_)
 exact ze8
theorem does_none (xb:Nat) (node life:Int) (m:Ms) (hm:¬ (1 ≤ m.kind ∧ m.kind ≤ 5)):Con Tryz.prog 41 #[.agg (heV xb node life m).toArray] [] fun v A=>v = .nilFunc ∧ A = []:=by
 refine Con.intro (vs:=[_]) Tryz.func41 rfl Tryz.ntmps41 rfl (fun B=>?_)
 have h1:¬ m.kind = 1:=by omega
 have h2:¬ m.kind = 2:=by omega
 have h3:¬ m.kind = 3:=by omega
 have h4:¬ m.kind = 4:=by omega
 have h5:¬ m.kind = 5:=by omega
 repeat' (first|refine Cd.seq ?_|refine Cd.reg ?_|refine Ops.nil ?_|refine Ops.asg rfl rfl rfl rfl ?_|refine Ops.fa0 rfl rfl rfl rfl ?_|refine Ops.fa rfl rfl rfl rfl ?_|refine Ops.ld1 rfl rfl rfl rfl rfl ?_|refine Ops.bin rfl rfl rfl rfl rfl ?_|refine Ops.box rfl rfl rfl rfl (noPd rfl) (fun b=>?_)|refine Cd.block ?_|refine Cd.skip (Cd.next (Q':=fun _ _ _=>True) ?_)|refine Cd.condF rfl zp0 ?_)
 exact ze8
@[reducible] def HrB (dx xx fx sx xb:Nat) (data:ByteArray) (node life:Int) (said:Value):List Blk:=[(dx,cl [.string data] 9),(xx,cl [ptr xb] 26),(fx,cl [.int .i64 node,.int .i64 life] 37),(sx,cl [said] 61)]
theorem hear1_no (B0:Base) (xb lb tb cb mb db wb sb:Nat) (c:Cf) (hc:CfOk c) (tv:Value) (dead:Bool) (node life:Int) (data:ByteArray) (hsz:data.size < 9223372036854775808) (m:Ms) (e:Int) (hdec:decF data = (m,e))
  (hno:e ≠ 0 ∨ runB c node life = false ∨ ¬ (1 ≤ m.kind ∧ m.kind ≤ 5)) (dx xx fx sx:Nat) :
  ConB Tryz.prog B0 38 #[ptr dx,ptr xx,ptr fx,ptr sx] (CoB xb lb tb cb mb db wb sb c tv dead :: HrB dx xx fx sx xb data node life (.slice none 0 0)) fun v A=>A = CoB xb lb tb cb mb db wb sb c tv dead :: HrB dx xx fx sx xb data node life (.slice none 0 0):=by
 refine ConB.intro (vs:=[_,_,_,_]) Tryz.func38 rfl Tryz.ntmps38 rfl (fun B hB=>?_)
 refine zg4 ?_
 refine Ops.callB (wdecode_spec B0 data hsz) hB rfl (noPd rfl) rfl rfl rfl (fun v A' hR=>?_)
 rw [hdec] at hR
 obtain ⟨rfl,rfl⟩:=hR
 dsimp only
 by_cases he:e = 0
 ·by_cases hr:runB c node life = true
  ·have hk:¬ (1 ≤ m.kind ∧ m.kind ≤ 5):=by
    rcases hno with q|q|q
    ·exact absurd he q
    ·rw [hr] at q;cases q
    ·exact q
   obtain ⟨r1,r2,r3,r4⟩:2 ≤ node ∧ node < 2 + c.runners ∧ 1 ≤ life ∧ life ≤ 1099511627776:=of_decide_eq_true hr
   clear hno
   repeat' (first|refine Cd.seq ?_|refine Cd.reg ?_|refine Ops.mv rfl rfl rfl rfl ?_|refine Ops.asg rfl rfl rfl rfl ?_|refine Ops.ld1 rfl rfl rfl rfl rfl ?_|refine Ops.ldN rfl rfl rfl rfl ?_|refine Ops.bin rfl rfl rfl rfl rfl ?_|refine Ops.ext rfl rfl rfl rfl rfl ?_|refine Ops.alloc rfl rfl rfl (noPd rfl) (fun b=>?_)|refine Ops.stN rfl rfl rfl rfl rfl rfl (noPd rfl) ?_|((fail_if_success refine Ops.probe rfl ?_);refine Ops.gF rfl rfl zp0 ?_))
   rename Nat=>mx
   refine Ops.call (runner_yes xb lb tb cb mb db wb sb c hc tv dead node life r1 r2 r3 r4) rfl (noPd rfl) rfl rfl rfl (fun v A' hR=>?_)
   obtain ⟨rfl,rfl⟩:=hR
   repeat' (first|refine Cd.seq ?_|refine Cd.reg ?_|refine Ops.nil ?_|refine Ops.ld1 rfl rfl rfl rfl rfl ?_|refine Ops.ldN rfl rfl rfl rfl ?_|refine Ops.un rfl rfl rfl rfl ?_|refine Ops.pickF rfl rfl rfl rfl rfl ?_|refine Ops.bld rfl rfl rfl rfl ?_|refine Ops.alloc rfl rfl rfl (noPd rfl) (fun b=>?_)|refine Ops.stN rfl rfl rfl rfl rfl rfl (noPd rfl) ?_|refine Cd.condF rfl rfl ?_|refine Cd.skip (Cd.next ?_))
   rename Nat=>yx
   refine Ops.call (does_none xb node life m hk) rfl (noPd rfl) rfl rfl rfl (fun v A' hR=>?_)
   obtain ⟨rfl,rfl⟩:=hR
   refine zg5 ?_
   exact ze63
  ·rw [Bool.not_eq_true] at hr
   clear hno
   repeat' (first|refine Cd.seq ?_|refine Cd.reg ?_|refine Ops.mv rfl rfl rfl rfl ?_|refine Ops.asg rfl rfl rfl rfl ?_|refine Ops.ld1 rfl rfl rfl rfl rfl ?_|refine Ops.ldN rfl rfl rfl rfl ?_|refine Ops.bin rfl rfl rfl rfl rfl ?_|refine Ops.ext rfl rfl rfl rfl rfl ?_|refine Ops.alloc rfl rfl rfl (noPd rfl) (fun b=>?_)|refine Ops.stN rfl rfl rfl rfl rfl rfl (noPd rfl) ?_|((fail_if_success refine Ops.probe rfl ?_);refine Ops.gF rfl rfl zp0 ?_))
   rename Nat=>mx
   refine Ops.call (runner_no xb lb tb cb mb db wb sb c hc tv dead node life hr) rfl (noPd rfl) rfl rfl rfl (fun v A' hR=>?_)
   obtain ⟨rfl,rfl⟩:=hR
   refine zg15 ?_
   exact ze63
 ·clear hno
  repeat' (first|refine Cd.seq ?_|refine Cd.reg ?_|refine Ops.nil ?_|refine Ops.mv rfl rfl rfl rfl ?_|refine Ops.asg rfl rfl rfl rfl ?_|refine Ops.bin rfl rfl rfl rfl rfl ?_|refine Ops.pickT rfl rfl rfl rfl rfl ?_|refine Ops.ext rfl rfl rfl rfl rfl ?_|refine Ops.alloc rfl rfl rfl (noPd rfl) (fun b=>?_)|refine Ops.stN rfl rfl rfl rfl rfl rfl (noPd rfl) ?_|refine Ops.gSkip rfl rfl rfl ?_|refine Cd.condT rfl rfl ?_|((fail_if_success refine Ops.probe rfl ?_);refine Ops.gT rfl rfl zp0 ?_))
  exact ze63
def SaidR (node life:Int) (reply:ByteArray) (said:Value) (J:List Blk):Prop:=(reply = ⟨#[]⟩ ∧ said = .slice none 0 0 ∧ J = []) ∨ (reply ≠ ⟨#[]⟩ ∧ ∃ g,said = .slice (some ⟨g,0,none⟩) 1 1 ∧ J = [(g,cl (dgV 0 0 0 node life reply) 66)])
theorem hear1_act (B0:Base) (xb lb tb cb mb db wb sb:Nat) (c:Cf) (hc:CfOk c) (tv:Value) (dead:Bool) (CA:List Blk) (node life:Int) (hr:runB c node life = true) (data:ByteArray) (hsz:data.size < 9223372036854775808) (m:Ms) (hdec:decF data = (m,0))
  (f:FuncId) [FnOk Tryz.prog f] (hdoes:Con Tryz.prog 41 #[.agg (heV xb node life m).toArray] [] fun v A=>v = .func (.func f) [.agg (heV xb node life m).toArray].toArray #[] ∧ A = []) (R:ByteArray → List Blk → Prop)
  (hh:ConB Tryz.prog B0 f #[.agg (heV xb node life m).toArray] (CoB xb lb tb cb mb db wb sb c tv dead :: CA) fun v A=>∃ reply,v = .string reply ∧ R reply A) (dx xx fx sx:Nat) :
  ConB Tryz.prog B0 38 #[ptr dx,ptr xx,ptr fx,ptr sx] (CoB xb lb tb cb mb db wb sb c tv dead :: (CA ++ HrB dx xx fx sx xb data node life (.slice none 0 0)))
   fun v A=>∃ reply A1 said J,R reply A1 ∧ SaidR node life reply said J ∧ A = A1 ++ ((sx,cl [said] 61) :: J):=by
 obtain ⟨r1,r2,r3,r4⟩:2 ≤ node ∧ node < 2 + c.runners ∧ 1 ≤ life ∧ life ≤ 1099511627776:=of_decide_eq_true hr
 refine ConB.intro (vs:=[_,_,_,_]) Tryz.func38 rfl Tryz.ntmps38 rfl (fun B hB=>?_)
 refine zg4 ?_
 refine Ops.callB (wdecode_spec B0 data hsz) hB rfl (noPd rfl) rfl rfl rfl (fun v A' hR=>?_)
 rw [hdec] at hR
 obtain ⟨rfl,rfl⟩:=hR
 dsimp only
 repeat' (first|refine Cd.seq ?_|refine Cd.reg ?_|refine Ops.mv rfl rfl rfl rfl ?_|refine Ops.asg rfl rfl rfl rfl ?_|refine Ops.ld1 rfl rfl rfl rfl rfl ?_|refine Ops.ldN rfl rfl rfl rfl ?_|refine Ops.bin rfl rfl rfl rfl rfl ?_|refine Ops.ext rfl rfl rfl rfl rfl ?_|refine Ops.alloc rfl rfl rfl (noPd rfl) (fun b=>?_)|refine Ops.stN rfl rfl rfl rfl rfl rfl (noPd rfl) ?_)
 rename Nat=>mx
 refine Ops.call (runner_yes xb lb tb cb mb db wb sb c hc tv dead node life r1 r2 r3 r4) rfl (noPd rfl) rfl rfl rfl (fun v A' hR=>?_)
 obtain ⟨rfl,rfl⟩:=hR
 repeat' (first|refine Cd.seq ?_|refine Cd.reg ?_|refine Ops.nil ?_|refine Ops.ld1 rfl rfl rfl rfl rfl ?_|refine Ops.ldN rfl rfl rfl rfl ?_|refine Ops.un rfl rfl rfl rfl ?_|refine Ops.pickF rfl rfl rfl rfl rfl ?_|refine Ops.bld rfl rfl rfl rfl ?_|refine Ops.alloc rfl rfl rfl (noPd rfl) (fun b=>?_)|refine Ops.stN rfl rfl rfl rfl rfl rfl (noPd rfl) ?_|refine Cd.condF rfl rfl ?_|refine Cd.skip (Cd.next ?_))
 rename Nat=>yx
 refine Ops.call hdoes rfl (noPd rfl) rfl rfl rfl (fun v A' hR=>?_)
 obtain ⟨rfl,rfl⟩:=hR
 refine zg13 ?_
 refine Ops.callVB (fi:=[.agg (heV xb node life m).toArray]) (ca:=[]) (vs:=[]) hh hB rfl (noPd rfl) rfl rfl rfl rfl (fun v A' hR=>?_)
 obtain ⟨reply,rfl,hR⟩:=hR
 by_cases hrep:reply = ⟨#[]⟩
 ·refine zg14 ?_
  exact Cd.ret (ret0 (A':=A' ++ ((sx,cl [.slice none 0 0] 61) :: [])) rfl (fun _ h=>h.split) ⟨reply,A',_,[],hR,.inl ⟨hrep,rfl,rfl⟩,rfl⟩)
 ·repeat' (first|refine Cd.seq ?_|refine Cd.reg ?_|refine Ops.nil ?_|refine Ops.mv rfl rfl rfl rfl ?_|refine Ops.asg rfl rfl rfl rfl ?_|refine Ops.ldN rfl rfl rfl rfl ?_|refine Ops.bin rfl rfl rfl rfl rfl ?_|refine Ops.bld rfl rfl rfl rfl ?_|refine Ops.bs1 rfl rfl rfl rfl rfl rfl rfl (noPd rfl) (fun b=>?_)|refine Ops.st1 rfl rfl rfl rfl rfl (noPd rfl) ?_|refine Cd.skip (Cd.next ?_)|refine Cd.condF rfl zp0 ?_)
  rename Nat=>g
  exact Ops.nilN (end0 (A':=A' ++ ((sx,cl [.slice (some ⟨g,0,none⟩) 1 1] 61) :: [(g,cl (dgV 0 0 0 node life reply) 66)])) rfl (fun _ h=>h.split) ⟨reply,A',_,_,hR,.inr ⟨hrep,g,rfl,rfl⟩,rfl⟩)
theorem cloneT_nil:Con Tryz.prog 29 #[.slice none 0 0] [] fun v A=>v = .slice none 0 0 ∧ A = []:=by
 refine Con.intro (vs:=[_]) Tryz.func29 rfl Tryz.ntmps29 rfl (fun B=>?_)
 refine zg5 ?_
 exact ze8
theorem ctold_spec (xb lb tb cb mb db wb sb:Nat) (c:Cf) (dead:Bool) (tv:Value) (tl:List Cg) (TG:List Blk) (hT:OwnC tv tl TG) (htl:tl.length ≤ 1000000000) (hnil:∀ g ∈ tl,g.a = none ∧ g.c.txs = [] ∧ g.k = 0) :
  Con Tryz.prog 10 #[ptr xb] (CoB xb lb tb cb mb db wb sb c tv dead :: TG) fun v A=>∃ a,v = .slice a tl.length tl.length ∧ A = CoB xb lb tb cb mb db wb sb c (.slice none 0 0) dead :: TG ∧ Rs 69 10 (.slice a tl.length tl.length) (tl.map Cg.row) TG:=by
 obtain ⟨ta,tc,rfl⟩:=hT.form
 have hcut:=own_cut hT
 refine Con.intro (vs:=[_]) Tryz.func10 rfl Tryz.ntmps10 rfl (fun B=>?_)
 refine zg7 ?_
 refine Cd.loopK (σ:=Nat) (fun i=>i ≤ tl.length) (fun i=>[(3,.slice ta tl.length tc),(13,.int .i64 ((tl.length:Nat):Int)),(14,.int .i64 ((i:Nat):Int))]) (fun _=>CoB xb lb tb cb mb db wb sb c (.slice none 0 0) dead :: TG) (fun i=>tl.length - i) 0 (Nat.zero_le _) ⟨rfl,rfl,rfl,trivial⟩ (fun w h=>h.split) (fun i hi=>?_)
 by_cases hlt:i < tl.length
 ·have hlt':((i:Nat):Int) < ((tl.length:Nat):Int):=by omega
  obtain ⟨g,hg⟩:∃ g,tl[i]? = some g:=⟨_,List.getElem?_eq_getElem hlt⟩
  obtain ⟨e1,e2,e3⟩:=hnil g (List.mem_of_getElem? hg)
  have hok:=hT.1
  obtain ⟨gb,c',sp,hsv,rfl,hsp,hle⟩:=Own.some_ hT (by rw [List.length_map];omega)
  injection hsv with q1 q2 q3
  subst q1
  have hgr:g.row = [.int .i64 g.c.kind,.int .i64 g.c.n,.int .i64 g.c.job,.int .i64 g.c.badge,.int .i64 g.c.slot,.int .i64 g.c.life,.int .i64 g.c.rcode,.int .u64 g.c.rbits,.string g.c.prog,.slice none 0 0]:=by
   rw [show g.row = g.c.row g.a g.k from rfl,e1,e3,Ch.row,e2];rfl
  have hg1:(tl.map Cg.row)[i]? = some g.row:=by rw [List.getElem?_map,hg];rfl
  have hset:(tl.map Cg.row).set i (([.int .i64 g.c.kind,.int .i64 g.c.n,.int .i64 g.c.job,.int .i64 g.c.badge,.int .i64 g.c.slot,.int .i64 g.c.life,.int .i64 g.c.rcode,.int .u64 g.c.rbits,.string g.c.prog,.slice none 0 0]:List Value).set 9 (.slice none 0 0)) = tl.map Cg.row:=by
   rw [show ([.int .i64 g.c.kind,.int .i64 g.c.n,.int .i64 g.c.job,.int .i64 g.c.badge,.int .i64 g.c.slot,.int .i64 g.c.life,.int .i64 g.c.rcode,.int .u64 g.c.rbits,.string g.c.prog,.slice none 0 0]:List Value).set 9 (.slice none 0 0) = g.row from hgr.symm]
   obtain ⟨q4,q5⟩:=List.getElem?_eq_some_iff.1 hg1
   rw [← q5];exact List.set_getElem_self q4
  have hrow:(tl.map Cg.row)[((i:Nat):Int).toNat]? = some [.int .i64 g.c.kind,.int .i64 g.c.n,.int .i64 g.c.job,.int .i64 g.c.badge,.int .i64 g.c.slot,.int .i64 g.c.life,.int .i64 g.c.rcode,.int .u64 g.c.rbits,.string g.c.prog,.slice none 0 0]:=by rw [Int.toNat_natCast,hg1,hgr]
  refine zg40 ?_
  refine Ops.call cloneT_nil rfl (noPd rfl) rfl rfl rfl (fun v A' hR=>?_)
  obtain ⟨rfl,rfl⟩:=hR
  refine Ops.call (clipT_spec none 0 0 (Nat.le_refl _)) rfl (noPd rfl) rfl rfl rfl (fun v A' hR=>?_)
  obtain ⟨rfl,rfl⟩:=hR
  refine zg39 ?_
  refine Ops.stRow1 (i:=i) (o:=9) (r:=[.int .i64 g.c.kind,.int .i64 g.c.n,.int .i64 g.c.job,.int .i64 g.c.badge,.int .i64 g.c.slot,.int .i64 g.c.life,.int .i64 g.c.rcode,.int .u64 g.c.rbits,.string g.c.prog,.slice none 0 0]) rfl rfl rfl rfl rfl hok hrow rfl (noPd rfl) ?_
  rw [hset]
  refine zg18 ?_
  exact Ops.nilN (round_end (i + 1:Nat) (by show i + 1 ≤ tl.length;omega) (by show tl.length - (i + 1) < tl.length - i;omega) ⟨rfl,rfl,rfl,trivial⟩ (fun w h=>h.split))
 ·have hlt':¬ ((i:Nat):Int) < ((tl.length:Nat):Int):=by omega
  refine zg12 ?_
  refine Ops.slHM rfl rfl rfl rfl rfl (by omega) (by omega) (by omega) rfl ?_
  rw [Int.toNat_natCast]
  refine zg1 ?_
  exact Cd.ret (ret1 (A':=CoB xb lb tb cb mb db wb sb c (.slice none 0 0) dead :: TG) rfl (Res.tmp rfl) (fun _ h=>h.split) ⟨ta,rfl,rfl,hcut.2⟩)
theorem tick1_nil (B0:Base) (xb lb lm tb cb mb db wb sb:Nat) (c:Cf) (hc:CfOk c) (dead:Bool) (tv:Value) (bx:Nat) :
  ConB Tryz.prog B0 42 #[ptr bx] (CoB xb lb tb cb mb db wb sb c tv dead :: (Ls.TB lb lm c.lease [] 0 ++ [(bx,cl [ptr xb] 26)])) fun v A=>∃ lb1 lm1 es ck,A = CoB xb lb1 tb cb mb db wb sb c tv dead :: (Ls.TB lb1 lm1 c.lease es ck ++ [(bx,cl [ptr xb] 26)]) ∧ Ls.TOk c.lease [] es ck:=by
 obtain ⟨_,⟨b1,b2⟩,_⟩:=id hc
 refine ConB.intro (vs:=[_]) Tryz.func42 rfl Tryz.ntmps42 rfl (fun B hB=>?_)
 refine zg4 ?_
 refine Ops.call (Ls.clone_spec lb lm c.lease [] 0) rfl (noPd rfl) rfl rfl rfl (fun v A' hR=>?_)
 obtain ⟨lb1,lm1,rfl,rfl⟩:=hR
 refine zg0 ?_
 refine Ops.call (Ls.tick_spec lb1 lm1 c.lease [] [] 0 (Ls.TOk.new b1 b2)) rfl (noPd rfl) rfl rfl rfl (fun v A' hR=>?_)
 obtain ⟨es,ck,G,hrs,rfl,hok⟩:=hR
 obtain ⟨ra,rc,rfl⟩:=Rs.form hrs
 rw [show (List.map Ls.LE.row (Ls.overF [])).length = 0 from rfl]
 clear hrs
 refine zg3 ?_
 refine Cd.loopK (σ:=Unit) (fun _=>True) (fun _=>[(0,ptr bx),(1,ptr lb1),(2,.slice ra 0 rc),(3,.slice none 0 0),(17,.int .i64 0),(18,.int .i64 0)]) (fun _=>CoB xb lb tb cb mb db wb sb c tv dead :: (Ls.TB lb1 lm1 c.lease es ck ++ [(bx,cl [ptr xb] 26)])) (fun _=>0) () trivial ⟨rfl,rfl,rfl,rfl,rfl,rfl,trivial⟩ (fun w h=>h.split) (fun _ _=>?_)
 refine zg13 ?_
 refine Ops.callB (makes_nil B0 xb none 0) hB rfl (noPd rfl) rfl rfl rfl (fun v A' hR=>?_)
 subst hR
 refine zg7 ?_
 refine Cd.loopK (σ:=Unit) (fun _=>True) (fun _=>[(38,.int .i64 0),(39,.int .i64 0)]) (fun _=>CoB xb lb1 tb cb mb db wb sb c tv dead :: (Ls.TB lb1 lm1 c.lease es ck ++ [(bx,cl [ptr xb] 26)])) (fun _=>0) () trivial ⟨rfl,rfl,trivial⟩ (fun w h=>h.split) (fun _ _=>?_)
 refine zg13 ?_
 exact ze45
theorem tick_nil (B0:Base) (xb lb lm tb cb mb db wb sb:Nat) (c:Cf) (hc:CfOk c) (tv:Value) (x:Dk) (k:Nat) (D:List Blk) (hD:DkA db x k D) (hde:x.de = false) :
  ConB Tryz.prog B0 20 #[ptr xb] (CoB xb lb tb cb mb db wb sb c tv false :: (D ++ Ls.TB lb lm c.lease [] 0)) fun v A=>v = .int .i64 0 ∧ ∃ lb1 lm1 es ck,A = CoB xb lb1 tb cb mb db wb sb c tv false :: (D ++ Ls.TB lb1 lm1 c.lease es ck) ∧ Ls.TOk c.lease [] es ck:=by
 refine ConB.intro (vs:=[_]) Tryz.func20 rfl Tryz.ntmps20 rfl (fun B hB=>?_)
 repeat' (first|refine Ops.mkF rfl rfl rfl rfl rfl ?_|refine Cd.seq ?_|refine Cd.reg ?_|refine Ops.asg rfl rfl rfl rfl ?_|refine Ops.ld1 rfl rfl rfl rfl rfl ?_|refine Ops.box rfl rfl rfl rfl (noPd rfl) (fun b=>?_))
 rename Nat=>bx
 have hd:ConB Tryz.prog B0 42 [ptr bx].toArray (CoB xb lb tb cb mb db wb sb c tv false :: (D ++ (Ls.TB lb lm c.lease [] 0 ++ [(bx,cl [ptr xb] 26)]))) fun v A=>∃ lb1 lm1 es ck,A = (CoB xb lb1 tb cb mb db wb sb c tv false :: (Ls.TB lb1 lm1 c.lease es ck ++ [(bx,cl [ptr xb] 26)])) ++ D ∧ Ls.TOk c.lease [] es ck :=
  (((tick1_nil B0 xb lb lm tb cb mb db wb sb c hc false tv bx).beside (F:=D)).mono fun v A hR=>by
   obtain ⟨A2,⟨lb1,lm1,es,ck,rfl,h2⟩,rfl⟩:=hR
   exact ⟨lb1,lm1,es,ck,rfl,h2⟩).permIn (List.Perm.cons _ List.perm_append_comm)
 refine Ops.callB (caught_calm B0 xb lb tb cb mb db wb sb c tv x k D hD hde _ 42 [ptr bx] _ hd) hB rfl (noPd rfl) rfl rfl rfl (fun v A' hR=>?_)
 obtain ⟨rfl,v0,lb1,lm1,es,ck,rfl,hok⟩:=hR
 refine zg1 ?_
 exact Cd.ret (ret1 (A':=CoB xb lb1 tb cb mb db wb sb c tv false :: (D ++ Ls.TB lb1 lm1 c.lease es ck)) rfl (Res.tmp rfl) (fun _ h=>h.split) ⟨rfl,lb1,lm1,es,ck,rfl,hok⟩)
structure TdG where
 i:Nat
 L:List Cg
 P:List Blk
structure TdI (tl:List Cg) (t:TdG):Prop where
 i:t.i ≤ tl.length
 c:t.L.map Cg.c = tl.map Cg.c
 d:t.L.drop t.i = tl.drop t.i
 s:∀ B,Holds B t.P → ∀ (j:Nat) g,j < t.i → t.L[j]? = some g → SIn B g.a g.c.txs
def TdR (tl:List Cg) (v:Value) (TG PX:List Blk):Prop:=∃ (a:Option Addr) (tl1:List Cg),v = .slice a tl.length tl.length ∧ tl1.map Cg.c = tl.map Cg.c ∧ Rs 69 10 (.slice a tl.length tl.length) (tl1.map Cg.row) TG ∧ ∀ B,Holds B PX → ∀ g ∈ tl1,SIn B g.a g.c.txs
theorem ctold_in (B0:Base) (xb lb tb cb mb db wb sb:Nat) (c:Cf) (dead:Bool) (tv:Value) (tl:List Cg) (TG:List Blk) (hT:OwnC tv tl TG) (htl:tl.length ≤ 1000000000) (hX:∀ g ∈ tl,SIn B0 g.a g.c.txs) (hn:∀ g ∈ tl,g.c.txs.length ≤ 2000000) :
  ConB Tryz.prog B0 10 #[ptr xb] (CoB xb lb tb cb mb db wb sb c tv dead :: TG) fun v A=>∃ TG1 PX,A = CoB xb lb tb cb mb db wb sb c (.slice none 0 0) dead :: (TG1 ++ PX) ∧ TdR tl v TG1 PX:=by
 by_cases h0:tl = []
 ·subst h0
  refine (Con.toB (ctold_spec xb lb tb cb mb db wb sb c dead tv [] TG hT htl (fun g hg=>(by cases hg)))).mono fun v A hR=>?_
  obtain ⟨a,rfl,rfl,h⟩:=hR
  exact ⟨TG,[],by rw [List.append_nil],a,[],rfl,rfl,h,fun B _ g hg=>(by cases hg)⟩
 have hpos:=List.length_pos_iff.2 h0
 obtain ⟨gb,tc,sp,rfl,rfl,hsp,hle⟩:=Own.some_ hT (by rw [List.length_map];exact hpos)
 rw [List.length_map] at hle ⊢
 have hfl:(tl.map Cg.row).flatten.length = tl.length * 10:=by rw [(cgs_ok tl).len,List.length_map]
 refine ConB.intro (vs:=[_]) Tryz.func10 rfl Tryz.ntmps10 rfl (fun B hB=>?_)
 refine zg7 ?_
 refine Cd.loopK (σ:=TdG) (TdI tl) (fun t=>[(3,.slice (some ⟨gb,0,none⟩) tl.length tc),(13,.int .i64 ((tl.length:Nat):Int)),(14,.int .i64 ((t.i:Nat):Int))]) (fun t=>CoB xb lb tb cb mb db wb sb c (.slice none 0 0) dead :: (gb,cl ((t.L.map Cg.row).flatten ++ sp) 69) :: t.P) (fun t=>tl.length - t.i) ⟨0,tl,[]⟩ ⟨Nat.zero_le _,rfl,rfl,fun B _ j g hj=>absurd hj (Nat.not_lt_zero _)⟩ ⟨rfl,rfl,rfl,trivial⟩ (fun w h=>h.split) (fun t hI=>?_)
 obtain ⟨i,L,P⟩:=t
 obtain ⟨hi,hcs,hd,hs⟩:=hI
 dsimp only at hi hcs hd hs ⊢
 have hLl:L.length = tl.length:=by have:=congrArg List.length hcs;rwa [List.length_map,List.length_map] at this
 by_cases hlt:i < tl.length
 ·have hlt':((i:Nat):Int) < ((tl.length:Nat):Int):=by omega
  obtain ⟨g,hg⟩:∃ g,L[i]? = some g:=⟨_,List.getElem?_eq_getElem (by omega)⟩
  have hgt:tl[i]? = some g:=by
   have:=congrArg (fun l=>l[0]?) hd
   simp only [List.getElem?_drop,Nat.add_zero] at this
   rw [← this];exact hg
  have hm:g ∈ tl:=List.mem_of_getElem? hgt
  have hok:=cgs_ok L
  have hS1:=hX g hm
  have hcl:=cloneT_spec B0 g.a g.c.txs.length g.k (g.c.txs.map trow) (by rw [List.length_map]) (trows_ok _) (SIn.rin hS1) (by rw [List.length_map];exact hn g hm)
  have hrow:(L.map Cg.row)[((i:Nat):Int).toNat]? = some [.int .i64 g.c.kind,.int .i64 g.c.n,.int .i64 g.c.job,.int .i64 g.c.badge,.int .i64 g.c.slot,.int .i64 g.c.life,.int .i64 g.c.rcode,.int .u64 g.c.rbits,.string g.c.prog,.slice g.a g.c.txs.length g.k]:=by rw [Int.toNat_natCast,List.getElem?_map,hg];rfl
  refine zg40 ?_
  refine Ops.callB hcl hB rfl (noPd rfl) rfl rfl rfl (fun v A' hO=>?_)
  clear hcl
  obtain ⟨a1,k1,hv⟩:=hO.form
  rw [List.length_map] at hv
  subst hv
  have hcut:=own_cut hO
  refine Ops.call (clipT_spec a1 g.c.txs.length k1 hcut.1) rfl (noPd rfl) rfl rfl rfl (fun v A2 hR=>?_)
  obtain ⟨rfl,rfl⟩:=hR
  refine zg39 ?_
  have hset:(L.map Cg.row).set i (([.int .i64 g.c.kind,.int .i64 g.c.n,.int .i64 g.c.job,.int .i64 g.c.badge,.int .i64 g.c.slot,.int .i64 g.c.life,.int .i64 g.c.rcode,.int .u64 g.c.rbits,.string g.c.prog,.slice g.a g.c.txs.length g.k]:List Value).set 9 (.slice a1 g.c.txs.length g.c.txs.length)) = (L.set i ⟨g.c,a1,g.c.txs.length⟩).map Cg.row:=by rw [List.map_set];rfl
  refine Ops.stRow1 (i:=i) (o:=9) (r:=[.int .i64 g.c.kind,.int .i64 g.c.n,.int .i64 g.c.job,.int .i64 g.c.badge,.int .i64 g.c.slot,.int .i64 g.c.life,.int .i64 g.c.rcode,.int .u64 g.c.rbits,.string g.c.prog,.slice g.a g.c.txs.length g.k]) rfl rfl rfl rfl rfl hok hrow rfl (noPd rfl) ?_
  rw [hset]
  refine zg18 ?_
  exact Ops.nilN (round_end (⟨i + 1,L.set i ⟨g.c,a1,g.c.txs.length⟩,A' ++ P⟩:TdG) ⟨by show i + 1 ≤ tl.length;omega,by
    show (L.set i ⟨g.c,a1,g.c.txs.length⟩).map Cg.c = tl.map Cg.c
    rw [List.map_set,← hcs]
    have h1:(L.map Cg.c)[i]? = some g.c:=by rw [List.getElem?_map,hg];rfl
    obtain ⟨q4,q5⟩:=List.getElem?_eq_some_iff.1 h1
    exact (congrArg _ q5.symm).trans (List.set_getElem_self q4),by
    show (L.set i _).drop (i + 1) = tl.drop (i + 1)
    rw [List.drop_set_of_lt (by omega)]
    have:=congrArg (List.drop 1) hd
    rwa [List.drop_drop,List.drop_drop] at this,fun B hB j g1 hj hg1=>(by
    have hj':j < i + 1:=hj
    have hg1':(L.set i (⟨g.c,a1,g.c.txs.length⟩:Cg))[j]? = some g1:=hg1
    by_cases hji:i = j
    ·subst hji
     rw [List.getElem?_set_self (by omega)] at hg1'
     injection hg1' with hg1'
     subst hg1'
     exact RIn.sin (Own.rin hO (hB.sub fun p hp=>List.mem_append_left _ hp))
    ·rw [List.getElem?_set_ne hji] at hg1'
     exact hs B (hB.sub fun p hp=>List.mem_append_right _ hp) j g1 (by omega) hg1')⟩ (by show tl.length - (i + 1) < tl.length - i;omega) ⟨rfl,rfl,rfl,trivial⟩ (fun w h=>h.split))
 ·have hlt':¬ ((i:Nat):Int) < ((tl.length:Nat):Int):=by omega
  obtain rfl:i = tl.length:=by omega
  refine zg12 ?_
  refine Ops.slHM rfl rfl rfl rfl rfl (by omega) (by omega) (by omega) rfl ?_
  rw [Int.toNat_natCast]
  refine zg1 ?_
  exact Cd.ret (ret1 (A':=CoB xb lb tb cb mb db wb sb c (.slice none 0 0) dead :: ([(gb,cl ((L.map Cg.row).flatten ++ sp) 69)] ++ P)) rfl (Res.tmp rfl) (fun _ h=>h.split) ⟨_,P,rfl,some ⟨gb,0,none⟩,L,rfl,hcs,⟨cgs_ok L,.inr ⟨gb,tl.length,sp,by rw [List.length_map,hLl],rfl⟩⟩,fun B hB g hg=>(by
   obtain ⟨j,hj⟩:=List.getElem?_of_mem hg
   exact hs B hB j g (by have:=(List.getElem?_eq_some_iff.1 hj).1;omega) hj)⟩)
end Go.Proofs.YtaecdnfkcebbeaaGreat
