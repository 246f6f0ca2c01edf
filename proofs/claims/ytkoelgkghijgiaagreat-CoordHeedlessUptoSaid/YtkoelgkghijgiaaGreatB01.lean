import Derived.Test.YtkoelgkghijgiaaGreatA17
import Derived.Test.YtkoelgkghijgiaaGreatA16
import Derived.Test.YtkoelgkghijgiaaGreatA01
import Derived.Test.YtkoelgkghijgiaaGreatA04
import Derived.Test.YtkoelgkghijgiaaGreatA11
import Derived.Test.YtkoelgkghijgiaaGreatA12
import Derived.Test.YtkoelgkghijgiaaGreatRows
import Derived.WalkKit
import Derived.ProofKit
import Derived.OpenShut
import Derived.ShutString
import Derived.ChangeOld
import Derived.Below
import Derived.JoinedCond
set_option linter.unusedVariables false
set_option linter.unusedSimpArgs false
namespace Go.Proofs.YtkoelgkghijgiaaGreat
open Go Go.Sep Go.Proofs Go.Proofs.Tryz
instance :TyD prog 24 (.slice 40):=⟨underlying24⟩
instance :Ty prog 40 true 18 168 [.int .i64 0,.int .i64 0,.int .i64 0,.int .i64 0,.int .i64 0,.int .i64 0,.int .i64 0,.int .i64 0,.int .i64 0,.int .i64 0,.int .i64 0,.int .i64 0,.int .i64 0,.int .i64 0,.int .u64 0,.string ⟨#[]⟩,.string ⟨#[]⟩,.string ⟨#[]⟩]:=⟨⟨_,underlying40,rfl⟩,by kernel_rfl⟩
instance :FOff prog 40 1 1 1:=⟨⟨_,_,underlying40,rfl,by kernel_rfl,by decide,rfl⟩⟩
instance :FOff prog 40 4 4 2:=⟨⟨_,_,underlying40,rfl,by kernel_rfl,by decide,rfl⟩⟩
instance :FOff prog 40 5 6 11:=⟨⟨_,_,underlying40,rfl,by kernel_rfl,by decide,rfl⟩⟩
instance :FOff prog 40 6 17 1:=⟨⟨_,_,underlying40,rfl,by kernel_rfl,by decide,rfl⟩⟩
instance :FOff prog 49 0 0 1:=⟨⟨_,_,underlying49,rfl,by kernel_rfl,by decide,rfl⟩⟩
instance :FlS prog 33 [(3,0),(3,1)]:=⟨by kernel_rfl⟩
instance :FlS prog 36 [(3,0),(34,1)]:=⟨by kernel_rfl⟩
instance :FlS prog 38 [(3,0),(3,1),(3,2),(3,3),(3,4),(3,5),(3,6),(36,7),(9,9),(9,10)]:=⟨by kernel_rfl⟩
instance :FlS prog 40 [(3,0),(3,1),(3,2),(3,3),(33,4),(38,6),(9,17)]:=⟨by kernel_rfl⟩
instance :Flds prog 62 [(3,0),(3,1),(3,2),(3,3),(33,4),(36,6)]:=⟨by kernel_rfl⟩
instance :Flds prog 76 [(3,0),(3,1),(3,2),(3,3),(9,4)]:=⟨by kernel_rfl⟩
instance :FnOk prog 11:=⟨⟨_,func11,by kernel_rfl,by kernel_rfl⟩⟩
instance :FnOk prog 17:=⟨⟨_,func17,by kernel_rfl,by kernel_rfl⟩⟩
instance :FnOk prog 18:=⟨⟨_,func18,by kernel_rfl,by kernel_rfl⟩⟩
instance :FnOk prog 24:=⟨⟨_,func24,by kernel_rfl,by kernel_rfl⟩⟩
instance :FnOk prog 54:=⟨⟨_,func54,by kernel_rfl,by kernel_rfl⟩⟩
end Go.Proofs.YtkoelgkghijgiaaGreat
namespace Go.Sep
open Go
theorem Rs.rin {E sz n c:Nat} {a:Option Addr} {rows:List (List Value)} {G:List Blk} (h:Rs E sz (.slice a n c) rows G) {B:Base} (hG:Holds B G):RIn sz B a rows:=fun i r hr=>by
 have hlt:=(List.getElem?_eq_some_iff.1 hr).1
 obtain ⟨g,c',spare,h1,h2⟩:=Rs.some_ h (by omega)
 injection h1 with e1 e2 e3
 refine ⟨g,0,e1,fun A j u hu=>?_⟩
 have hj:j < sz:=by rw [← (h.1 r (List.mem_of_getElem? hr)).1];exact (List.getElem?_eq_some_iff.1 hu).1
 have h5:=h.1.at_ hr hj
 rw [Nat.zero_add]
 exact hG.cell (l:=rows.flatten ++ spare) (by rw [h2];exact List.mem_singleton.2 rfl) (by rw [List.getElem?_append_left (List.getElem?_eq_some_iff.1 (h5.trans hu)).1,h5,hu]) A
end Go.Sep
namespace Go.Proofs.YtkoelgkghijgiaaGreat
open Go Go.Sep Go.Proofs Go.Proofs.Tryz
set_option maxRecDepth 10000
set_option maxHeartbeats 40000000
set_option synthInstance.maxSize 2000
structure Fm where
 w:ByteArray
 n:Int
 b1:Bool
 b2:Bool
theorem FormsOk.at_ {rows:List (List Value)} (h:FormsOk rows) {i:Int} (h0:0 ≤ i) (h1:i < 25):∃ f:Fm,rows[i.toNat]? = some [.string f.w,.int .i64 f.n,.bool f.b1,.bool f.b2] ∧ 0 ≤ f.n ∧ f.n ≤ 3:=by
 have hl:i.toNat < rows.length:=by rw [h.1];omega
 have hg:=List.getElem?_eq_getElem hl
 obtain ⟨w,n,b1,b2,e,q1,q2⟩:=h.2 _ (List.getElem_mem hl)
 exact ⟨⟨w,n,b1,b2⟩,by rw [hg,e],q1,q2⟩
theorem wrong_spec (op a b c n k many:Int) (hk:0 ≤ k ∧ k < 18446744073709551616):Con prog 102 #[.agg (insR op a b c n k).toArray,.int .i64 many] [] fun v A=>(∃ e,v = .int .i64 e) ∧ A = []:=by
 obtain ⟨kn,rfl⟩:∃ m:Nat,k = m:=⟨k.toNat,by omega⟩
 refine zqI (vs:=[_,_]) func102 ntmps102 fun B=>?_
 generalize hc3:Code.seq (Code.region 3 _ _) _ = c3
 by_cases h1:op < 1
 ·repeat' (first|refine Cd.seq ?_|refine Cd.reg ?_|refine Ops.nil ?_|refine Ops.mv rfl rfl rfl rfl ?_|refine Ops.asg rfl rfl rfl rfl ?_|refine Ops.fa0 rfl rfl rfl rfl ?_|refine Ops.ld1 rfl rfl rfl rfl rfl ?_|refine Ops.bin rfl rfl rfl rfl rfl ?_|refine Ops.pickT rfl rfl rfl rfl rfl ?_|refine Ops.box rfl rfl rfl rfl (noPd rfl) (fun b=>?_)|refine Ops.gSkip rfl rfl rfl ?_|refine Cd.condT rfl rfl ?_|((fail_if_success refine Ops.probe rfl ?_);refine Ops.gT rfl rfl zp0 ?_))
  exact ze2
 by_cases h2:25 ≤ op
 ·repeat' (first|refine Cd.seq ?_|refine Cd.reg ?_|refine Ops.nil ?_|refine Ops.mv rfl rfl rfl rfl ?_|refine Ops.asg rfl rfl rfl rfl ?_|refine Ops.fa0 rfl rfl rfl rfl ?_|refine Ops.ld1 rfl rfl rfl rfl rfl ?_|refine Ops.bin rfl rfl rfl rfl rfl ?_|refine Ops.pickF rfl rfl rfl rfl rfl ?_|refine Ops.box rfl rfl rfl rfl (noPd rfl) (fun b=>?_)|refine Cd.condT rfl zp0 ?_|((fail_if_success refine Ops.probe rfl ?_);refine Ops.gF rfl rfl zp0 ?_))
  exact ze2
 repeat' (first|refine Cd.seq ?_|refine Cd.reg ?_|refine Ops.nil ?_|refine Ops.mv rfl rfl rfl rfl ?_|refine Ops.asg rfl rfl rfl rfl ?_|refine Ops.fa0 rfl rfl rfl rfl ?_|refine Ops.ld1 rfl rfl rfl rfl rfl ?_|refine Ops.bin rfl rfl rfl rfl rfl ?_|refine Ops.pickF rfl rfl rfl rfl rfl ?_|refine Ops.box rfl rfl rfl rfl (noPd rfl) (fun b=>?_)|refine Cd.skip (Cd.next ?_)|refine Cd.condF rfl zp0 ?_|((fail_if_success refine Ops.probe rfl ?_);refine Ops.gF rfl rfl zp0 ?_))
 rename Nat=>ib
 subst hc3
 refine Cd.cut (σ:=Nat × Fm) (fun t=>0 ≤ t.2.n ∧ t.2.n ≤ 3) (fun t=>[(1,.int .i64 many),(2,ptr ib),(5,ptr t.1)]) (fun t=>[(t.1,cl [.string t.2.w,.int .i64 t.2.n,.bool t.2.b1,.bool t.2.b2] 148),(ib,cl (insR op a b c n kn) 82)]) ?_ (fun t ht=>?_)
 ·refine zdr [qz 1,qy 2,(0,4,[2]),qz 3,qy 4,(5,2,[2,4]),(6,2,[])] ?_
  refine zg5 ?_
  refine Ops.fork' [(1,0,[]),(2,1,[]),(5,4,[2]),(0,2,[2]),(3,0,[]),(4,1,[]),(6,2,[])] (by kernel_rfl) rfl (by simp only [picked,nth];exact rfl) ?_ ?_
  ·skip
   refine Ops.call forms_spec rfl zp5 rfl rfl rfl (fun v A' hR=>?_)
   obtain ⟨g,rows,rfl,rfl,hf,hok⟩:=hR
   obtain ⟨f,hx,hf0,hf3⟩:=hf.at_ (i:=op) (by omega) (by omega)
   refine Ops.ixa0 rfl rfl rfl rfl (by omega) (by omega) rfl ?_
   refine Ops.ldRow rfl rfl rfl hok hx rfl ?_
   refine Ops.alloc rfl rfl rfl zp10 (fun fb=>?_)
   refine zg19 ?_
   exact ze3
  ·skip
   repeat' (first|refine Ops.alloc rfl rfl rfl zp3 (fun b=>?_))
   rename Nat=>fb
   refine Ops.call forms_spec rfl zp5 rfl rfl rfl (fun v A' hR=>?_)
   obtain ⟨g,rows,rfl,rfl,hf,hok⟩:=hR
   obtain ⟨f,hx,hf0,hf3⟩:=hf.at_ (i:=op) (by omega) (by omega)
   refine zg14 ?_
   exact ze3
 ·obtain ⟨fb,fw,fn,b1,b2⟩:=t
  dsimp only at ht ⊢
  obtain ⟨hf0,hf3⟩:=ht
  generalize hc16:Code.seq (Code.region 16 _ _) _ = c16
  refine zg1 ?_
  refine Ops.bsN [[.int .i64 a],[.int .i64 b],[.int .i64 c]] rfl rfl rfl rfl rfl rfl rfl rfl rfl rfl (noPd rfl) (fun sb=>?_)
  refine zg1 ?_
  have hok:RowsOk 1 [[Value.int .i64 a],[Value.int .i64 b],[Value.int .i64 c]]:=by
   refine List.forall_mem_cons.2 ⟨⟨rfl,rfl⟩,List.forall_mem_cons.2 ⟨⟨rfl,rfl⟩,List.forall_mem_cons.2 ⟨⟨rfl,rfl⟩,List.forall_mem_nil _⟩⟩⟩
  have hat:∀ i:Int,0 ≤ i → i < 3 → ∃ g:Int,[[Value.int .i64 a],[Value.int .i64 b],[Value.int .i64 c]][i.toNat]? = some [.int .i64 g]:=fun i h0 h3=>by
   obtain rfl|rfl|rfl:i = 0 ∨ i = 1 ∨ i = 2:=by omega
   ·exact ⟨a,rfl⟩
   ·exact ⟨b,rfl⟩
   ·exact ⟨c,rfl⟩
  generalize hrs:[[Value.int .i64 a],[Value.int .i64 b],[Value.int .i64 c]] = rs at hok hat ⊢
  refine Cd.loopK (σ:=Int) (fun i=>0 ≤ i ∧ i ≤ 3) (fun i=>[(1,.int .i64 many),(2,ptr ib),(5,ptr fb),(27,.slice (some ⟨sb,0,none⟩) 3 3),(28,.int .i64 3),(29,.int .i64 i)]) (fun _=>(sb,cl (rs.flatten ++ []) 3) :: [(fb,cl [.string fw,.int .i64 fn,.bool b1,.bool b2] 148),(ib,cl (insR op a b c n kn) 82)]) (fun i=>(3 - i).toNat) 0 ⟨by omega,by omega⟩ ⟨rfl,rfl,rfl,rfl,rfl,rfl,trivial⟩ (fun w h=>h.split) (fun i hI=>?_)
  obtain ⟨hi0,hi3⟩:=hI
  by_cases hil:i < 3
  ·obtain ⟨g,hx⟩:=hat i hi0 hil
   by_cases c1:fn ≤ i
   ·by_cases c2:g = 0
    ·refine zg10 ?_
     exact ze4
    ·refine zg10 ?_
     exact ze2
   ·by_cases c3:g < 0
    ·refine zg10 ?_
     exact ze2
    ·by_cases c4:8 ≤ g
     ·refine zg10 ?_
      exact ze2
     ·refine zg10 ?_
      exact ze4
  ·obtain rfl:i = 3:=by omega
   clear hi0 hi3 hil
   cases b1
   ·by_cases g0:n = 0
    ·by_cases g3:many < n
     ·refine zg10 ?_
      exact ze2
     ·refine zg8 ?_
      subst hc16
      refine Cd.seq ?_
      cases b2
      ·by_cases gk:(kn:Int) = 0
       ·skip
        refine zdr [qz 0,qy 1,qz 2,qz 3,qz 4,qy 5,qz 6,qz 7,qz 8,qz 9,qy 10,qz 12,qy 13,(11,2,[13]),qz 14,qz 15,qz 16] ?_
        refine zg11 ?_
        refine Ops.call (canon_spec kn) rfl zp1 rfl rfl rfl (fun v A' hR=>?_)
        obtain ⟨rfl,rfl⟩:=hR
        repeat' (first|refine zs2 ?_|(refine Cd.cond rfl (fun hc=>?_) (fun hc=>?_) <;> (try simp only [decide_eq_true_eq,decide_eq_false_iff_not,Bool.not_eq_true',Bool.not_eq_false',Bool.not_eq_eq_eq_not,Bool.not_true,Bool.not_false,Int.not_lt,Int.not_le] at hc)))
        all_goals skip
        all_goals exact Cd.ret (ret1 (A':=[]) rfl (Res.tmp rfl) (fun _ h=>h.split) ⟨⟨_,rfl⟩,rfl⟩)
       ·refine zdr [qz 0,qy 1,qz 2,qz 3,qz 4,qy 5,qz 6,qz 7,qz 8,qz 9,qy 10,qz 12,qy 13,(11,2,[13]),qz 14,qz 15,qz 16] ?_
        refine zk ?_
        all_goals skip
        all_goals exact Cd.ret (ret1 (A':=[]) rfl (Res.tmp rfl) (fun _ h=>h.split) ⟨⟨_,rfl⟩,rfl⟩)
      ·skip
       refine zdr [qz 0,qy 1,qz 2,qz 3,qz 4,qy 5,qz 6,qz 7,qz 8,qz 9,qy 10,qz 12,qy 13,(11,2,[13]),qz 14,qz 15,qz 16] ?_
       refine zg17 ?_
       refine Ops.call (canon_spec kn) rfl zp1 rfl rfl rfl (fun v A' hR=>?_)
       obtain ⟨rfl,rfl⟩:=hR
       repeat' (first|refine zs2 ?_|(refine Cd.cond rfl (fun hc=>?_) (fun hc=>?_) <;> (try simp only [decide_eq_true_eq,decide_eq_false_iff_not,Bool.not_eq_true',Bool.not_eq_false',Bool.not_eq_eq_eq_not,Bool.not_true,Bool.not_false,Int.not_lt,Int.not_le] at hc)))
       all_goals skip
       all_goals exact Cd.ret (ret1 (A':=[]) rfl (Res.tmp rfl) (fun _ h=>h.split) ⟨⟨_,rfl⟩,rfl⟩)
    ·refine zg8 ?_
     exact ze2
   ·by_cases g2:n < 0
    ·refine zk ?_
     exact ze2
    ·by_cases g3:many < n
     ·refine zg8 ?_
      exact ze2
     ·refine zg8 ?_
      subst hc16
      refine Cd.seq ?_
      cases b2
      ·by_cases gk:(kn:Int) = 0
       ·skip
        refine zdr [qz 0,qy 1,qz 2,qz 3,qz 4,qy 5,qz 6,qz 7,qz 8,qz 9,qy 10,qz 12,qy 13,(11,2,[13]),qz 14,qz 15,qz 16] ?_
        refine zg11 ?_
        refine Ops.call (canon_spec kn) rfl zp1 rfl rfl rfl (fun v A' hR=>?_)
        obtain ⟨rfl,rfl⟩:=hR
        repeat' (first|refine zs2 ?_|(refine Cd.cond rfl (fun hc=>?_) (fun hc=>?_) <;> (try simp only [decide_eq_true_eq,decide_eq_false_iff_not,Bool.not_eq_true',Bool.not_eq_false',Bool.not_eq_eq_eq_not,Bool.not_true,Bool.not_false,Int.not_lt,Int.not_le] at hc)))
        all_goals skip
        all_goals exact Cd.ret (ret1 (A':=[]) rfl (Res.tmp rfl) (fun _ h=>h.split) ⟨⟨_,rfl⟩,rfl⟩)
       ·refine zdr [qz 0,qy 1,qz 2,qz 3,qz 4,qy 5,qz 6,qz 7,qz 8,qz 9,qy 10,qz 12,qy 13,(11,2,[13]),qz 14,qz 15,qz 16] ?_
        refine zk ?_
        all_goals skip
        all_goals exact Cd.ret (ret1 (A':=[]) rfl (Res.tmp rfl) (fun _ h=>h.split) ⟨⟨_,rfl⟩,rfl⟩)
      ·skip
       refine zdr [qz 0,qy 1,qz 2,qz 3,qz 4,qy 5,qz 6,qz 7,qz 8,qz 9,qy 10,qz 12,qy 13,(11,2,[13]),qz 14,qz 15,qz 16] ?_
       refine zg17 ?_
       refine Ops.call (canon_spec kn) rfl zp1 rfl rfl rfl (fun v A' hR=>?_)
       obtain ⟨rfl,rfl⟩:=hR
       repeat' (first|refine zs2 ?_|(refine Cd.cond rfl (fun hc=>?_) (fun hc=>?_) <;> (try simp only [decide_eq_true_eq,decide_eq_false_iff_not,Bool.not_eq_true',Bool.not_eq_false',Bool.not_eq_eq_eq_not,Bool.not_true,Bool.not_false,Int.not_lt,Int.not_le] at hc)))
       all_goals skip
       all_goals exact Cd.ret (ret1 (A':=[]) rfl (Res.tmp rfl) (fun _ h=>h.split) ⟨⟨_,rfl⟩,rfl⟩)
end Go.Proofs.YtkoelgkghijgiaaGreat
namespace Go.Proofs.YtkoelgkghijgiaaGreat
open Go Go.Sep Go.Proofs Go.Proofs.Tryz
set_option maxRecDepth 10000
set_option maxHeartbeats 40000000
set_option synthInstance.maxSize 2000
def Inz.Ok (x:Inz):Prop:=0 ≤ x.k ∧ x.k < 18446744073709551616
theorem pcheck_spec (B0:Base) (fuel:Int) (a:Option Addr) (cp:Nat) (l:List Inz) (hC:RIn 6 B0 a (l.map Inz.row)) (hk:∀ x ∈ l,x.Ok) :
  ConB prog B0 63 #[.agg [.int .i64 fuel,.slice a l.length cp].toArray] [] fun v A=>(∃ e i:Int,v = .tuple #[.int .i64 e,.int .i64 i]) ∧ A = []:=by
 refine zqJ (vs:=[_]) func63 ntmps63 fun B hB=>?_
 by_cases h1:fuel < 1
 ·repeat' (first|refine Cd.seq ?_|refine Cd.reg ?_|refine Ops.nil ?_|refine Ops.mv rfl rfl rfl rfl ?_|refine Ops.asg rfl rfl rfl rfl ?_|refine Ops.fa0 rfl rfl rfl rfl ?_|refine Ops.ld1 rfl rfl rfl rfl rfl ?_|refine Ops.bin rfl rfl rfl rfl rfl ?_|refine Ops.pickT rfl rfl rfl rfl rfl ?_|refine Ops.box rfl rfl rfl rfl (noPd rfl) (fun b=>?_)|refine Ops.gSkip rfl rfl rfl ?_|refine Cd.condT rfl rfl ?_|refine Cd.block ?_|((fail_if_success refine Ops.probe rfl ?_);refine Ops.gT rfl rfl zp0 ?_))
  exact ze5
 by_cases h2:1024 < fuel
 ·repeat' (first|refine Cd.seq ?_|refine Cd.reg ?_|refine Ops.nil ?_|refine Ops.mv rfl rfl rfl rfl ?_|refine Ops.asg rfl rfl rfl rfl ?_|refine Ops.fa0 rfl rfl rfl rfl ?_|refine Ops.ld1 rfl rfl rfl rfl rfl ?_|refine Ops.bin rfl rfl rfl rfl rfl ?_|refine Ops.pickF rfl rfl rfl rfl rfl ?_|refine Ops.box rfl rfl rfl rfl (noPd rfl) (fun b=>?_)|refine Cd.block ?_|refine Cd.condT rfl zp0 ?_|((fail_if_success refine Ops.probe rfl ?_);refine Ops.gF rfl rfl zp0 ?_))
  exact ze5
 by_cases h3:(l.length:Int) < 1
 ·repeat' (first|refine Cd.seq ?_|refine Cd.reg ?_|refine Ops.nil ?_|refine Ops.mv rfl rfl rfl rfl ?_|refine Ops.asg rfl rfl rfl rfl ?_|refine Ops.fa0 rfl rfl rfl rfl ?_|refine Ops.ld1 rfl rfl rfl rfl rfl ?_|refine Ops.lenS rfl rfl rfl rfl ?_|refine Ops.bin rfl rfl rfl rfl rfl ?_|refine Ops.pickT rfl rfl rfl rfl rfl ?_|refine Ops.pickF rfl rfl rfl rfl rfl ?_|refine Ops.box rfl rfl rfl rfl (noPd rfl) (fun b=>?_)|refine Ops.gSkip rfl rfl rfl ?_|refine Cd.condT rfl rfl ?_|refine Cd.block ?_|refine Cd.condF rfl zp0 ?_|((fail_if_success refine Ops.probe rfl ?_);refine Ops.gT rfl rfl zp0 ?_)|((fail_if_success refine Ops.probe rfl ?_);refine Ops.gF rfl rfl zp0 ?_))
  exact ze5
 by_cases h4:(64:Int) < l.length
 ·repeat' (first|refine Cd.seq ?_|refine Cd.reg ?_|refine Ops.nil ?_|refine Ops.mv rfl rfl rfl rfl ?_|refine Ops.asg rfl rfl rfl rfl ?_|refine Ops.fa0 rfl rfl rfl rfl ?_|refine Ops.ld1 rfl rfl rfl rfl rfl ?_|refine Ops.lenS rfl rfl rfl rfl ?_|refine Ops.bin rfl rfl rfl rfl rfl ?_|refine Ops.pickF rfl rfl rfl rfl rfl ?_|refine Ops.box rfl rfl rfl rfl (noPd rfl) (fun b=>?_)|refine Cd.block ?_|refine Cd.condT rfl zp0 ?_|refine Cd.condF rfl zp0 ?_|((fail_if_success refine Ops.probe rfl ?_);refine Ops.gF rfl rfl zp0 ?_))
  exact ze5
 repeat' (first|refine Cd.seq ?_|refine Cd.reg ?_|refine Ops.nil ?_|refine Ops.mv rfl rfl rfl rfl ?_|refine Ops.asg rfl rfl rfl rfl ?_|refine Ops.fa0 rfl rfl rfl rfl ?_|refine Ops.ld1 rfl rfl rfl rfl rfl ?_|refine Ops.lenS rfl rfl rfl rfl ?_|refine Ops.bin rfl rfl rfl rfl rfl ?_|refine Ops.pickF rfl rfl rfl rfl rfl ?_|refine Ops.box rfl rfl rfl rfl (noPd rfl) (fun b=>?_)|refine Cd.block ?_|refine Cd.skip (Cd.next (Q':=fun _ _ _=>True) ?_)|refine Cd.condF rfl zp0 ?_|((fail_if_success refine Ops.probe rfl ?_);refine Ops.gF rfl rfl zp0 ?_))
 rename Nat=>pb
 refine Cd.loopK (σ:=Nat) (fun i=>i ≤ l.length) (fun i=>[(1,ptr pb),(28,.slice a l.length cp),(29,.int .i64 l.length),(30,.int .i64 i)]) (fun _=>[(pb,cl [.int .i64 fuel,.slice a l.length cp] 85)]) (fun i=>l.length - i) 0 (Nat.zero_le _) ⟨rfl,rfl,rfl,rfl,trivial⟩ (fun w h=>h.split) (fun i hi=>?_)
 by_cases hil:i < l.length
 ·have hil':(i:Int) < l.length:=by omega
  obtain ⟨x,hx⟩:∃ x,l[i]? = some x:=⟨_,List.getElem?_eq_getElem hil⟩
  have hxm:=List.mem_of_getElem? hx
  obtain ⟨b,off,hab,hrd⟩:=(hC.ext hB) i x.row (by rw [List.getElem?_map,hx];rfl)
  subst hab
  have hrw:∀ A j u,x.row[j]? = some u → Rd B.plain A b (off + (i:Int).toNat * 6 + j) u:=fun A j u hu=>by rw [Int.toNat_natCast];exact hrd A j u hu
  refine zg15 ?_
  refine Ops.ldRN (r:=x.row) rfl rfl rfl rfl (hrw _) rfl ?_
  repeat' (first|refine zs4 ?_|refine Ops.alloc rfl rfl rfl (noPd rfl) (fun b=>?_))
  refine zqA (wrong_spec x.op x.a x.b x.c x.n x.k l.length (hk x hxm)) fun v A' hR=>?_
  obtain ⟨⟨e,rfl⟩,rfl⟩:=hR
  by_cases he:e = 0
  ·refine zg13 ?_
   exact ze6
  ·refine zg2 ?_
   exact ze5
 ·have hil':¬ (i:Int) < l.length:=by omega
  refine zg2 ?_
  exact ze5
theorem rdNum_er {b:ByteArray} {most p:Nat} {e:Int} (h:b.size = 0):(rdNum b most p e).2.2 ≠ 0:=by
 unfold rdNum
 split
 ·assumption
 ·have hb:b[p]? = none:=(getElem?_eq_none_iff b p).2 (by show ¬ p < b.size;omega)
  have hn:numR b most 21 p = .bad 20:=by unfold numR numGo;rw [hb]
  rw [hn]
  show (20:Int) ≠ 0
  decide
theorem rdList_er {b:ByteArray} {most p:Nat} {e:Int} (h:b.size = 0):(rdList b most p e).2.2 ≠ 0:=by
 unfold rdList
 split
 ·assumption
 ·have hb:b[p]? = none:=(getElem?_eq_none_iff b p).2 (by show ¬ p < b.size;omega)
  have hn:numR b most 23 p = .bad 20:=by unfold numR numGo;rw [hb]
  rw [hn]
  show (20:Int) ≠ 0
  decide
theorem rdBits_er {b:ByteArray} {p:Nat} {e:Int} (h:b.size = 0):(rdBits b p e).2.2 ≠ 0:=by
 unfold rdBits
 split
 ·assumption
 ·rw [if_neg (by omega)];show (20:Int) ≠ 0;decide
structure RdS where
 q:Nat
 e:Int
def RdS.Ok (bs:ByteArray) (t:RdS):Prop:=t.q ≤ bs.size ∧ (bs.size = 0 → t.e ≠ 0)
theorem wnum (B0:Base) (rb:Nat) (bs:ByteArray) (hb:bs.size ≤ 1000000) (most:Nat) (hm:most ≤ 1024) (q:Nat) (e:Int) (hq:q ≤ bs.size) :
  ConB prog B0 81 #[ptr rb,.int .u64 most] [RdB rb bs q e] fun v A=>∃ (u:Nat) (t:RdS),v = .int .u64 u ∧ u ≤ most ∧ IntKind.wrap .i64 (u:Int) = (u:Int) ∧ t.Ok bs ∧ A = [RdB rb bs t.q t.e] :=
 (rnum_spec B0 rb bs q most e hq hb (by omega)).mono fun v A h=>by
  obtain ⟨rfl,rfl⟩:=h
  have:=rdNum_le (b:=bs) (most:=most) (p:=q) (e:=e)
  exact ⟨_,⟨_,_⟩,rfl,this,wrap_i64 (by omega),⟨rdNum_at hq,rdNum_er⟩,rfl⟩
theorem rdList_le {b:ByteArray} {most p:Nat} {e:Int}:(rdList b most p e).1 ≤ most:=by
 unfold rdList
 split
 ·exact Nat.zero_le _
 ·split
  ·exact Nat.zero_le _
  ·rename_i n q h
   exact numGo_le _ _ _ _ h
theorem wlist (B0:Base) (rb:Nat) (bs:ByteArray) (hb:bs.size ≤ 1000000) (most:Nat) (hm:most ≤ 1024) (q:Nat) (e:Int) (hq:q ≤ bs.size) :
  ConB prog B0 103 #[ptr rb,.int .i64 most] [RdB rb bs q e] fun v A=>∃ (u:Nat) (t:RdS),v = .int .i64 u ∧ u ≤ most ∧ t.Ok bs ∧ A = [RdB rb bs t.q t.e] :=
 (rlist_spec B0 rb bs q most e hq hb (by omega)).mono fun v A h=>by
  obtain ⟨rfl,rfl⟩:=h
  exact ⟨_,⟨_,_⟩,rfl,rdList_le,⟨rdList_at hq,rdList_er⟩,rfl⟩
theorem wbits (B0:Base) (rb:Nat) (bs:ByteArray) (hb:bs.size ≤ 1000000) (q:Nat) (e:Int) (hq:q ≤ bs.size) :
  ConB prog B0 104 #[ptr rb] [RdB rb bs q e] fun v A=>∃ (u:Nat) (t:RdS),v = .int .u64 u ∧ u < 18446744073709551616 ∧ t.Ok bs ∧ A = [RdB rb bs t.q t.e] :=
 (rbits_spec B0 rb bs q e hq hb).mono fun v A h=>by
  obtain ⟨rfl,rfl⟩:=h
  exact ⟨_,⟨_,_⟩,rfl,rdBits_lt _ _ _,⟨rdBits_at hq,rdBits_er⟩,rfl⟩
end Go.Proofs.YtkoelgkghijgiaaGreat
namespace Go.Proofs.YtkoelgkghijgiaaGreat
open Go Go.Sep Go.Proofs Go.Proofs.Tryz
set_option maxRecDepth 10000
set_option maxHeartbeats 40000000
set_option synthInstance.maxSize 2000
structure UpS where
 q:Nat
 e:Int
 i:Nat
 l:List Inz
 jv:Value
 JG:List Blk
structure UpJ where
 q:Nat
 e:Int
 j:Nat
 a:Int
 b:Int
 c:Int
structure UpN where
 q:Nat
 e:Int
 n:Int
theorem endF_er {b:ByteArray} {p:Nat} {e:Int} (h:e ≠ 0):(endF b p e).1 ≠ 0:=by
 unfold endF
 rw [if_neg (fun q=>h q.1)]
 unfold faultF
 rw [if_neg h]
 exact h
theorem unpack_spec (B0:Base) (p:ByteArray) (hp9:p.size < 9223372036854775808):UnpackW B0 p:=by
 unfold UnpackW
 refine zqJ (vs:=[_]) func68 ntmps68 fun B hB=>?_
 by_cases hsz:1024 < p.size
 ·have hsz':(1024:Int) < p.size:=by omega
  repeat' (first|refine zs5 ?_|refine Ops.alloc rfl rfl rfl (noPd rfl) (fun b=>?_))
  exact ze7
 have hsz':¬ (1024:Int) < p.size:=by omega
 have hb:p.size ≤ 1000000:=by omega
 repeat' (first|refine zs4 ?_|refine Ops.alloc rfl rfl rfl (noPd rfl) (fun b=>?_))
 rename Nat=>zb
 refine zqA (read_spec p) fun v A' hR=>?_
 obtain ⟨rb,rfl,rfl⟩:=hR
 refine zg0 ?_
 refine Ops.callB (wnum B0 rb p hb 1024 (by omega) 0 0 (Nat.zero_le _)) hB rfl (noPd rfl) rfl rfl rfl (fun v A' hR=>?_)
 obtain ⟨fu,t0,rfl,hfu,hfw,ht0,rfl⟩:=hR
 refine Ops.cvI rfl rfl rfl rfl ?_
 rw [hfw]
 repeat' (first|refine zs0 ?_|refine Ops.alloc rfl rfl rfl (noPd rfl) (fun b=>?_))
 rename Nat=>pb
 refine zqB (wlist B0 rb p hb 64 (by omega) t0.q t0.e ht0.1) hB fun v A' hR=>?_
 obtain ⟨n,t1,rfl,hn,ht1,rfl⟩:=hR
 refine zg1 ?_
 refine Cd.loopK (σ:=UpS) (fun t=>t.i ≤ n ∧ RdS.Ok p ⟨t.q,t.e⟩ ∧ Own 82 6 t.jv (t.l.map Inz.row) t.JG ∧ (∀ x ∈ t.l,x.Ok) ∧ t.l.length = t.i) (fun t=>[(0,.string p),(2,ptr zb),(4,ptr rb),(5,ptr pb),(25,.int .i64 n),(26,.int .i64 t.i)])
  (fun t=>(zb,cl [.int .i64 0,.slice none 0 0] 85) :: RdB rb p t.q t.e :: (pb,cl [.int .i64 fu,t.jv] 85) :: t.JG) (fun t=>n - t.i) ⟨t1.q,t1.e,0,[],.slice none 0 0,[]⟩ ⟨Nat.zero_le _,ht1,Own.none,(fun x hx=>by cases hx),rfl⟩ ⟨rfl,rfl,rfl,rfl,rfl,rfl,trivial⟩ (fun w h=>h.split) (fun t ht=>?_)
 obtain ⟨q,e,i,l,jv,JG⟩:=t
 obtain ⟨hi,hq,hO,hk,hl⟩:=ht
 dsimp only at hi hq hO hk hl ⊢
 obtain ⟨ja,jc,rfl⟩:=Own.form hO
 have hll:(l.map Inz.row).length = l.length:=List.length_map _
 rw [hll] at hO ⊢
 by_cases hin:i < n
 ·have hin':(i:Int) < n:=by omega
  have hq1:=hq.1
  dsimp only at hq1
  generalize hc8:Code.seq (Code.region 8 _ _) _ = c8
  refine zg2 ?_
  refine zqB (wnum B0 rb p hb 24 (by omega) q e hq1) hB fun v A' hR=>?_
  obtain ⟨op,t2,rfl,hop,hopw,ht2,rfl⟩:=hR
  refine Ops.cvI rfl rfl rfl rfl ?_
  rw [hopw]
  repeat' (first|refine zs0 ?_|refine Ops.alloc rfl rfl rfl (noPd rfl) (fun b=>?_))
  rename Nat=>xb
  subst hc8
  refine Cd.cut (σ:=Nat × Fm) (fun t=>0 ≤ t.2.n ∧ t.2.n ≤ 3) (fun t=>[(0,.string p),(2,ptr zb),(4,ptr rb),(5,ptr pb),(25,.int .i64 n),(26,.int .i64 i),(6,ptr xb),(7,ptr t.1)])
   (fun t=>(t.1,cl [.string t.2.w,.int .i64 t.2.n,.bool t.2.b1,.bool t.2.b2] 148) :: (xb,cl (insR op 0 0 0 0 0) 82) :: (zb,cl [.int .i64 0,.slice none 0 0] 85) :: RdB rb p t2.q t2.e :: (pb,cl [.int .i64 fu,.slice ja l.length jc] 85) :: JG) ?_ (fun t ht=>?_)
  ·refine zdr [qz 1,qy 2,(0,4,[2]),qz 3,qy 4,(5,2,[2,4]),(6,2,[])] ?_
   refine zg5 ?_
   refine Ops.fork' [(1,0,[]),(2,1,[]),(5,4,[2]),(0,2,[2]),(3,0,[]),(4,1,[]),(6,2,[])] (by kernel_rfl) rfl (by simp only [picked,nth];exact rfl) ?_ ?_
   ·skip
    refine Ops.call forms_spec rfl zp5 rfl rfl rfl (fun v A' hR=>?_)
    obtain ⟨g,rows,rfl,rfl,hf,hok⟩:=hR
    obtain ⟨f,hx,hf0,hf3⟩:=hf.at_ (i:=op) (by omega) (by omega)
    refine Ops.ixa0 rfl rfl rfl rfl (by omega) (by omega) rfl ?_
    refine Ops.ldRow rfl rfl rfl hok hx rfl ?_
    refine Ops.alloc rfl rfl rfl zp10 (fun fb=>?_)
    refine zg19 ?_
    exact ze8
   ·skip
    repeat' (first|refine Ops.alloc rfl rfl rfl zp3 (fun b=>?_))
    rename Nat=>fb
    refine Ops.call forms_spec rfl zp5 rfl rfl rfl (fun v A' hR=>?_)
    obtain ⟨g,rows,rfl,rfl,hf,hok⟩:=hR
    obtain ⟨f,hx,hf0,hf3⟩:=hf.at_ (i:=op) (by omega) (by omega)
    refine zg14 ?_
    exact ze8
  ·obtain ⟨fb,fw,fn,b1,b2⟩:=t
   dsimp only at ht ⊢
   obtain ⟨hf0,hf3⟩:=ht
   obtain ⟨m,rfl⟩:∃ m:Nat,fn = m:=⟨fn.toNat,by omega⟩
   have hm3:m ≤ 3:=by omega
   refine Cd.cut (σ:=UpJ) (fun t=>RdS.Ok p ⟨t.q,t.e⟩) (fun t=>[(0,.string p),(2,ptr zb),(4,ptr rb),(5,ptr pb),(25,.int .i64 n),(26,.int .i64 i),(6,ptr xb),(7,ptr fb)])
    (fun t=>(fb,cl [.string fw,.int .i64 m,.bool b1,.bool b2] 148) :: (xb,cl (insR op t.a t.b t.c 0 0) 82) :: (zb,cl [.int .i64 0,.slice none 0 0] 85) :: RdB rb p t.q t.e :: (pb,cl [.int .i64 fu,.slice ja l.length jc] 85) :: JG) ?_ (fun t ht=>?_)
   ·refine zg1 ?_
    refine Ops.bsN [[ptrAt xb 1],[ptrAt xb 2],[ptrAt xb 3]] rfl rfl rfl rfl rfl rfl rfl rfl rfl rfl (noPd rfl) (fun sb=>?_)
    refine zg16 ?_
    rw [Int.toNat_natCast]
    have hok:RowsOk 1 [[ptrAt xb 1],[ptrAt xb 2],[ptrAt xb 3]]:=List.forall_mem_cons.2 ⟨⟨rfl,rfl⟩,List.forall_mem_cons.2 ⟨⟨rfl,rfl⟩,List.forall_mem_cons.2 ⟨⟨rfl,rfl⟩,List.forall_mem_nil _⟩⟩⟩
    have hat:∀ j:Nat,j < 3 → ([[ptrAt xb 1],[ptrAt xb 2],[ptrAt xb 3]][((j:Nat):Int).toNat]? = some [ptrAt xb 1] ∨ [[ptrAt xb 1],[ptrAt xb 2],[ptrAt xb 3]][((j:Nat):Int).toNat]? = some [ptrAt xb 2] ∨ [[ptrAt xb 1],[ptrAt xb 2],[ptrAt xb 3]][((j:Nat):Int).toNat]? = some [ptrAt xb 3]):=fun j h3=>by
     obtain rfl|rfl|rfl:j = 0 ∨ j = 1 ∨ j = 2:=by omega
     ·exact .inl rfl
     ·exact .inr (.inl rfl)
     ·exact .inr (.inr rfl)
    generalize hrs:[[ptrAt xb 1],[ptrAt xb 2],[ptrAt xb 3]] = rs at hok hat ⊢
    refine Cd.loopK (σ:=UpJ) (fun t=>t.j ≤ m ∧ RdS.Ok p ⟨t.q,t.e⟩) (fun t=>[(0,.string p),(2,ptr zb),(4,ptr rb),(5,ptr pb),(25,.int .i64 n),(26,.int .i64 i),(6,ptr xb),(7,ptr fb),(43,.slice (some ⟨sb,0,none⟩) m 3),(44,.int .i64 m),(45,.int .i64 t.j)])
     (fun t=>(sb,cl (rs.flatten ++ []) 205) :: (fb,cl [.string fw,.int .i64 m,.bool b1,.bool b2] 148) :: (xb,cl (insR op t.a t.b t.c 0 0) 82) :: (zb,cl [.int .i64 0,.slice none 0 0] 85) :: RdB rb p t.q t.e :: (pb,cl [.int .i64 fu,.slice ja l.length jc] 85) :: JG) (fun t=>m - t.j) ⟨t2.q,t2.e,0,0,0,0⟩ ⟨Nat.zero_le _,ht2⟩ ⟨rfl,rfl,rfl,rfl,rfl,rfl,rfl,rfl,rfl,rfl,rfl,trivial⟩ (fun w h=>h.split) (fun t ht=>?_)
    obtain ⟨q3,e3,j,va,vb,vc⟩:=t
    obtain ⟨hj,hq3⟩:=ht
    dsimp only at hj hq3 ⊢
    have hq4:=hq3.1
    dsimp only at hq4
    by_cases hjm:j < m
    ·have hjm':(j:Int) < m:=by omega
     have hj0:(0:Int) ≤ (j:Int):=by omega
     rcases hat j (by omega) with hx|hx|hx
     ·refine zg14 ?_
      refine zqB (wnum B0 rb p hb 7 (by omega) q3 e3 hq4) hB fun v A' hR=>?_
      obtain ⟨u,t4,rfl,_,hw,ht4,rfl⟩:=hR
      refine Ops.cvI rfl rfl rfl rfl ?_
      rw [hw]
      refine zg9 ?_
      exact Ops.nilN (round_end (⟨t4.q,t4.e,j + 1,u,vb,vc⟩:UpJ) ⟨by show j + 1 ≤ m;omega,ht4⟩ (by show m - (j + 1) < m - j;omega) ⟨rfl,rfl,rfl,rfl,rfl,rfl,rfl,rfl,rfl,rfl,rfl,trivial⟩ (fun w h=>h.split))
     ·refine zg14 ?_
      refine zqB (wnum B0 rb p hb 7 (by omega) q3 e3 hq4) hB fun v A' hR=>?_
      obtain ⟨u,t4,rfl,_,hw,ht4,rfl⟩:=hR
      refine Ops.cvI rfl rfl rfl rfl ?_
      rw [hw]
      refine zg9 ?_
      exact Ops.nilN (round_end (⟨t4.q,t4.e,j + 1,va,u,vc⟩:UpJ) ⟨by show j + 1 ≤ m;omega,ht4⟩ (by show m - (j + 1) < m - j;omega) ⟨rfl,rfl,rfl,rfl,rfl,rfl,rfl,rfl,rfl,rfl,rfl,trivial⟩ (fun w h=>h.split))
     ·refine zg14 ?_
      refine zqB (wnum B0 rb p hb 7 (by omega) q3 e3 hq4) hB fun v A' hR=>?_
      obtain ⟨u,t4,rfl,_,hw,ht4,rfl⟩:=hR
      refine Ops.cvI rfl rfl rfl rfl ?_
      rw [hw]
      refine zg9 ?_
      exact Ops.nilN (round_end (⟨t4.q,t4.e,j + 1,va,vb,u⟩:UpJ) ⟨by show j + 1 ≤ m;omega,ht4⟩ (by show m - (j + 1) < m - j;omega) ⟨rfl,rfl,rfl,rfl,rfl,rfl,rfl,rfl,rfl,rfl,rfl,trivial⟩ (fun w h=>h.split))
    ·have hjm':¬ (j:Int) < m:=by omega
     refine zg2 ?_
     exact Cd.exit (inTx (roundX (inBs (meet_end (Q:=fun _ _ _=>True) (⟨q3,e3,j,va,vb,vc⟩:UpJ) hq3 ⟨rfl,rfl,rfl,rfl,rfl,rfl,rfl,rfl,trivial⟩ (fun w h=>h.split)))))
   ·obtain ⟨q3,e3,j,va,vb,vc⟩:=t
    dsimp only at ht ⊢
    have hq4:=ht.1
    dsimp only at hq4
    refine Cd.cut (σ:=UpN) (fun t=>RdS.Ok p ⟨t.q,t.e⟩) (fun t=>[(0,.string p),(2,ptr zb),(4,ptr rb),(5,ptr pb),(25,.int .i64 n),(26,.int .i64 i),(6,ptr xb),(7,ptr fb)])
     (fun t=>(fb,cl [.string fw,.int .i64 m,.bool b1,.bool b2] 148) :: (xb,cl (insR op va vb vc t.n 0) 82) :: (zb,cl [.int .i64 0,.slice none 0 0] 85) :: RdB rb p t.q t.e :: (pb,cl [.int .i64 fu,.slice ja l.length jc] 85) :: JG) ?_ (fun t ht=>?_)
    ·cases b1
     ·refine zg1 ?_
      exact Cd.skip (meet_end (Q:=fun _ _ _=>True) (⟨q3,e3,0⟩:UpN) ht ⟨rfl,rfl,rfl,rfl,rfl,rfl,rfl,rfl,trivial⟩ (fun w h=>h.split))
     ·refine zg1 ?_
      refine zqB (wnum B0 rb p hb 64 (by omega) q3 e3 hq4) hB fun v A' hR=>?_
      obtain ⟨u,t4,rfl,_,hw,ht4,rfl⟩:=hR
      refine Ops.cvI rfl rfl rfl rfl ?_
      rw [hw]
      refine zg5 ?_
      exact Ops.nilN (meet_end (Q:=fun _ _ _=>True) (⟨t4.q,t4.e,u⟩:UpN) ht4 ⟨rfl,rfl,rfl,rfl,rfl,rfl,rfl,rfl,trivial⟩ (fun w h=>h.split))
    ·obtain ⟨q5,e5,xn⟩:=t
     dsimp only at ht ⊢
     have hq6:=ht.1
     dsimp only at hq6
     refine Cd.cut (σ:=UpJ) (fun t=>RdS.Ok p ⟨t.q,t.e⟩ ∧ 0 ≤ t.a ∧ t.a < 18446744073709551616) (fun t=>[(0,.string p),(2,ptr zb),(4,ptr rb),(5,ptr pb),(25,.int .i64 n),(26,.int .i64 i),(6,ptr xb),(7,ptr fb)])
      (fun t=>(fb,cl [.string fw,.int .i64 m,.bool b1,.bool b2] 148) :: (xb,cl (insR op va vb vc xn t.a) 82) :: (zb,cl [.int .i64 0,.slice none 0 0] 85) :: RdB rb p t.q t.e :: (pb,cl [.int .i64 fu,.slice ja l.length jc] 85) :: JG) ?_ (fun t ht=>?_)
     ·cases b2
      ·refine zg1 ?_
       exact Cd.skip (meet_end (Q:=fun _ _ _=>True) (⟨q5,e5,0,0,0,0⟩:UpJ) ⟨ht,by show (0:Int) ≤ 0;omega,by show (0:Int) < 18446744073709551616;omega⟩ ⟨rfl,rfl,rfl,rfl,rfl,rfl,rfl,rfl,trivial⟩ (fun w h=>h.split))
      ·refine zg1 ?_
       refine zqB (wbits B0 rb p hb q5 e5 hq6) hB fun v A' hR=>?_
       obtain ⟨u,t4,rfl,hu,ht4,rfl⟩:=hR
       refine zg5 ?_
       exact Ops.nilN (meet_end (Q:=fun _ _ _=>True) (⟨t4.q,t4.e,0,u,0,0⟩:UpJ) ⟨ht4,by show (0:Int) ≤ (u:Int);omega,by show (u:Int) < 18446744073709551616;omega⟩ ⟨rfl,rfl,rfl,rfl,rfl,rfl,rfl,rfl,trivial⟩ (fun w h=>h.split))
     ·obtain ⟨q7,e7,_,xk,_,_⟩:=t
      dsimp only at ht ⊢
      obtain ⟨hq8,hk0,hk1⟩:=ht
      repeat' (first|refine zs3 ?_|refine Ops.bs1 rfl rfl rfl rfl rfl rfl rfl (noPd rfl) (fun b=>?_))
      refine Ops.app1 (rows:=l.map Inz.row) hO (by rw [hll];omega) (by rw [hll];omega) rfl rfl rfl rfl (by rfl) (by rfl) rfl (noPd rfl) rfl (fun v G' hG'=>?_)
      have hG2:Own 82 6 v ((l ++ [(⟨op,va,vb,vc,xn,xk⟩:Inz)]).map Inz.row) G':=by rw [List.map_append];exact hG'
      clear hG'
      obtain ⟨ja2,jc2,rfl⟩:=Own.form hG2
      refine zg9 ?_
      refine Ops.nilN (round_end (⟨q7,e7,i + 1,l ++ [(⟨op,va,vb,vc,xn,xk⟩:Inz)],_,G'⟩:UpS) ⟨by show i + 1 ≤ n;omega,hq8,hG2,?_,by simp [hl]⟩ (by show n - (i + 1) < n - i;omega) ⟨rfl,rfl,rfl,rfl,rfl,rfl,trivial⟩ (fun w h=>h.split))
      intro x hx
      rcases List.mem_append.1 hx with hx|hx
      ·exact hk x hx
      ·rw [List.mem_singleton] at hx;subst hx;exact ⟨hk0,hk1⟩
 ·have hin':¬ (i:Int) < n:=by omega
  have hq1:=hq.1
  dsimp only at hq1
  refine zg2 ?_
  refine zqA (end_spec rb p q e) fun v A' hR=>?_
  obtain ⟨rfl,rfl⟩:=hR
  generalize hef:(endF p q e).1 = ef
  generalize (endF p q e).2 = eg
  have hef0:p.size = 0 → ef ≠ 0:=fun h=>hef ▸ endF_er (hq.2 h)
  refine zg4 ?_
  have hck:=ConB.lend (P:=prog) (B1:=B0) (G:=JG) (A1:=[]) fun B1 e hG=>pcheck_spec B1 fu ja jc l (Own.rin hO hG) hk
  refine Ops.callB hck hB rfl (noPd rfl) rfl rfl rfl (fun v A' hR=>?_)
  obtain ⟨A2,⟨⟨ce,ci,rfl⟩,rfl⟩,rfl⟩:=hR
  by_cases hc0:ce = 0
  ·by_cases he0:ef = 0
   ·refine zg8 ?_
    exact Cd.ret (ret2 (A':=[]) rfl (Res.cellN rfl) (Res.tmp rfl) (fun _ h=>h.split) ⟨_,_,_,_,_,rfl,fun _=>⟨by have:=fun h=>hef0 h he0;omega,by omega⟩⟩)
   ·refine zg8 ?_
    exact ze7
  ·refine zg7 ?_
   exact ze7
end Go.Proofs.YtkoelgkghijgiaaGreat
namespace Go.Proofs.YtkoelgkghijgiaaGreat.Sw
open Go Go.Sep Go.Proofs
set_option maxRecDepth 10000
end Go.Proofs.YtkoelgkghijgiaaGreat.Sw
namespace Go.Proofs.YtkoelgkghijgiaaGreat.Se
open Go Go.Sep Go.Proofs
end Go.Proofs.YtkoelgkghijgiaaGreat.Se
namespace Go.Proofs.YtkoelgkghijgiaaGreat
open Go Go.Sep Go.Proofs
set_option maxRecDepth 10000
theorem Se.putRow_len (rs:List Se.Dk) (slot:Int) (n:Option Se.Dk):(Se.putRow rs slot n).length = rs.length:=by
 cases n with
 | none=>rfl
 | some r=>exact List.length_set
theorem HearR.rsl {c:Cf} {o o1:Co} {node life:Int} {data rp:ByteArray} (h:HearR c o node life data rp o1):o1.rs.length = o.rs.length:=by
 unfold HearR at h
 split at h
 ·rw [h.2]
 ·split at h
  ·rw [h.2]
   unfold helloO
   split
   ·exact Se.putRow_len _ _ _
   ·rfl
  ·split at h
   ·rcases h with ⟨_,_,rfl⟩|⟨_,_,_,_,_,_,_,_,_,rfl⟩
    ·rfl
    ·rfl
   ·rcases h with ⟨_,rfl,_⟩|⟨_,_,_,_,_,rfl⟩
    ·rfl
    ·exact Se.putRow_len _ _ _
end Go.Proofs.YtkoelgkghijgiaaGreat
namespace Go.Proofs.YtkoelgkghijgiaaGreat.Se
open Go Go.Sep Go.Proofs Go.Proofs.Tryz
set_option maxRecDepth 10000
set_option maxHeartbeats 40000000
set_option synthInstance.maxSize 2000
theorem same13 (v1 v2:Value) (l:List Dk) (G1 G2:List Blk) (h1:OwnK v1 l G1) (h2:OwnK v2 l G2) (hlen:l.length ≤ 1000) :
  Con prog 18 #[v1,v2] (G1 ++ G2) fun v A=>v = .bool true ∧ A = G1 ++ G2:=by
 obtain ⟨a1,c1,rfl⟩:=h1.form
 obtain ⟨a2,c2,rfl⟩:=h2.form
 refine zqI (vs:=[_,_]) func18 ntmps18 fun B=>?_
 refine zg2 ?_
 refine Cd.loopK (fun i:Nat=>i ≤ l.length) (fun i=>[(0,.slice a1 l.length c1),(1,.slice a2 l.length c2),(5,.int .i64 i)]) (fun _=>G1 ++ G2) (fun i=>l.length - i) 0 (Nat.zero_le _) ⟨rfl,rfl,rfl,trivial⟩ (fun w h=>h) (fun i hi=>?_)
 by_cases hil:i < l.length
 ·have hil':(i:Int) < l.length:=by omega
  obtain ⟨x,hx⟩:∃ x,l[i]? = some x:=⟨_,List.getElem?_eq_getElem hil⟩
  have hxr:(dks l)[(i:Int).toNat]? = some x.row:=map_at hx
  have hk:=dks_ok l
  obtain ⟨g1,d1,sp1,e1,rfl,_,_⟩:=h1.some_ (by omega)
  obtain ⟨g2,d2,sp2,e2,rfl,_,_⟩:=h2.some_ (by omega)
  injection e1 with q1 q2 q3
  injection e2 with q4 q5 q6
  subst q1;subst q3;subst q4;subst q6
  clear q2 q5
  refine zg2 ?_
  refine zdr [qz 0,qz 1,qz 2,qy 3,qz 4,qz 5,qz 6,qy 7,qz 8] ?_
  refine zg14 ?_
  exact ze11
 ·refine zg2 ?_
  exact ze12
end Go.Proofs.YtkoelgkghijgiaaGreat.Se
namespace Go.Proofs.YtkoelgkghijgiaaGreat.Ls
open Go Go.Sep Go.Proofs Go.Proofs.Tryz
set_option maxRecDepth 10000
set_option maxHeartbeats 40000000
set_option synthInstance.maxSize 2000
end Go.Proofs.YtkoelgkghijgiaaGreat.Ls
namespace Go.Proofs.YtkoelgkghijgiaaGreat
open Go Go.Sep Go.Proofs Go.Proofs.Tryz
set_option maxRecDepth 10000
set_option maxHeartbeats 40000000
set_option synthInstance.maxSize 2000
end Go.Proofs.YtkoelgkghijgiaaGreat
namespace Go.Proofs.YtkoelgkghijgiaaGreat
open Go Go.Sep Go.Proofs Go.Proofs.Tryz
set_option maxRecDepth 10000
set_option maxHeartbeats 40000000
set_option synthInstance.maxSize 2000
theorem sameT_spec (B0:Base) (a1 a2:Option Addr) (c1 c2:Nat) (l:List ByteArray) (h1:SIn B0 a1 l) (h2:SIn B0 a2 l) (hl:l.length ≤ 2000000) :
  ConB prog B0 24 #[.slice a1 l.length c1,.slice a2 l.length c2] [] fun v A=>v = .bool true ∧ A = []:=by
 refine zqJ (vs:=[_,_]) func24 ntmps24 fun B hB=>?_
 refine zg2 ?_
 refine Cd.loopK (σ:=Nat) (fun i=>i ≤ l.length) (fun i=>[(0,.slice a1 l.length c1),(1,.slice a2 l.length c2),(5,.int .i64 i)]) (fun _=>[]) (fun i=>l.length - i) 0 (Nat.zero_le _) ⟨rfl,rfl,rfl,trivial⟩ (fun w h=>h.split) (fun i hi=>?_)
 by_cases hil:i < l.length
 ·have hil':(i:Int) < l.length:=by omega
  obtain ⟨s,hs⟩:∃ s,l[i]? = some s:=⟨_,List.getElem?_eq_getElem hil⟩
  obtain ⟨b1,o1,rfl,hr1⟩:=(h1.ext hB) i s hs
  obtain ⟨b2,o2,rfl,hr2⟩:=(h2.ext hB) i s hs
  have hq1:∀ A,Rd B.plain A b1 (o1 + (i:Int).toNat * 1) (.string s):=fun A=>by rw [Int.toNat_natCast];exact hr1 A
  have hq2:∀ A,Rd B.plain A b2 (o2 + (i:Int).toNat * 1) (.string s):=fun A=>by rw [Int.toNat_natCast];exact hr2 A
  clear hr1 hr2
  refine zg2 ?_
  refine zdr [qz 0,qz 1,qz 2,qy 3,qz 4,qz 5,qz 6,qy 7,qz 8] ?_
  refine zg15 ?_
  refine Ops.ldR rfl rfl rfl (hq1 _) rfl ?_
  refine zg15 ?_
  refine Ops.ldR rfl rfl rfl (hq2 _) rfl ?_
  refine zg13 ?_
  exact Ops.nilN (round_end (i + 1:Nat) (by show i + 1 ≤ l.length;omega) zp15 ⟨rfl,rfl,rfl,trivial⟩ (fun w h=>h.split))
 ·have hil':¬ (i:Int) < l.length:=by omega
  refine zg2 ?_
  exact ze9
theorem sameP_spec (B0:Base) (r:Rw) (p:ByteArray) (x1 x2:Lg) (h1:SIn B0 x1.a x1.txs) (h2:SIn B0 x2.a x2.txs) (he:x2.txs = x1.txs) (hl:x1.txs.length ≤ 2000000) :
  ConB prog B0 54 #[.agg (Pl.row ⟨r,p,x1⟩).toArray,.agg (Pl.row ⟨r,p,x2⟩).toArray] [] fun v A=>v = .bool true ∧ A = []:=by
 have hs:=sameT_spec B0 x1.a x2.a x1.c x2.c x1.txs h1 (he ▸ h2) hl
 refine zqJ (vs:=[_,_]) func54 ntmps54 fun B hB=>?_
 obtain ⟨a2,c2,t2,G2⟩:=x2
 dsimp only at he
 subst he
 repeat' (first|refine zs3 ?_|refine Ops.box rfl rfl rfl rfl (noPd rfl) (fun b=>?_))
 refine Ops.callB hs hB rfl (noPd rfl) rfl rfl rfl (fun v A' hR=>?_)
 obtain ⟨rfl,rfl⟩:=hR
 refine zg6 ?_
 exact ze9
def ViewIn (B:Base) (v:Value) (s:StP):Prop :=
 ∃ (a:Option Addr) (ps:List Pl),v = .agg [.int .i64 s.res,.slice a s.rows.length s.rows.length].toArray ∧ RIn 10 B a (ps.map Pl.row) ∧ (∀ p ∈ ps,SIn B p.l.a p.l.txs) ∧ ps.map Pl.pure = viewL s
theorem RsT.sin {a:Option Addr} {n c:Nat} {l:List ByteArray} {G:List Blk} (h:RsT (.slice a n c) l G) {B:Base} (hG:Holds B G):SIn B a l:=fun i s hs=>by
 obtain ⟨b,off,ha,h5⟩:=(Rs.rin h hG) i (trow s) (by rw [List.getElem?_map,hs];rfl)
 exact ⟨b,off,ha,fun A=>h5 A 0 _ rfl⟩
theorem ViewA.in_ {v:Value} {s:StP} {A:List Blk} (h:ViewA v s A) {B:Base} (hB:Holds B A):ViewIn B v s:=by
 obtain ⟨a,ps,JG,rfl,rfl,h1,h2,h3⟩:=h
 exact ⟨a,ps,rfl,Rs.rin h1 (hB.sub fun p hp=>List.mem_append_left _ hp),fun p hp=>(h2 p hp).sin (hB.sub fun q hq=>List.mem_append_right _ (List.mem_flatMap.2 ⟨p,hp,hq⟩)),h3⟩
theorem same_in (B0:Base) (v1 v2:Value) (s:StP) (ok:StOk s) (h1:ViewIn B0 v1 s) (h2:ViewIn B0 v2 s) :
  ConB prog B0 17 #[v1,v2] [] fun v A=>v = .bool true ∧ A = []:=by
 obtain ⟨a1,ps1,rfl,hr1,ht1,hp1⟩:=h1
 obtain ⟨a2,ps2,rfl,hr2,ht2,hp2⟩:=h2
 have hvl:(viewL s).length = s.rows.length:=by have:=ok.np;have:=ok.nl;simp [viewL];omega
 have hn8:=ok.nr
 have hlg:∀ x ∈ viewL s,x.2.2.length ≤ 2000000:=fun x hx=>by
  have h1:=(List.of_mem_zip hx).2
  have h2:=ok.lg x.2.2 (List.of_mem_zip h1).2
  omega
 refine zqJ (vs:=[_,_]) func17 ntmps17 fun B hB=>?_
 generalize s.rows.length = n at hvl hn8 ⊢
 repeat' (first|refine Cd.seq ?_|refine Cd.reg ?_|refine Ops.nil ?_|refine Ops.mv rfl rfl rfl rfl ?_|refine Ops.asg rfl rfl rfl rfl ?_|refine Ops.fa0 rfl rfl rfl rfl ?_|refine Ops.ld1 rfl rfl rfl rfl rfl ?_|refine Ops.lenS rfl rfl rfl rfl ?_|refine Ops.bin rfl rfl rfl rfl rfl ?_|refine Ops.pickF rfl rfl rfl rfl rfl ?_|refine Ops.box rfl rfl rfl rfl (noPd rfl) (fun b=>?_)|refine Cd.block ?_|refine Cd.skip (Cd.next ?_)|refine Cd.condF rfl zp0 ?_|((fail_if_success refine Ops.probe rfl ?_);refine Ops.gF rfl rfl zp0 ?_))
 rename_i v2
 rename Nat=>v3
 refine Cd.loopK (σ:=Nat) (fun i=>i ≤ n) (fun i=>[(2,ptr v2),(3,ptr v3),(5,.int .i64 i)]) (fun _=>[(v2,cl [.int .i64 s.res,.slice a1 n n] 49),(v3,cl [.int .i64 s.res,.slice a2 n n] 49)]) (fun i=>n - i) 0 (Nat.zero_le _) ⟨rfl,rfl,rfl,trivial⟩ (fun w h=>h.split) (fun i hi=>?_)
 by_cases hil:i < n
 ·have hil':(i:Int) < n:=by omega
  obtain ⟨x,hx⟩:∃ x,(viewL s)[i]? = some x:=⟨_,List.getElem?_eq_getElem (by omega)⟩
  have hxl:=hlg x (List.mem_of_getElem? hx)
  obtain ⟨p1,hp1,he1⟩:∃ p,ps1[i]? = some p ∧ p.pure = x:=by
   rw [← hp1,List.getElem?_map] at hx
   cases hl:ps1[i]? with
   | none=>rw [hl] at hx;cases hx
   | some p=>rw [hl] at hx;injection hx with hx;exact ⟨p,rfl,hx⟩
  obtain ⟨p2,hp2,he2⟩:∃ p,ps2[i]? = some p ∧ p.pure = x:=by
   rw [← hp2,List.getElem?_map] at hx
   cases hl:ps2[i]? with
   | none=>rw [hl] at hx;cases hx
   | some p=>rw [hl] at hx;injection hx with hx;exact ⟨p,rfl,hx⟩
  have hm1:=ht1 p1 (List.mem_of_getElem? hp1)
  have hm2:=ht2 p2 (List.mem_of_getElem? hp2)
  obtain ⟨b1,o1,rfl,hq1⟩:=(hr1.ext hB) i p1.row (by rw [List.getElem?_map,hp1];rfl)
  obtain ⟨b2,o2,rfl,hq2⟩:=(hr2.ext hB) i p2.row (by rw [List.getElem?_map,hp2];rfl)
  obtain ⟨r1,g1,x1⟩:=p1
  obtain ⟨r2,g2,x2⟩:=p2
  subst he1
  injection he2 with e1 e2
  injection e2 with e2 e3
  dsimp only at e1 e2 e3 hm1 hm2 hxl
  subst e1;subst e2
  have hw1:∀ A j u,(Pl.row ⟨r2,g2,x1⟩)[j]? = some u → Rd B.plain A b1 (o1 + (i:Int).toNat * 10 + j) u:=fun A j u hu=>by rw [Int.toNat_natCast];exact hq1 A j u hu
  have hw2:∀ A j u,(Pl.row ⟨r2,g2,x2⟩)[j]? = some u → Rd B.plain A b2 (o2 + (i:Int).toNat * 10 + j) u:=fun A j u hu=>by rw [Int.toNat_natCast];exact hq2 A j u hu
  clear hq1 hq2
  refine zg15 ?_
  refine zdr [qz 0,qy 1,qz 2,qz 3,qy 4,qz 5,qy 6,qz 7,qz 8,qy 9,(10,2,[]),qz 11] ?_
  refine zg15 ?_
  refine Ops.ldRN (r:=Pl.row ⟨r2,g2,x1⟩) rfl rfl rfl rfl (hw1 _) rfl ?_
  refine zg15 ?_
  refine Ops.ldRN (r:=Pl.row ⟨r2,g2,x2⟩) rfl rfl rfl rfl (hw2 _) rfl ?_
  refine zqB (sameP_spec B0 r2 g2 x1 x2 hm1 hm2 e3 hxl) hB fun v A' hR=>?_
  obtain ⟨rfl,rfl⟩:=hR
  refine zg13 ?_
  exact Ops.nilN (round_end (i + 1:Nat) (by show i + 1 ≤ n;omega) (by show n - (i + 1) < n - i;omega) ⟨rfl,rfl,rfl,trivial⟩ (fun w h=>h.split))
 ·have hil':¬ (i:Int) < n:=by omega
  refine zg13 ?_
  exact ze9
theorem same_spec (B0:Base) (v1 v2:Value) (s:StP) (ok:StOk s) (V1 V2:List Blk) (h1:ViewA v1 s V1) (h2:ViewA v2 s V2) :
  ConB prog B0 17 #[v1,v2] (V1 ++ V2) fun v A=>v = .bool true ∧ A = V1 ++ V2:=by
 have hl:=ConB.lend (P:=prog) (B1:=B0) (G:=V1 ++ V2) (A1:=[]) fun B1 e hG=>same_in B1 v1 v2 s ok (h1.in_ (hG.sub fun p hp=>List.mem_append_left _ hp)) (h2.in_ (hG.sub fun p hp=>List.mem_append_right _ hp))
 refine (hl.permIn (List.Perm.refl _)).mono fun v A hR=>?_
 obtain ⟨A2,⟨rfl,rfl⟩,rfl⟩:=hR
 exact ⟨rfl,rfl⟩
end Go.Proofs.YtkoelgkghijgiaaGreat
namespace Go.Proofs.YtkoelgkghijgiaaGreat.Bk
open Go Go.Sep Go.Proofs
open Go.ChangeShapes Go.WideShapes Go.ChangeAt Go.RowKit
theorem bulk_pos {H:Type} (d:DataW H):1 ≤ Rows.uptoBulk d:=by
 cases d with
 | lit l=>cases l <;> simp [Rows.uptoBulk]
 | _=>simp [Rows.uptoBulk]
theorem bulk_len {H:Type}:∀ (l:List (DataW H)),l.length ≤ Rows.uptoBulkAll l
 | []=>by simp [Rows.uptoBulkAll]
 | x :: r=>by have h1:=bulk_pos x;have h2:=bulk_len r;simp only [Rows.uptoBulkAll,List.length_cons];omega
theorem bulk_aggs {H:Type} {k:Nat}:∀ (l:List (DataW H)),(∀ y ∈ l,∃ parts:List (DataW H),y = .agg parts ∧ parts.length = k) → (k + 1) * l.length ≤ Rows.uptoBulkAll l
 | [],_=>by simp [Rows.uptoBulkAll]
 | x :: r,h=>by
  obtain ⟨parts,rfl,hp⟩:=h x (List.mem_cons_self ..)
  have h1:=bulk_len parts
  have h2:=bulk_aggs r fun y hy=>h y (List.mem_cons_of_mem _ hy)
  simp only [Rows.uptoBulkAll,Rows.uptoBulk,List.length_cons,Nat.mul_add]
  omega
theorem el_aggs {H:Type} {enc:TypeId × Value → H} {P:Program} {w:World} {base:Nat} {spare:Nat → Bool} {held:Bool} {t e:TypeId} {fuel:Nat} {x:DataW H × List MemPlace} {a:Option Addr} {len cap:Nat} {fs:Array Field}
  (ht:P.underlying t = some (.slice e)) (he:P.underlying e = some (.struct fs)) (h:DataW.trod enc P w base spare held fuel t [.slice a len cap] = some x) :
  ∀ el sp,x.1 = .slice el sp → ∀ y ∈ el,∃ parts:List (DataW H),y = .agg parts ∧ parts.length = fs.size:=by
 rcases Go.Deep.open_slice ht h with ⟨_,rfl⟩|⟨a',len',cap',m,n,D,Pl,_,_,hl,_,hmm,rfl,hi⟩
 ·intro el sp e;cases e
 ·intro el sp e y hy
  injection e with e1 _
  subst e1
  obtain ⟨i,hir,rfl⟩:=List.mem_map.1 hy
  have hil:=List.mem_range.1 hir
  obtain ⟨cs',_,htr⟩:=hi i (by rw [hmm];split <;> omega)
  obtain ⟨xs,n',_,hx,_,hlen,_⟩:=DataW.trod_struct he htr
  injection hx with hx _
  exact ⟨_,hx,by rw [List.length_map];simpa using hlen⟩
end Go.Proofs.YtkoelgkghijgiaaGreat.Bk
namespace Go.Proofs.YtkoelgkghijgiaaGreat
open Go Go.Sep Go.Proofs Go.Proofs.Tryz
set_option maxRecDepth 10000
set_option maxHeartbeats 40000000
set_option synthInstance.maxSize 2000
def ScrIn (B:Base) (a:Option Addr) (len:Nat) (ops:List LOp):Prop:=ops.length = len ∧ ∀ (i:Nat) (o:LOp),ops[i]? = some o → o.Ok ∧ ∃ b off,a = some ⟨b,off,none⟩ ∧ ∀ (A:List Blk) (j:Nat) (u:Value),o.row[j]? = some u → Rd B A b (off + i * 18 + j) u
theorem CoP.on {xb db:Nat} {c:Cf} {n:Nat} {o:Co} {A:List Blk} (h:CoP xb db c n o A):CoP xb db c (n + 1) o A:=by
 obtain ⟨A1,hp,hA⟩:=h
 exact ⟨A1,hp,hA.later⟩
theorem enc_sz {m:Ms} (hx:0 ≤ m.rbits ∧ m.rbits < 18446744073709551616):(encF m).1.size ≤ 2048:=Decidable.by_contra fun q=>by
 by_cases hw:wcheckF m = 0
 ·have h:=dec_enc hw hx
  unfold decF at h
  rw [if_pos (by omega)] at h
  injection h with _ h
  cases h
 ·rw [enc_bad hw] at q
  exact q (Nat.zero_le _)
def DoesR (c:Cf) (o:Co) (p:LOp) (o1:Co):Prop :=
 (p.kind = 0 ∧ ∃ e,o1 = submitO c o p.s e) ∨ (p.kind = 1 ∧ ∃ reply,HearR c o p.node p.life (encF p.m).1 reply o1) ∨ (p.kind = 2 ∧ ∃ reply,HearR c o p.node p.life p.s reply o1) ∨ (¬ (p.kind = 0 ∨ p.kind = 1 ∨ p.kind = 2) ∧ o1 = o.tick c)
theorem DoesR.rsl {c:Cf} {o o1:Co} {p:LOp} (h:DoesR c o p o1):o1.rs.length = o.rs.length:=by
 rcases h with ⟨_,e,rfl⟩|⟨_,r,h⟩|⟨_,r,h⟩|⟨_,rfl⟩
 ·rw [submitO_rs]
 ·exact h.rsl
 ·exact h.rsl
 ·rfl
theorem DoesR.slotI {c:Cf} {o o1:Co} {p:LOp} (h:DoesR c o p o1) (hs:SlotI o.rs):SlotI o1.rs:=by
 rcases h with ⟨_,e,rfl⟩|⟨_,r,h⟩|⟨_,r,h⟩|⟨_,rfl⟩
 ·rw [submitO_rs];exact hs
 ·exact h.slotI hs
 ·exact h.slotI hs
 ·exact hs
theorem does2_spec (B0:Base) (xb db:Nat) (c:Cf) (hc:CfOk c) (len n:Nat) (hlen:20480 ≤ roomF len) (hn:n ≤ 2000000) (o:Co) (h:CoOk c len n o) (A:List Blk) (hA:CoP xb db c n o A) (p:LOp) (hp:p.Ok) :
  ConB prog B0 11 #[ptr xb,.agg p.row.toArray] A fun v A'=>(∃ b:Bool,v = .bool b) ∧ ∃ o1,CoOk c len (n + 1) o1 ∧ DoesR c o p o1 ∧ CoP xb db c (n + 1) o1 A':=by
 refine zqJ (vs:=[_,_]) func11 ntmps11 fun B hB=>?_
 by_cases k0:p.kind = 0
 ·repeat' (first|refine zs5 ?_|refine Ops.box rfl rfl rfl rfl (noPd rfl) (fun b=>?_))
  refine zqB (co_submit B0 xb db c hc len n hlen hn o h A hA p.s (unpack_spec B0 p.s hp.s)) hB fun v A' hR=>?_
  obtain ⟨bad,job,rfl,hb2,e,he,hP⟩:=hR
  refine zg3 ?_
  exact Cd.ret (ret1 (A':=A') rfl (Res.tmp rfl) (fun _ h=>h.split) ⟨⟨_,rfl⟩,_,(h.submit hc hlen hn he).1,.inl ⟨k0,e,rfl⟩,hP⟩)
 by_cases k1:p.kind = 1
 ·have hsz:=enc_sz hp.x
  repeat' (first|refine zs5 ?_|refine Ops.box rfl rfl rfl rfl (noPd rfl) (fun b=>?_))
  refine zqA (encode7_is p.m hp.x) fun v A' hR=>?_
  obtain ⟨rfl,rfl⟩:=hR
  refine zg4 ?_
  refine zqB (co_hear B0 xb db c hc len n hlen hn o h A hA p.node p.life (encF p.m).1 (by omega)) hB fun v A' hR=>?_
  obtain ⟨reply,o1,said,J,A1,rfl,hH,hP,_,rfl⟩:=hR
  refine zg3 ?_
  exact Cd.ret (ret1 (A':=A1) rfl (Res.tmp rfl) (fun _ h=>h.split) ⟨⟨_,rfl⟩,o1,(h.hear hc hlen hn hH).1,.inr (.inl ⟨k1,reply,hH⟩),hP⟩)
 by_cases k2:p.kind = 2
 ·repeat' (first|refine zs5 ?_|refine Ops.box rfl rfl rfl rfl (noPd rfl) (fun b=>?_))
  refine zqB (co_hear B0 xb db c hc len n hlen hn o h A hA p.node p.life p.s hp.s) hB fun v A' hR=>?_
  obtain ⟨reply,o1,said,J,A1,rfl,hH,hP,_,rfl⟩:=hR
  refine zg3 ?_
  exact Cd.ret (ret1 (A':=A1) rfl (Res.tmp rfl) (fun _ h=>h.split) ⟨⟨_,rfl⟩,o1,(h.hear hc hlen hn hH).1,.inr (.inr (.inl ⟨k2,reply,hH⟩)),hP⟩)
 ·obtain ⟨A0,hp1,hA0⟩:=hA
  have ht:=(co_tick B0 xb db c hc len n hlen hn o h A0 hA0).permIn hp1
  obtain ⟨g1,g2⟩:=h.tick hc hlen hn
  repeat' (first|refine zs5 ?_|refine Ops.box rfl rfl rfl rfl (noPd rfl) (fun b=>?_))
  refine Ops.callB ht hB rfl (noPd rfl) rfl rfl rfl (fun v A' hR=>?_)
  obtain ⟨rfl,hP⟩:=hR
  refine zg3 ?_
  exact Cd.ret (ret1 (A':=A') rfl (Res.tmp rfl) (fun _ h=>h.split) ⟨⟨_,rfl⟩,_,g1,.inr (.inr (.inr ⟨fun q=>by rcases q with q|q|q;exact k0 q;exact k1 q;exact k2 q,rfl⟩)),hP.p⟩)
end Go.Proofs.YtkoelgkghijgiaaGreat
