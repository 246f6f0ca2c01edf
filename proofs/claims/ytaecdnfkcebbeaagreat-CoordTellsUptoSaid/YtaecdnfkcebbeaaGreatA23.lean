import Derived.Test.YtaecdnfkcebbeaaGreatA01
import Derived.Test.YtaecdnfkcebbeaaGreatA22
set_option linter.unusedVariables false
set_option linter.unusedSimpArgs false
namespace Go.Proofs.YtaecdnfkcebbeaaGreat
open Go Go.Sep Go.Proofs
set_option maxRecDepth 10000
set_option maxHeartbeats 40000000
set_option synthInstance.maxSize 2000
abbrev fS:Fd:=.whole .session 1 1099511627776
abbrev fN:Fd:=.whole .number 1 1099511627776
abbrev fJ:Fd:=.whole .job 1 8
abbrev fB:Fd:=.whole .badge 1 1099511627776
abbrev fI (n:Int):Fd:=.whole .index 0 n
abbrev fC (n:Int):Fd:=.whole .count 0 n
abbrev fL:Fd:=.text .text 0 32
abbrev fP:Fd:=.text .prog 1 1024
def fieldsF (kind:Int):List Fd:=if kind = 3 then [fS,fN,fB] else if kind = 4 then [fS,fN,fB,fC 32,.result] else if kind = 5 then [fB,fI 31,fL] else if kind = 6 then [fJ,fB,fI 16,fL] else if kind = 7 then [fS] else if kind = 9 then [fS,fN,fJ,fB,fP] else if kind = 14 then [fB,fC 32] else if kind = 15 then [fJ,fB,fC 17] else if kind = 16 then [fJ,fB] else if kind = 1 then [] else [fS,fN]
inductive FdsA:List Fd → List (List Value) → List Blk → Prop where
 | nil:FdsA [] [] []
 | cons {fd:Fd} {fds:List Fd} {v1 v2 v3:Value} {rows:List (List Value)} {G H:List Blk}:FdA fd v1 v2 v3 G → FdsA fds rows H → FdsA (fd :: fds) ([v1,v2,v3] :: rows) (G ++ H)
def FdsR (fds:List Fd) (v:Value) (A:List Blk):Prop:=(fds = [] ∧ v = .slice none 0 0 ∧ A = []) ∨ (∃ b rows G,v = .slice (some ⟨b,0,none⟩) fds.length fds.length ∧ A = (b,cl (rows.flatten ++ []) 169) :: G ∧ FdsA fds rows G)
theorem fields_spec (kind:Int):Con Tryz.prog 88 #[.int .i64 kind] [] fun v A=>FdsR (fieldsF kind) v A:=by
 refine Con.intro (vs:=[_]) Tryz.func88 rfl Tryz.ntmps88 rfl (fun B=>?_)
 haveI:SelOk 140 Wh.session.off:=(inferInstance:SelOk 140 1)
 haveI:SelOk 141 Wh.number.off:=(inferInstance:SelOk 141 2)
 haveI:SelOk 142 Wh.job.off:=(inferInstance:SelOk 142 3)
 haveI:SelOk 143 Wh.badge.off:=(inferInstance:SelOk 143 4)
 haveI:SelOk 149 Th.text.off:=(inferInstance:SelOk 149 9)
 haveI:SelOk 150 Th.prog.off:=(inferInstance:SelOk 150 10)
 refine zg0 ?_
 refine Ops.call (whole_spec 140 .session 1 1099511627776 (by decide) (by decide)) rfl (noPd rfl) rfl rfl rfl (fun v AS hR=>?_)
 obtain ⟨v1,v2,v3,rfl,hS⟩:=hR
 have hc:=hS
 obtain ⟨⟨fS1,cS1,rfl,_⟩,⟨fS2,cS2,rfl,_⟩,⟨fS3,cS3,rfl,_⟩⟩:=hc
 repeat' (first|refine Cd.seq ?_|refine Cd.reg ?_|refine Ops.alloc rfl rfl rfl (noPd rfl) (fun b=>?_)|refine Ops.stN rfl rfl rfl rfl rfl rfl (noPd rfl) ?_)
 refine Ops.call (whole_spec 141 .number 1 1099511627776 (by decide) (by decide)) rfl (noPd rfl) rfl rfl rfl (fun v AN hR=>?_)
 obtain ⟨v1,v2,v3,rfl,hN⟩:=hR
 have hc:=hN
 obtain ⟨⟨fN1,cN1,rfl,_⟩,⟨fN2,cN2,rfl,_⟩,⟨fN3,cN3,rfl,_⟩⟩:=hc
 repeat' (first|refine Cd.seq ?_|refine Cd.reg ?_|refine Ops.alloc rfl rfl rfl (noPd rfl) (fun b=>?_)|refine Ops.stN rfl rfl rfl rfl rfl rfl (noPd rfl) ?_)
 refine Ops.call (whole_spec 142 .job 1 8 (by decide) (by decide)) rfl (noPd rfl) rfl rfl rfl (fun v AJ hR=>?_)
 obtain ⟨v1,v2,v3,rfl,hJ⟩:=hR
 have hc:=hJ
 obtain ⟨⟨fJ1,cJ1,rfl,_⟩,⟨fJ2,cJ2,rfl,_⟩,⟨fJ3,cJ3,rfl,_⟩⟩:=hc
 repeat' (first|refine Cd.seq ?_|refine Cd.reg ?_|refine Ops.alloc rfl rfl rfl (noPd rfl) (fun b=>?_)|refine Ops.stN rfl rfl rfl rfl rfl rfl (noPd rfl) ?_)
 refine Ops.call (whole_spec 143 .badge 1 1099511627776 (by decide) (by decide)) rfl (noPd rfl) rfl rfl rfl (fun v AB hR=>?_)
 obtain ⟨v1,v2,v3,rfl,hB⟩:=hR
 have hc:=hB
 obtain ⟨⟨fB1,cB1,rfl,_⟩,⟨fB2,cB2,rfl,_⟩,⟨fB3,cB3,rfl,_⟩⟩:=hc
 repeat' (first|refine Cd.seq ?_|refine Cd.reg ?_|refine Ops.asg rfl rfl rfl rfl ?_|refine Ops.alloc rfl rfl rfl (noPd rfl) (fun b=>?_)|refine Ops.stN rfl rfl rfl rfl rfl rfl (noPd rfl) ?_)
 refine Ops.call (textf_spec 149 .text 0 32 (by decide)) rfl (noPd rfl) rfl rfl rfl (fun v AL hR=>?_)
 obtain ⟨v1,v2,v3,rfl,hL⟩:=hR
 have hc:=hL
 obtain ⟨⟨fL1,cL1,rfl,_⟩,⟨fL2,cL2,rfl,_⟩,⟨fL3,cL3,rfl,_⟩⟩:=hc
 repeat' (first|refine Cd.seq ?_|refine Cd.reg ?_|refine Ops.alloc rfl rfl rfl (noPd rfl) (fun b=>?_)|refine Ops.stN rfl rfl rfl rfl rfl rfl (noPd rfl) ?_)
 refine Ops.call (textf_spec 150 .prog 1 1024 (by decide)) rfl (noPd rfl) rfl rfl rfl (fun v AP hR=>?_)
 obtain ⟨v1,v2,v3,rfl,hP⟩:=hR
 have hc:=hP
 obtain ⟨⟨fP1,cP1,rfl,_⟩,⟨fP2,cP2,rfl,_⟩,⟨fP3,cP3,rfl,_⟩⟩:=hc
 generalize hcc:Code.block 0 _ = cc
 repeat' (first|refine Cd.seq ?_|refine Cd.reg ?_|refine Ops.nil ?_|refine Ops.mv rfl rfl rfl rfl ?_|refine Ops.alloc rfl rfl rfl (noPd rfl) (fun b=>?_)|refine Ops.stN rfl rfl rfl rfl rfl rfl (noPd rfl) ?_)
 subst hcc
 by_cases h3:kind = 3
 ·rw [show fieldsF kind = [fS,fN,fB] from if_pos h3]
  refine zg24 ?_
  refine Ops.bsN [[.func (.func fS1) #[] cS1.toArray,.func (.func fS2) #[] cS2.toArray,.func (.func fS3) #[] cS3.toArray],[.func (.func fN1) #[] cN1.toArray,.func (.func fN2) #[] cN2.toArray,.func (.func fN3) #[] cN3.toArray],[.func (.func fB1) #[] cB1.toArray,.func (.func fB2) #[] cB2.toArray,.func (.func fB3) #[] cB3.toArray]] rfl rfl rfl rfl rfl rfl rfl rfl rfl rfl (noPd rfl) (fun rb=>?_)
  refine zg1 ?_
  exact Cd.ret (ret1 (A':=(rb,cl (([[.func (.func fS1) #[] cS1.toArray,.func (.func fS2) #[] cS2.toArray,.func (.func fS3) #[] cS3.toArray],[.func (.func fN1) #[] cN1.toArray,.func (.func fN2) #[] cN2.toArray,.func (.func fN3) #[] cN3.toArray],[.func (.func fB1) #[] cB1.toArray,.func (.func fB2) #[] cB2.toArray,.func (.func fB3) #[] cB3.toArray]]:List (List Value)).flatten ++ []) 169) :: (AS ++ (AN ++ (AB ++ [])))) rfl (Res.tmp rfl) (fun _ h=>h.split) (.inr ⟨rb,_,_,rfl,rfl,(.cons hS (.cons hN (.cons hB .nil)))⟩))
 by_cases h4:kind = 4
 ·rw [show fieldsF kind = [fS,fN,fB,fC 32,.result] from (if_neg h3).trans (if_pos h4)]
  refine zg16 ?_
  refine Cd.draw [(0,1,[]),(1,1,[]),(2,1,[]),(3,0,[]),(4,2,[0,1,2]),(5,2,[0,1,2]),(6,2,[]),(7,0,[])] (by kernel_rfl) (by kernel_rfl) (by simp only [picked,nth];exact rfl) ?_
  refine zg9 ?_
  refine Ops.callV (fi:=[]) (ca:=[]) (vs:=[_]) (countf_spec 32 (by decide)) rfl zp1 rfl rfl rfl rfl (fun v AC hR=>?_)
  obtain ⟨v1,v2,v3,rfl,hC⟩:=hR
  have hc:=hC
  obtain ⟨⟨fC1,cC1,rfl,_⟩,⟨fC2,cC2,rfl,_⟩,⟨fC3,cC3,rfl,_⟩⟩:=hc
  skip
  refine Ops.call result_spec rfl zp1 rfl rfl rfl (fun v AR hR=>?_)
  obtain ⟨v1,v2,v3,rfl,hR⟩:=hR
  have hc:=hR
  obtain ⟨⟨fR1,cR1,rfl,_⟩,⟨fR2,cR2,rfl,_⟩,⟨fR3,cR3,rfl,_⟩⟩:=hc
  skip
  refine Ops.bsN [[.func (.func fS1) #[] cS1.toArray,.func (.func fS2) #[] cS2.toArray,.func (.func fS3) #[] cS3.toArray],[.func (.func fN1) #[] cN1.toArray,.func (.func fN2) #[] cN2.toArray,.func (.func fN3) #[] cN3.toArray],[.func (.func fB1) #[] cB1.toArray,.func (.func fB2) #[] cB2.toArray,.func (.func fB3) #[] cB3.toArray],[.func (.func fC1) #[] cC1.toArray,.func (.func fC2) #[] cC2.toArray,.func (.func fC3) #[] cC3.toArray],[.func (.func fR1) #[] cR1.toArray,.func (.func fR2) #[] cR2.toArray,.func (.func fR3) #[] cR3.toArray]] rfl rfl rfl rfl rfl rfl rfl rfl rfl rfl (noPd rfl) (fun rb=>?_)
  refine zg1 ?_
  exact Cd.ret (ret1 (A':=(rb,cl (([[.func (.func fS1) #[] cS1.toArray,.func (.func fS2) #[] cS2.toArray,.func (.func fS3) #[] cS3.toArray],[.func (.func fN1) #[] cN1.toArray,.func (.func fN2) #[] cN2.toArray,.func (.func fN3) #[] cN3.toArray],[.func (.func fB1) #[] cB1.toArray,.func (.func fB2) #[] cB2.toArray,.func (.func fB3) #[] cB3.toArray],[.func (.func fC1) #[] cC1.toArray,.func (.func fC2) #[] cC2.toArray,.func (.func fC3) #[] cC3.toArray],[.func (.func fR1) #[] cR1.toArray,.func (.func fR2) #[] cR2.toArray,.func (.func fR3) #[] cR3.toArray]]:List (List Value)).flatten ++ []) 169) :: (AS ++ (AN ++ (AB ++ (AC ++ (AR ++ [])))))) rfl (Res.tmp rfl) (fun _ h=>h.split) (.inr ⟨rb,_,_,rfl,rfl,(.cons hS (.cons hN (.cons hB (.cons hC (.cons hR .nil)))))⟩))
 by_cases h5:kind = 5
 ·rw [show fieldsF kind = [fB,fI 31,fL] from (if_neg h3).trans ((if_neg h4).trans (if_pos h5))]
  refine zg16 ?_
  refine Cd.draw [(0,1,[]),(1,0,[]),(3,1,[]),(2,2,[0,3]),(4,2,[]),(5,0,[])] (by kernel_rfl) (by kernel_rfl) (by simp only [picked,nth];exact rfl) ?_
  refine zg9 ?_
  refine Ops.callV (fi:=[]) (ca:=[]) (vs:=[_]) (indexf_spec 31 (by decide)) rfl zp1 rfl rfl rfl rfl (fun v AI hR=>?_)
  obtain ⟨v1,v2,v3,rfl,hI⟩:=hR
  have hc:=hI
  obtain ⟨⟨fI1,cI1,rfl,_⟩,⟨fI2,cI2,rfl,_⟩,⟨fI3,cI3,rfl,_⟩⟩:=hc
  skip
  refine Ops.bsN [[.func (.func fB1) #[] cB1.toArray,.func (.func fB2) #[] cB2.toArray,.func (.func fB3) #[] cB3.toArray],[.func (.func fI1) #[] cI1.toArray,.func (.func fI2) #[] cI2.toArray,.func (.func fI3) #[] cI3.toArray],[.func (.func fL1) #[] cL1.toArray,.func (.func fL2) #[] cL2.toArray,.func (.func fL3) #[] cL3.toArray]] rfl rfl rfl rfl rfl rfl rfl rfl rfl rfl (noPd rfl) (fun rb=>?_)
  refine zg1 ?_
  exact Cd.ret (ret1 (A':=(rb,cl (([[.func (.func fB1) #[] cB1.toArray,.func (.func fB2) #[] cB2.toArray,.func (.func fB3) #[] cB3.toArray],[.func (.func fI1) #[] cI1.toArray,.func (.func fI2) #[] cI2.toArray,.func (.func fI3) #[] cI3.toArray],[.func (.func fL1) #[] cL1.toArray,.func (.func fL2) #[] cL2.toArray,.func (.func fL3) #[] cL3.toArray]]:List (List Value)).flatten ++ []) 169) :: (AB ++ (AI ++ (AL ++ [])))) rfl (Res.tmp rfl) (fun _ h=>h.split) (.inr ⟨rb,_,_,rfl,rfl,(.cons hB (.cons hI (.cons hL .nil)))⟩))
 by_cases h6:kind = 6
 ·rw [show fieldsF kind = [fJ,fB,fI 16,fL] from (if_neg h3).trans ((if_neg h4).trans ((if_neg h5).trans (if_pos h6)))]
  refine zg16 ?_
  refine Cd.draw [(0,1,[]),(1,1,[]),(2,0,[]),(4,1,[]),(3,2,[0,1,4]),(5,2,[]),(6,0,[])] (by kernel_rfl) (by kernel_rfl) (by simp only [picked,nth];exact rfl) ?_
  refine zg9 ?_
  refine Ops.callV (fi:=[]) (ca:=[]) (vs:=[_]) (indexf_spec 16 (by decide)) rfl zp1 rfl rfl rfl rfl (fun v AI hR=>?_)
  obtain ⟨v1,v2,v3,rfl,hI⟩:=hR
  have hc:=hI
  obtain ⟨⟨fI1,cI1,rfl,_⟩,⟨fI2,cI2,rfl,_⟩,⟨fI3,cI3,rfl,_⟩⟩:=hc
  skip
  refine Ops.bsN [[.func (.func fJ1) #[] cJ1.toArray,.func (.func fJ2) #[] cJ2.toArray,.func (.func fJ3) #[] cJ3.toArray],[.func (.func fB1) #[] cB1.toArray,.func (.func fB2) #[] cB2.toArray,.func (.func fB3) #[] cB3.toArray],[.func (.func fI1) #[] cI1.toArray,.func (.func fI2) #[] cI2.toArray,.func (.func fI3) #[] cI3.toArray],[.func (.func fL1) #[] cL1.toArray,.func (.func fL2) #[] cL2.toArray,.func (.func fL3) #[] cL3.toArray]] rfl rfl rfl rfl rfl rfl rfl rfl rfl rfl (noPd rfl) (fun rb=>?_)
  refine zg1 ?_
  exact Cd.ret (ret1 (A':=(rb,cl (([[.func (.func fJ1) #[] cJ1.toArray,.func (.func fJ2) #[] cJ2.toArray,.func (.func fJ3) #[] cJ3.toArray],[.func (.func fB1) #[] cB1.toArray,.func (.func fB2) #[] cB2.toArray,.func (.func fB3) #[] cB3.toArray],[.func (.func fI1) #[] cI1.toArray,.func (.func fI2) #[] cI2.toArray,.func (.func fI3) #[] cI3.toArray],[.func (.func fL1) #[] cL1.toArray,.func (.func fL2) #[] cL2.toArray,.func (.func fL3) #[] cL3.toArray]]:List (List Value)).flatten ++ []) 169) :: (AJ ++ (AB ++ (AI ++ (AL ++ []))))) rfl (Res.tmp rfl) (fun _ h=>h.split) (.inr ⟨rb,_,_,rfl,rfl,(.cons hJ (.cons hB (.cons hI (.cons hL .nil))))⟩))
 by_cases h7:kind = 7
 ·rw [show fieldsF kind = [fS] from (if_neg h3).trans ((if_neg h4).trans ((if_neg h5).trans ((if_neg h6).trans (if_pos h7))))]
  repeat' (first|refine Cd.seq ?_|refine Cd.reg ?_|refine Ops.nil ?_|refine Ops.asg rfl rfl rfl rfl ?_|refine Ops.ldN rfl rfl rfl rfl ?_|refine Ops.bin rfl rfl rfl rfl rfl ?_|refine Ops.bs1 rfl rfl rfl rfl rfl rfl rfl (noPd rfl) (fun b=>?_)|refine Cd.block ?_|refine Cd.condT rfl zp0 ?_|refine Cd.condF rfl zp0 ?_)
  rename Nat=>rb
  exact Cd.ret (ret1 (A':=(rb,cl [.func (.func fS1) #[] cS1.toArray,.func (.func fS2) #[] cS2.toArray,.func (.func fS3) #[] cS3.toArray] 169) :: (AS ++ [])) rfl (Res.tmp rfl) (fun _ h=>h.split) (.inr ⟨rb,[[.func (.func fS1) #[] cS1.toArray,.func (.func fS2) #[] cS2.toArray,.func (.func fS3) #[] cS3.toArray]],_,rfl,rfl,.cons hS .nil⟩))
 by_cases h9:kind = 9
 ·rw [show fieldsF kind = [fS,fN,fJ,fB,fP] from (if_neg h3).trans ((if_neg h4).trans ((if_neg h5).trans ((if_neg h6).trans ((if_neg h7).trans (if_pos h9)))))]
  refine zg16 ?_
  refine Ops.bsN [[.func (.func fS1) #[] cS1.toArray,.func (.func fS2) #[] cS2.toArray,.func (.func fS3) #[] cS3.toArray],[.func (.func fN1) #[] cN1.toArray,.func (.func fN2) #[] cN2.toArray,.func (.func fN3) #[] cN3.toArray],[.func (.func fJ1) #[] cJ1.toArray,.func (.func fJ2) #[] cJ2.toArray,.func (.func fJ3) #[] cJ3.toArray],[.func (.func fB1) #[] cB1.toArray,.func (.func fB2) #[] cB2.toArray,.func (.func fB3) #[] cB3.toArray],[.func (.func fP1) #[] cP1.toArray,.func (.func fP2) #[] cP2.toArray,.func (.func fP3) #[] cP3.toArray]] rfl rfl rfl rfl rfl rfl rfl rfl rfl rfl (noPd rfl) (fun rb=>?_)
  refine zg1 ?_
  exact Cd.ret (ret1 (A':=(rb,cl (([[.func (.func fS1) #[] cS1.toArray,.func (.func fS2) #[] cS2.toArray,.func (.func fS3) #[] cS3.toArray],[.func (.func fN1) #[] cN1.toArray,.func (.func fN2) #[] cN2.toArray,.func (.func fN3) #[] cN3.toArray],[.func (.func fJ1) #[] cJ1.toArray,.func (.func fJ2) #[] cJ2.toArray,.func (.func fJ3) #[] cJ3.toArray],[.func (.func fB1) #[] cB1.toArray,.func (.func fB2) #[] cB2.toArray,.func (.func fB3) #[] cB3.toArray],[.func (.func fP1) #[] cP1.toArray,.func (.func fP2) #[] cP2.toArray,.func (.func fP3) #[] cP3.toArray]]:List (List Value)).flatten ++ []) 169) :: (AS ++ (AN ++ (AJ ++ (AB ++ (AP ++ [])))))) rfl (Res.tmp rfl) (fun _ h=>h.split) (.inr ⟨rb,_,_,rfl,rfl,(.cons hS (.cons hN (.cons hJ (.cons hB (.cons hP .nil)))))⟩))
 by_cases h14:kind = 14
 ·rw [show fieldsF kind = [fB,fC 32] from (if_neg h3).trans ((if_neg h4).trans ((if_neg h5).trans ((if_neg h6).trans ((if_neg h7).trans ((if_neg h9).trans (if_pos h14))))))]
  refine zg16 ?_
  refine Cd.draw [(0,1,[]),(1,0,[]),(2,2,[0]),(3,2,[]),(4,0,[])] (by kernel_rfl) (by kernel_rfl) (by simp only [picked,nth];exact rfl) ?_
  refine zg9 ?_
  refine Ops.callV (fi:=[]) (ca:=[]) (vs:=[_]) (countf_spec 32 (by decide)) rfl zp1 rfl rfl rfl rfl (fun v AC hR=>?_)
  obtain ⟨v1,v2,v3,rfl,hC⟩:=hR
  have hc:=hC
  obtain ⟨⟨fC1,cC1,rfl,_⟩,⟨fC2,cC2,rfl,_⟩,⟨fC3,cC3,rfl,_⟩⟩:=hc
  skip
  refine Ops.bsN [[.func (.func fB1) #[] cB1.toArray,.func (.func fB2) #[] cB2.toArray,.func (.func fB3) #[] cB3.toArray],[.func (.func fC1) #[] cC1.toArray,.func (.func fC2) #[] cC2.toArray,.func (.func fC3) #[] cC3.toArray]] rfl rfl rfl rfl rfl rfl rfl rfl rfl rfl (noPd rfl) (fun rb=>?_)
  refine zg1 ?_
  exact Cd.ret (ret1 (A':=(rb,cl (([[.func (.func fB1) #[] cB1.toArray,.func (.func fB2) #[] cB2.toArray,.func (.func fB3) #[] cB3.toArray],[.func (.func fC1) #[] cC1.toArray,.func (.func fC2) #[] cC2.toArray,.func (.func fC3) #[] cC3.toArray]]:List (List Value)).flatten ++ []) 169) :: (AB ++ (AC ++ []))) rfl (Res.tmp rfl) (fun _ h=>h.split) (.inr ⟨rb,_,_,rfl,rfl,(.cons hB (.cons hC .nil))⟩))
 by_cases h15:kind = 15
 ·rw [show fieldsF kind = [fJ,fB,fC 17] from (if_neg h3).trans ((if_neg h4).trans ((if_neg h5).trans ((if_neg h6).trans ((if_neg h7).trans ((if_neg h9).trans ((if_neg h14).trans (if_pos h15)))))))]
  refine zg16 ?_
  refine Cd.draw [(0,1,[]),(1,1,[]),(2,0,[]),(3,2,[0,1]),(4,2,[]),(5,0,[])] (by kernel_rfl) (by kernel_rfl) (by simp only [picked,nth];exact rfl) ?_
  refine zg9 ?_
  refine Ops.callV (fi:=[]) (ca:=[]) (vs:=[_]) (countf_spec 17 (by decide)) rfl zp1 rfl rfl rfl rfl (fun v AC hR=>?_)
  obtain ⟨v1,v2,v3,rfl,hC⟩:=hR
  have hc:=hC
  obtain ⟨⟨fC1,cC1,rfl,_⟩,⟨fC2,cC2,rfl,_⟩,⟨fC3,cC3,rfl,_⟩⟩:=hc
  skip
  refine Ops.bsN [[.func (.func fJ1) #[] cJ1.toArray,.func (.func fJ2) #[] cJ2.toArray,.func (.func fJ3) #[] cJ3.toArray],[.func (.func fB1) #[] cB1.toArray,.func (.func fB2) #[] cB2.toArray,.func (.func fB3) #[] cB3.toArray],[.func (.func fC1) #[] cC1.toArray,.func (.func fC2) #[] cC2.toArray,.func (.func fC3) #[] cC3.toArray]] rfl rfl rfl rfl rfl rfl rfl rfl rfl rfl (noPd rfl) (fun rb=>?_)
  refine zg1 ?_
  exact Cd.ret (ret1 (A':=(rb,cl (([[.func (.func fJ1) #[] cJ1.toArray,.func (.func fJ2) #[] cJ2.toArray,.func (.func fJ3) #[] cJ3.toArray],[.func (.func fB1) #[] cB1.toArray,.func (.func fB2) #[] cB2.toArray,.func (.func fB3) #[] cB3.toArray],[.func (.func fC1) #[] cC1.toArray,.func (.func fC2) #[] cC2.toArray,.func (.func fC3) #[] cC3.toArray]]:List (List Value)).flatten ++ []) 169) :: (AJ ++ (AB ++ (AC ++ [])))) rfl (Res.tmp rfl) (fun _ h=>h.split) (.inr ⟨rb,_,_,rfl,rfl,(.cons hJ (.cons hB (.cons hC .nil)))⟩))
 by_cases h16:kind = 16
 ·rw [show fieldsF kind = [fJ,fB] from (if_neg h3).trans ((if_neg h4).trans ((if_neg h5).trans ((if_neg h6).trans ((if_neg h7).trans ((if_neg h9).trans ((if_neg h14).trans ((if_neg h15).trans (if_pos h16))))))))]
  refine zg16 ?_
  refine Ops.bsN [[.func (.func fJ1) #[] cJ1.toArray,.func (.func fJ2) #[] cJ2.toArray,.func (.func fJ3) #[] cJ3.toArray],[.func (.func fB1) #[] cB1.toArray,.func (.func fB2) #[] cB2.toArray,.func (.func fB3) #[] cB3.toArray]] rfl rfl rfl rfl rfl rfl rfl rfl rfl rfl (noPd rfl) (fun rb=>?_)
  refine zg1 ?_
  exact Cd.ret (ret1 (A':=(rb,cl (([[.func (.func fJ1) #[] cJ1.toArray,.func (.func fJ2) #[] cJ2.toArray,.func (.func fJ3) #[] cJ3.toArray],[.func (.func fB1) #[] cB1.toArray,.func (.func fB2) #[] cB2.toArray,.func (.func fB3) #[] cB3.toArray]]:List (List Value)).flatten ++ []) 169) :: (AJ ++ (AB ++ []))) rfl (Res.tmp rfl) (fun _ h=>h.split) (.inr ⟨rb,_,_,rfl,rfl,(.cons hJ (.cons hB .nil))⟩))
 by_cases h1:kind = 1
 ·rw [show fieldsF kind = [] from (if_neg h3).trans ((if_neg h4).trans ((if_neg h5).trans ((if_neg h6).trans ((if_neg h7).trans ((if_neg h9).trans ((if_neg h14).trans ((if_neg h15).trans ((if_neg h16).trans (if_pos h1)))))))))]
  refine zg16 ?_
  exact Cd.ret (ret1 (A':=[]) rfl (Res.tmp rfl) (fun _ h=>h.split) (.inl ⟨rfl,rfl,rfl⟩))
 rw [show fieldsF kind = [fS,fN] from (if_neg h3).trans ((if_neg h4).trans ((if_neg h5).trans ((if_neg h6).trans ((if_neg h7).trans ((if_neg h9).trans ((if_neg h14).trans ((if_neg h15).trans ((if_neg h16).trans (if_neg h1)))))))))]
 refine zg17 ?_
 refine Ops.bsN [[.func (.func fS1) #[] cS1.toArray,.func (.func fS2) #[] cS2.toArray,.func (.func fS3) #[] cS3.toArray],[.func (.func fN1) #[] cN1.toArray,.func (.func fN2) #[] cN2.toArray,.func (.func fN3) #[] cN3.toArray]] rfl rfl rfl rfl rfl rfl rfl rfl rfl rfl (noPd rfl) (fun rb=>?_)
 refine zg1 ?_
 exact Cd.ret (ret1 (A':=(rb,cl (([[.func (.func fS1) #[] cS1.toArray,.func (.func fS2) #[] cS2.toArray,.func (.func fS3) #[] cS3.toArray],[.func (.func fN1) #[] cN1.toArray,.func (.func fN2) #[] cN2.toArray,.func (.func fN3) #[] cN3.toArray]]:List (List Value)).flatten ++ []) 169) :: (AS ++ (AN ++ []))) rfl (Res.tmp rfl) (fun _ h=>h.split) (.inr ⟨rb,_,_,rfl,rfl,(.cons hS (.cons hN .nil))⟩))
def setL (m n:Ms) (c:Nat):Ms:=if c = 115 then { n with session:=m.session } else if c = 110 then { n with number:=m.number } else if c = 106 then { n with job:=m.job } else if c = 98 then { n with badge:=m.badge } else if c = 105 then { n with index:=m.index } else if c = 99 then { n with count:=m.count } else if c = 114 then { n with rcode:=m.rcode,rbits:=m.rbits } else if c = 116 then { n with text:=m.text } else if c = 112 then { n with prog:=m.prog } else n
theorem named_115 (nb mb:Nat) (n m:Ms):Con Tryz.prog 217 #[ptr nb,ptr mb] [MgB nb n.row,MgB mb m.row] fun v A=>A = [MgB nb (setL m n 115).row,MgB mb m.row]:=by
 obtain ⟨kd,se,nu,jo,ba,ix,co,rc,rb,tx,pr⟩:=n
 obtain ⟨kd2,se2,nu2,jo2,ba2,ix2,co2,rc2,rb2,tx2,pr2⟩:=m
 refine Con.intro (vs:=[_,_]) Tryz.func217 rfl Tryz.ntmps217 rfl (fun B=>?_)
 refine zg4 ?_
 exact Ops.nilN (end0 (A':=[MgB nb [.int .i64 kd,.int .i64 se2,.int .i64 nu,.int .i64 jo,.int .i64 ba,.int .i64 ix,.int .i64 co,.int .i64 rc,.int .u64 rb,.string tx,.string pr],MgB mb [.int .i64 kd2,.int .i64 se2,.int .i64 nu2,.int .i64 jo2,.int .i64 ba2,.int .i64 ix2,.int .i64 co2,.int .i64 rc2,.int .u64 rb2,.string tx2,.string pr2]]) rfl (fun _ h=>h.split) rfl)
theorem named_110 (nb mb:Nat) (n m:Ms):Con Tryz.prog 218 #[ptr nb,ptr mb] [MgB nb n.row,MgB mb m.row] fun v A=>A = [MgB nb (setL m n 110).row,MgB mb m.row]:=by
 obtain ⟨kd,se,nu,jo,ba,ix,co,rc,rb,tx,pr⟩:=n
 obtain ⟨kd2,se2,nu2,jo2,ba2,ix2,co2,rc2,rb2,tx2,pr2⟩:=m
 refine Con.intro (vs:=[_,_]) Tryz.func218 rfl Tryz.ntmps218 rfl (fun B=>?_)
 refine zg4 ?_
 exact Ops.nilN (end0 (A':=[MgB nb [.int .i64 kd,.int .i64 se,.int .i64 nu2,.int .i64 jo,.int .i64 ba,.int .i64 ix,.int .i64 co,.int .i64 rc,.int .u64 rb,.string tx,.string pr],MgB mb [.int .i64 kd2,.int .i64 se2,.int .i64 nu2,.int .i64 jo2,.int .i64 ba2,.int .i64 ix2,.int .i64 co2,.int .i64 rc2,.int .u64 rb2,.string tx2,.string pr2]]) rfl (fun _ h=>h.split) rfl)
theorem named_106 (nb mb:Nat) (n m:Ms):Con Tryz.prog 219 #[ptr nb,ptr mb] [MgB nb n.row,MgB mb m.row] fun v A=>A = [MgB nb (setL m n 106).row,MgB mb m.row]:=by
 obtain ⟨kd,se,nu,jo,ba,ix,co,rc,rb,tx,pr⟩:=n
 obtain ⟨kd2,se2,nu2,jo2,ba2,ix2,co2,rc2,rb2,tx2,pr2⟩:=m
 refine Con.intro (vs:=[_,_]) Tryz.func219 rfl Tryz.ntmps219 rfl (fun B=>?_)
 refine zg4 ?_
 exact Ops.nilN (end0 (A':=[MgB nb [.int .i64 kd,.int .i64 se,.int .i64 nu,.int .i64 jo2,.int .i64 ba,.int .i64 ix,.int .i64 co,.int .i64 rc,.int .u64 rb,.string tx,.string pr],MgB mb [.int .i64 kd2,.int .i64 se2,.int .i64 nu2,.int .i64 jo2,.int .i64 ba2,.int .i64 ix2,.int .i64 co2,.int .i64 rc2,.int .u64 rb2,.string tx2,.string pr2]]) rfl (fun _ h=>h.split) rfl)
theorem named_98 (nb mb:Nat) (n m:Ms):Con Tryz.prog 220 #[ptr nb,ptr mb] [MgB nb n.row,MgB mb m.row] fun v A=>A = [MgB nb (setL m n 98).row,MgB mb m.row]:=by
 obtain ⟨kd,se,nu,jo,ba,ix,co,rc,rb,tx,pr⟩:=n
 obtain ⟨kd2,se2,nu2,jo2,ba2,ix2,co2,rc2,rb2,tx2,pr2⟩:=m
 refine Con.intro (vs:=[_,_]) Tryz.func220 rfl Tryz.ntmps220 rfl (fun B=>?_)
 refine zg4 ?_
 exact Ops.nilN (end0 (A':=[MgB nb [.int .i64 kd,.int .i64 se,.int .i64 nu,.int .i64 jo,.int .i64 ba2,.int .i64 ix,.int .i64 co,.int .i64 rc,.int .u64 rb,.string tx,.string pr],MgB mb [.int .i64 kd2,.int .i64 se2,.int .i64 nu2,.int .i64 jo2,.int .i64 ba2,.int .i64 ix2,.int .i64 co2,.int .i64 rc2,.int .u64 rb2,.string tx2,.string pr2]]) rfl (fun _ h=>h.split) rfl)
theorem named_105 (nb mb:Nat) (n m:Ms):Con Tryz.prog 221 #[ptr nb,ptr mb] [MgB nb n.row,MgB mb m.row] fun v A=>A = [MgB nb (setL m n 105).row,MgB mb m.row]:=by
 obtain ⟨kd,se,nu,jo,ba,ix,co,rc,rb,tx,pr⟩:=n
 obtain ⟨kd2,se2,nu2,jo2,ba2,ix2,co2,rc2,rb2,tx2,pr2⟩:=m
 refine Con.intro (vs:=[_,_]) Tryz.func221 rfl Tryz.ntmps221 rfl (fun B=>?_)
 refine zg4 ?_
 exact Ops.nilN (end0 (A':=[MgB nb [.int .i64 kd,.int .i64 se,.int .i64 nu,.int .i64 jo,.int .i64 ba,.int .i64 ix2,.int .i64 co,.int .i64 rc,.int .u64 rb,.string tx,.string pr],MgB mb [.int .i64 kd2,.int .i64 se2,.int .i64 nu2,.int .i64 jo2,.int .i64 ba2,.int .i64 ix2,.int .i64 co2,.int .i64 rc2,.int .u64 rb2,.string tx2,.string pr2]]) rfl (fun _ h=>h.split) rfl)
theorem named_99 (nb mb:Nat) (n m:Ms):Con Tryz.prog 222 #[ptr nb,ptr mb] [MgB nb n.row,MgB mb m.row] fun v A=>A = [MgB nb (setL m n 99).row,MgB mb m.row]:=by
 obtain ⟨kd,se,nu,jo,ba,ix,co,rc,rb,tx,pr⟩:=n
 obtain ⟨kd2,se2,nu2,jo2,ba2,ix2,co2,rc2,rb2,tx2,pr2⟩:=m
 refine Con.intro (vs:=[_,_]) Tryz.func222 rfl Tryz.ntmps222 rfl (fun B=>?_)
 refine zg4 ?_
 exact Ops.nilN (end0 (A':=[MgB nb [.int .i64 kd,.int .i64 se,.int .i64 nu,.int .i64 jo,.int .i64 ba,.int .i64 ix,.int .i64 co2,.int .i64 rc,.int .u64 rb,.string tx,.string pr],MgB mb [.int .i64 kd2,.int .i64 se2,.int .i64 nu2,.int .i64 jo2,.int .i64 ba2,.int .i64 ix2,.int .i64 co2,.int .i64 rc2,.int .u64 rb2,.string tx2,.string pr2]]) rfl (fun _ h=>h.split) rfl)
theorem named_114 (nb mb:Nat) (n m:Ms):Con Tryz.prog 223 #[ptr nb,ptr mb] [MgB nb n.row,MgB mb m.row] fun v A=>A = [MgB nb (setL m n 114).row,MgB mb m.row]:=by
 obtain ⟨kd,se,nu,jo,ba,ix,co,rc,rb,tx,pr⟩:=n
 obtain ⟨kd2,se2,nu2,jo2,ba2,ix2,co2,rc2,rb2,tx2,pr2⟩:=m
 refine Con.intro (vs:=[_,_]) Tryz.func223 rfl Tryz.ntmps223 rfl (fun B=>?_)
 refine zg26 ?_
 exact Ops.nilN (end0 (A':=[MgB nb [.int .i64 kd,.int .i64 se,.int .i64 nu,.int .i64 jo,.int .i64 ba,.int .i64 ix,.int .i64 co,.int .i64 rc2,.int .u64 rb2,.string tx,.string pr],MgB mb [.int .i64 kd2,.int .i64 se2,.int .i64 nu2,.int .i64 jo2,.int .i64 ba2,.int .i64 ix2,.int .i64 co2,.int .i64 rc2,.int .u64 rb2,.string tx2,.string pr2]]) rfl (fun _ h=>h.split) rfl)
theorem named_116 (nb mb:Nat) (n m:Ms):Con Tryz.prog 224 #[ptr nb,ptr mb] [MgB nb n.row,MgB mb m.row] fun v A=>A = [MgB nb (setL m n 116).row,MgB mb m.row]:=by
 obtain ⟨kd,se,nu,jo,ba,ix,co,rc,rb,tx,pr⟩:=n
 obtain ⟨kd2,se2,nu2,jo2,ba2,ix2,co2,rc2,rb2,tx2,pr2⟩:=m
 refine Con.intro (vs:=[_,_]) Tryz.func224 rfl Tryz.ntmps224 rfl (fun B=>?_)
 refine zg4 ?_
 exact Ops.nilN (end0 (A':=[MgB nb [.int .i64 kd,.int .i64 se,.int .i64 nu,.int .i64 jo,.int .i64 ba,.int .i64 ix,.int .i64 co,.int .i64 rc,.int .u64 rb,.string tx2,.string pr],MgB mb [.int .i64 kd2,.int .i64 se2,.int .i64 nu2,.int .i64 jo2,.int .i64 ba2,.int .i64 ix2,.int .i64 co2,.int .i64 rc2,.int .u64 rb2,.string tx2,.string pr2]]) rfl (fun _ h=>h.split) rfl)
theorem named_112 (nb mb:Nat) (n m:Ms):Con Tryz.prog 225 #[ptr nb,ptr mb] [MgB nb n.row,MgB mb m.row] fun v A=>A = [MgB nb (setL m n 112).row,MgB mb m.row]:=by
 obtain ⟨kd,se,nu,jo,ba,ix,co,rc,rb,tx,pr⟩:=n
 obtain ⟨kd2,se2,nu2,jo2,ba2,ix2,co2,rc2,rb2,tx2,pr2⟩:=m
 refine Con.intro (vs:=[_,_]) Tryz.func225 rfl Tryz.ntmps225 rfl (fun B=>?_)
 refine zg4 ?_
 exact Ops.nilN (end0 (A':=[MgB nb [.int .i64 kd,.int .i64 se,.int .i64 nu,.int .i64 jo,.int .i64 ba,.int .i64 ix,.int .i64 co,.int .i64 rc,.int .u64 rb,.string tx,.string pr2],MgB mb [.int .i64 kd2,.int .i64 se2,.int .i64 nu2,.int .i64 jo2,.int .i64 ba2,.int .i64 ix2,.int .i64 co2,.int .i64 rc2,.int .u64 rb2,.string tx2,.string pr2]]) rfl (fun _ h=>h.split) rfl)
def allL (mb:Nat):List Value:=[.nilFunc,.nilFunc,.nilFunc,.nilFunc,.nilFunc,.nilFunc,.nilFunc,.nilFunc,.nilFunc,.nilFunc,.nilFunc,.nilFunc,.nilFunc,.nilFunc,.nilFunc,.nilFunc,.nilFunc,.nilFunc,.nilFunc,.nilFunc,.nilFunc,.nilFunc,.nilFunc,.nilFunc,.nilFunc,.nilFunc,.nilFunc,.nilFunc,.nilFunc,.nilFunc,.nilFunc,.nilFunc,.nilFunc,.nilFunc,.nilFunc,.nilFunc,.nilFunc,.nilFunc,.nilFunc,.nilFunc,.nilFunc,.nilFunc,.nilFunc,.nilFunc,.nilFunc,.nilFunc,.nilFunc,.nilFunc,.nilFunc,.nilFunc,.nilFunc,.nilFunc,.nilFunc,.nilFunc,.nilFunc,.nilFunc,.nilFunc,.nilFunc,.nilFunc,.nilFunc,.nilFunc,.nilFunc,.nilFunc,.nilFunc,.nilFunc,.nilFunc,.nilFunc,.nilFunc,.nilFunc,.nilFunc,.nilFunc,.nilFunc,.nilFunc,.nilFunc,.nilFunc,.nilFunc,.nilFunc,.nilFunc,.nilFunc,.nilFunc,.nilFunc,.nilFunc,.nilFunc,.nilFunc,.nilFunc,.nilFunc,.nilFunc,.nilFunc,.nilFunc,.nilFunc,.nilFunc,.nilFunc,.nilFunc,.nilFunc,.nilFunc,.nilFunc,.nilFunc,.nilFunc,.func (.func 220) #[] #[ptr mb],.func (.func 222) #[] #[ptr mb],.nilFunc,.nilFunc,.nilFunc,.nilFunc,.nilFunc,.func (.func 221) #[] #[ptr mb],.func (.func 219) #[] #[ptr mb],.nilFunc,.nilFunc,.nilFunc,.func (.func 218) #[] #[ptr mb],.nilFunc,.func (.func 225) #[] #[ptr mb],.nilFunc,.func (.func 223) #[] #[ptr mb],.func (.func 217) #[] #[ptr mb],.func (.func 224) #[] #[ptr mb]]
def wordsL:List Value:=[.string ⟨#[]⟩,.string ⟨#[]⟩,.string ⟨#[115,110]⟩,.string ⟨#[115,110,98]⟩,.string ⟨#[115,110,98,99,114]⟩,.string ⟨#[98,105,116]⟩,.string ⟨#[106,98,105,116]⟩,.string ⟨#[115]⟩,.string ⟨#[115,110]⟩,.string ⟨#[115,110,106,98,112]⟩,.string ⟨#[115,110]⟩,.string ⟨#[115,110]⟩,.string ⟨#[115,110]⟩,.string ⟨#[115,110]⟩,.string ⟨#[98,99]⟩,.string ⟨#[106,98,99]⟩,.string ⟨#[106,98]⟩]
def wordF (k:Int):ByteArray:=match wordsL[k.toNat]? with
 | some (.string s)=>s
 | _=>.empty
theorem words_at {k:Int} (h0:1 ≤ k) (h1:k ≤ 16):wordsL[k.toNat]? = some (.string (wordF k)):=by
 have h:k = 1 ∨ k = 2 ∨ k = 3 ∨ k = 4 ∨ k = 5 ∨ k = 6 ∨ k = 7 ∨ k = 8 ∨ k = 9 ∨ k = 10 ∨ k = 11 ∨ k = 12 ∨ k = 13 ∨ k = 14 ∨ k = 15 ∨ k = 16:=by omega
 rcases h with rfl|rfl|rfl|rfl|rfl|rfl|rfl|rfl|rfl|rfl|rfl|rfl|rfl|rfl|rfl|rfl <;> rfl
def letters:List Nat:=[115,110,106,98,105,99,114,116,112]
theorem words_ok {k:Int} (h0:1 ≤ k) (h1:k ≤ 16):(wordF k).size ≤ 5 ∧ ∀ i,i < (wordF k).size → bat (wordF k) i ∈ letters:=by
 have h:k = 1 ∨ k = 2 ∨ k = 3 ∨ k = 4 ∨ k = 5 ∨ k = 6 ∨ k = 7 ∨ k = 8 ∨ k = 9 ∨ k = 10 ∨ k = 11 ∨ k = 12 ∨ k = 13 ∨ k = 14 ∨ k = 15 ∨ k = 16:=by omega
 rcases h with rfl|rfl|rfl|rfl|rfl|rfl|rfl|rfl|rfl|rfl|rfl|rfl|rfl|rfl|rfl|rfl <;> decide
def lettersG (m:Ms) (u:ByteArray):Nat → Ms
 | 0=>{ Ms.zero with kind:=m.kind }
 | i + 1=>setL m (lettersG m u i) (bat u i)
def namedF (m:Ms):Ms:=lettersG m (wordF m.kind) (wordF m.kind).size
theorem named_spec (m:Ms) (h0:1 ≤ m.kind) (h1:m.kind ≤ 16):Con Tryz.prog 153 #[.agg m.row.toArray] [] fun v A=>v = .agg (namedF m).row.toArray ∧ A = []:=by
 have hw:=words_at h0 h1
 have hok:=words_ok h0 h1
 have hn:namedF m = lettersG m (wordF m.kind) (wordF m.kind).size:=rfl
 refine Con.intro (vs:=[_]) Tryz.func153 rfl Tryz.ntmps153 rfl (fun B=>?_)
 repeat' (first|refine Ops.mkF rfl rfl rfl rfl rfl ?_|refine Cd.seq ?_|refine Cd.reg ?_|refine Ops.box rfl rfl rfl rfl (noPd rfl) (fun b=>?_)|refine Ops.alloc rfl rfl rfl (noPd rfl) (fun b=>?_))
 rename_i mb
 rename Nat=>zb
 refine Ops.bldA (allL mb) rfl rfl rfl (by kernel_rfl) rfl ?_
 repeat' (first|refine Ops.alloc rfl rfl rfl (noPd rfl) (fun b=>?_))
 refine Ops.stN (L':=allL mb) (hs:=SetS.all (by kernel_rfl)) rfl rfl rfl rfl (by kernel_rfl) (by kernel_rfl) (noPd rfl) ?_
 refine zg0 ?_
 refine Ops.bldA wordsL rfl rfl rfl (by kernel_rfl) rfl ?_
 repeat' (first|refine Ops.alloc rfl rfl rfl (noPd rfl) (fun b=>?_))
 refine Ops.stN (L':=wordsL) (hs:=SetS.all (by kernel_rfl)) rfl rfl rfl rfl (by kernel_rfl) (by kernel_rfl) (noPd rfl) ?_
 repeat' (first|refine Ops.ixA rfl rfl rfl rfl (by omega) (by omega) rfl ?_|refine Cd.seq ?_|refine Cd.reg ?_|refine Ops.fa0 rfl rfl rfl rfl ?_|refine Ops.ld1 rfl rfl rfl rfl rfl ?_|refine Ops.bld rfl rfl rfl rfl ?_|refine Ops.alloc rfl rfl rfl (noPd rfl) (fun b=>?_)|refine Ops.stN rfl rfl rfl rfl rfl rfl (noPd rfl) ?_)
 rename_i ab wb
 rename Nat=>nb
 rw [hn]
 clear hn
 refine Ops.ld1 (v:=.string (wordF m.kind)) rfl rfl rfl (by rw [show 0 + m.kind.toNat * 1 = m.kind.toNat from by omega];exact hw) rfl ?_
 clear hw
 refine Ops.cvSB rfl rfl rfl rfl (noPd rfl) (fun g c L f hL=>?_)
 obtain ⟨hsz,hlet⟩:=hok
 generalize wordF m.kind = u at hL hsz hlet ⊢
 refine zg3 ?_
 refine Cd.loopK (σ:=Nat) (fun i=>i ≤ u.size) (fun i=>[(2,ptr zb),(3,ptr ab),(5,ptr nb),(26,.slice (some ⟨g,0,none⟩) u.size c),(27,.int .i64 ((u.size:Nat):Int)),(28,.int .i64 ((i:Nat):Int))]) (fun i=>[MgB nb (lettersG m u i).row,(g,clX L 5 f),(ab,cl (allL mb) 308),MgB zb [.int .i64 0,.int .i64 0,.int .i64 0,.int .i64 0,.int .i64 0,.int .i64 0,.int .i64 0,.int .i64 0,.int .u64 0,.string ⟨#[]⟩,.string ⟨#[]⟩],MgB mb m.row]) (fun i=>u.size - i) 0 (Nat.zero_le _) ⟨rfl,rfl,rfl,rfl,rfl,rfl,trivial⟩ (fun w h=>by
  have h2:Sat _ [MgB nb [.int .i64 m.kind,.int .i64 0,.int .i64 0,.int .i64 0,.int .i64 0,.int .i64 0,.int .i64 0,.int .i64 0,.int .u64 0,.string ⟨#[]⟩,.string ⟨#[]⟩],(g,clX L 5 f),(ab,cl (allL mb) 308),MgB zb [.int .i64 0,.int .i64 0,.int .i64 0,.int .i64 0,.int .i64 0,.int .i64 0,.int .i64 0,.int .i64 0,.int .u64 0,.string ⟨#[]⟩,.string ⟨#[]⟩],MgB mb m.row] w:=h.split
  exact h2) (fun i hi=>?_)
 by_cases hlt:i < u.size
 ·have hlt':((i:Nat):Int) < ((u.size:Nat):Int):=by omega
  have hv:L[((i:Nat):Int).toNat * 1]? = some (.int .u8 ((bat u i:Nat):Int)):=by
   rw [show ((i:Nat):Int).toNat * 1 = i from by omega]
   exact hL i _ (bv_bat (s:=u) (i:=i) hlt)
  have hin:=hlet i hlt
  have hstep:lettersG m u (i + 1) = setL m (lettersG m u i) (bat u i):=rfl
  refine zg35 ?_
  refine Ops.ldX rfl rfl rfl hv rfl ?_
  refine zg0 ?_
  generalize bat u i = x at hin hstep ⊢
  simp only [letters,List.mem_cons,List.not_mem_nil,or_false] at hin
  rcases hin with rfl|rfl|rfl|rfl|rfl|rfl|rfl|rfl|rfl
  ·refine zg28 ?_
   refine Ops.callV (fi:=[]) (ca:=[ptr mb]) (vs:=[ptr nb]) (named_115 nb mb (lettersG m u i) m) rfl (noPd rfl) rfl rfl rfl rfl (fun v A' hR=>?_)
   obtain rfl:=hR
   refine zg18 ?_
   exact Ops.nilN (round_end (i + 1:Nat) (by show i + 1 ≤ u.size;omega) zp13 ⟨rfl,rfl,rfl,rfl,rfl,rfl,trivial⟩ (fun w h=>by
    have h2:Sat _ [MgB nb (setL m (lettersG m u i) 115).row,(g,clX L 5 f),(ab,cl (allL mb) 308),MgB zb [.int .i64 0,.int .i64 0,.int .i64 0,.int .i64 0,.int .i64 0,.int .i64 0,.int .i64 0,.int .i64 0,.int .u64 0,.string ⟨#[]⟩,.string ⟨#[]⟩],MgB mb m.row] w:=h.split
    rw [← hstep] at h2
    exact h2))
  ·refine zg28 ?_
   refine Ops.callV (fi:=[]) (ca:=[ptr mb]) (vs:=[ptr nb]) (named_110 nb mb (lettersG m u i) m) rfl (noPd rfl) rfl rfl rfl rfl (fun v A' hR=>?_)
   obtain rfl:=hR
   refine zg18 ?_
   exact Ops.nilN (round_end (i + 1:Nat) (by show i + 1 ≤ u.size;omega) zp13 ⟨rfl,rfl,rfl,rfl,rfl,rfl,trivial⟩ (fun w h=>by
    have h2:Sat _ [MgB nb (setL m (lettersG m u i) 110).row,(g,clX L 5 f),(ab,cl (allL mb) 308),MgB zb [.int .i64 0,.int .i64 0,.int .i64 0,.int .i64 0,.int .i64 0,.int .i64 0,.int .i64 0,.int .i64 0,.int .u64 0,.string ⟨#[]⟩,.string ⟨#[]⟩],MgB mb m.row] w:=h.split
    rw [← hstep] at h2
    exact h2))
  ·refine zg28 ?_
   refine Ops.callV (fi:=[]) (ca:=[ptr mb]) (vs:=[ptr nb]) (named_106 nb mb (lettersG m u i) m) rfl (noPd rfl) rfl rfl rfl rfl (fun v A' hR=>?_)
   obtain rfl:=hR
   refine zg18 ?_
   exact Ops.nilN (round_end (i + 1:Nat) (by show i + 1 ≤ u.size;omega) zp13 ⟨rfl,rfl,rfl,rfl,rfl,rfl,trivial⟩ (fun w h=>by
    have h2:Sat _ [MgB nb (setL m (lettersG m u i) 106).row,(g,clX L 5 f),(ab,cl (allL mb) 308),MgB zb [.int .i64 0,.int .i64 0,.int .i64 0,.int .i64 0,.int .i64 0,.int .i64 0,.int .i64 0,.int .i64 0,.int .u64 0,.string ⟨#[]⟩,.string ⟨#[]⟩],MgB mb m.row] w:=h.split
    rw [← hstep] at h2
    exact h2))
  ·refine zg28 ?_
   refine Ops.callV (fi:=[]) (ca:=[ptr mb]) (vs:=[ptr nb]) (named_98 nb mb (lettersG m u i) m) rfl (noPd rfl) rfl rfl rfl rfl (fun v A' hR=>?_)
   obtain rfl:=hR
   refine zg18 ?_
   exact Ops.nilN (round_end (i + 1:Nat) (by show i + 1 ≤ u.size;omega) zp13 ⟨rfl,rfl,rfl,rfl,rfl,rfl,trivial⟩ (fun w h=>by
    have h2:Sat _ [MgB nb (setL m (lettersG m u i) 98).row,(g,clX L 5 f),(ab,cl (allL mb) 308),MgB zb [.int .i64 0,.int .i64 0,.int .i64 0,.int .i64 0,.int .i64 0,.int .i64 0,.int .i64 0,.int .i64 0,.int .u64 0,.string ⟨#[]⟩,.string ⟨#[]⟩],MgB mb m.row] w:=h.split
    rw [← hstep] at h2
    exact h2))
  ·refine zg28 ?_
   refine Ops.callV (fi:=[]) (ca:=[ptr mb]) (vs:=[ptr nb]) (named_105 nb mb (lettersG m u i) m) rfl (noPd rfl) rfl rfl rfl rfl (fun v A' hR=>?_)
   obtain rfl:=hR
   refine zg18 ?_
   exact Ops.nilN (round_end (i + 1:Nat) (by show i + 1 ≤ u.size;omega) zp13 ⟨rfl,rfl,rfl,rfl,rfl,rfl,trivial⟩ (fun w h=>by
    have h2:Sat _ [MgB nb (setL m (lettersG m u i) 105).row,(g,clX L 5 f),(ab,cl (allL mb) 308),MgB zb [.int .i64 0,.int .i64 0,.int .i64 0,.int .i64 0,.int .i64 0,.int .i64 0,.int .i64 0,.int .i64 0,.int .u64 0,.string ⟨#[]⟩,.string ⟨#[]⟩],MgB mb m.row] w:=h.split
    rw [← hstep] at h2
    exact h2))
  ·refine zg28 ?_
   refine Ops.callV (fi:=[]) (ca:=[ptr mb]) (vs:=[ptr nb]) (named_99 nb mb (lettersG m u i) m) rfl (noPd rfl) rfl rfl rfl rfl (fun v A' hR=>?_)
   obtain rfl:=hR
   refine zg18 ?_
   exact Ops.nilN (round_end (i + 1:Nat) (by show i + 1 ≤ u.size;omega) zp13 ⟨rfl,rfl,rfl,rfl,rfl,rfl,trivial⟩ (fun w h=>by
    have h2:Sat _ [MgB nb (setL m (lettersG m u i) 99).row,(g,clX L 5 f),(ab,cl (allL mb) 308),MgB zb [.int .i64 0,.int .i64 0,.int .i64 0,.int .i64 0,.int .i64 0,.int .i64 0,.int .i64 0,.int .i64 0,.int .u64 0,.string ⟨#[]⟩,.string ⟨#[]⟩],MgB mb m.row] w:=h.split
    rw [← hstep] at h2
    exact h2))
  ·refine zg28 ?_
   refine Ops.callV (fi:=[]) (ca:=[ptr mb]) (vs:=[ptr nb]) (named_114 nb mb (lettersG m u i) m) rfl (noPd rfl) rfl rfl rfl rfl (fun v A' hR=>?_)
   obtain rfl:=hR
   refine zg18 ?_
   exact Ops.nilN (round_end (i + 1:Nat) (by show i + 1 ≤ u.size;omega) zp13 ⟨rfl,rfl,rfl,rfl,rfl,rfl,trivial⟩ (fun w h=>by
    have h2:Sat _ [MgB nb (setL m (lettersG m u i) 114).row,(g,clX L 5 f),(ab,cl (allL mb) 308),MgB zb [.int .i64 0,.int .i64 0,.int .i64 0,.int .i64 0,.int .i64 0,.int .i64 0,.int .i64 0,.int .i64 0,.int .u64 0,.string ⟨#[]⟩,.string ⟨#[]⟩],MgB mb m.row] w:=h.split
    rw [← hstep] at h2
    exact h2))
  ·refine zg28 ?_
   refine Ops.callV (fi:=[]) (ca:=[ptr mb]) (vs:=[ptr nb]) (named_116 nb mb (lettersG m u i) m) rfl (noPd rfl) rfl rfl rfl rfl (fun v A' hR=>?_)
   obtain rfl:=hR
   refine zg18 ?_
   exact Ops.nilN (round_end (i + 1:Nat) (by show i + 1 ≤ u.size;omega) zp13 ⟨rfl,rfl,rfl,rfl,rfl,rfl,trivial⟩ (fun w h=>by
    have h2:Sat _ [MgB nb (setL m (lettersG m u i) 116).row,(g,clX L 5 f),(ab,cl (allL mb) 308),MgB zb [.int .i64 0,.int .i64 0,.int .i64 0,.int .i64 0,.int .i64 0,.int .i64 0,.int .i64 0,.int .i64 0,.int .u64 0,.string ⟨#[]⟩,.string ⟨#[]⟩],MgB mb m.row] w:=h.split
    rw [← hstep] at h2
    exact h2))
  ·refine zg28 ?_
   refine Ops.callV (fi:=[]) (ca:=[ptr mb]) (vs:=[ptr nb]) (named_112 nb mb (lettersG m u i) m) rfl (noPd rfl) rfl rfl rfl rfl (fun v A' hR=>?_)
   obtain rfl:=hR
   refine zg18 ?_
   exact Ops.nilN (round_end (i + 1:Nat) (by show i + 1 ≤ u.size;omega) zp13 ⟨rfl,rfl,rfl,rfl,rfl,rfl,trivial⟩ (fun w h=>by
    have h2:Sat _ [MgB nb (setL m (lettersG m u i) 112).row,(g,clX L 5 f),(ab,cl (allL mb) 308),MgB zb [.int .i64 0,.int .i64 0,.int .i64 0,.int .i64 0,.int .i64 0,.int .i64 0,.int .i64 0,.int .i64 0,.int .u64 0,.string ⟨#[]⟩,.string ⟨#[]⟩],MgB mb m.row] w:=h.split
    rw [← hstep] at h2
    exact h2))
 ·have hlt':¬ ((i:Nat):Int) < ((u.size:Nat):Int):=by omega
  have he:i = u.size:=by omega
  subst he
  refine zg21 ?_
  exact ze39
end Go.Proofs.YtaecdnfkcebbeaaGreat
