import Derived.Test.YtaecdnfkcebbeaaGreatA01
import Derived.Test.YtaecdnfkcebbeaaGreatA12
set_option linter.unusedVariables false
set_option linter.unusedSimpArgs false
namespace Go.Proofs.YtaecdnfkcebbeaaGreat
open Go Go.Sep Go.Proofs
set_option maxRecDepth 10000
set_option maxHeartbeats 40000000
set_option synthInstance.maxSize 2000
theorem faceuint64_pan (B0:Base) (fb xr xb rb:Nat) (bs:ByteArray) (p0 q e er:Int) (xv:Int) :
  DCon Tryz.prog B0 206 #[ptr fb,ptr xr,ptr xb] (.panicking [gave er]) [(fb,cl [.int .i64 p0] 3),(xr,cl [ptr rb] 160),(xb,cl [(.int .u64 xv)] 38),RdB rb bs q e] fun u' A=>settle u' = .returning ∧ A = [(fb,cl [.int .i64 p0] 3),(xr,cl [ptr rb] 160),(xb,cl [.int .u64 0] 38),RdB rb bs p0 er]:=by
 refine DCon.intro (vs:=[_,_,_]) Tryz.func206 rfl Tryz.ntmps206 rfl (fun B c₀ cs hx hu=>?_)
 have hrec:recoverD (c₀ :: cs) = some (.iface 306 (.agg #[.int .i64 er]),{ c₀ with mode:=.panicking [⟨.iface 306 (.agg #[.int .i64 er]),true,false⟩] } :: cs):=by
  simp [recoverD,hu]
 refine CdS.seq ?_
 refine CdS.rec_ rfl hrec rfl rfl ?_
 refine Ops.tAss rfl rfl rfl rfl ?_
 repeat' (first|refine Ops.mv rfl rfl rfl rfl ?_|refine Ops.asg rfl rfl rfl rfl ?_|refine Ops.ext rfl rfl rfl rfl rfl ?_|refine Ops.alloc rfl rfl rfl (noPd rfl) (fun b=>?_)|refine Ops.stN rfl rfl rfl rfl rfl rfl (noPd rfl) ?_)
 refine Ops.nilN (CdS.next ?_)
 refine CdS.of rfl ?_
 refine zg5 ?_
 refine Cd.draw [(0,1,[]),(1,1,[]),(2,1,[]),(3,0,[]),(4,1,[]),(5,0,[]),(6,0,[]),(7,0,[]),(8,2,[4]),(9,0,[]),(10,0,[]),(11,2,[]),(12,2,[])] (by kernel_rfl) (by kernel_rfl) (by simp only [picked,nth];exact rfl) ?_
 refine zg28 ?_
 exact Ops.nilN (endS (A':=[(fb,cl [.int .i64 p0] 3),(xr,cl [ptr rb] 160),(xb,cl [.int .u64 0] 38),RdB rb bs p0 er]) rfl (fun _ h=>h.split) ⟨rfl,rfl⟩)
theorem faceuint64_ret (B0:Base) (fb xr xb rb:Nat) (bs:ByteArray) (p0 q e:Int) (xv:Int) :
  DCon Tryz.prog B0 206 #[ptr fb,ptr xr,ptr xb] .returning [(fb,cl [.int .i64 p0] 3),(xr,cl [ptr rb] 160),(xb,cl [(.int .u64 xv)] 38),RdB rb bs q e] fun u' A=>u' = .returning ∧ A = [(fb,cl [.int .i64 p0] 3),(xr,cl [ptr rb] 160),(xb,cl [(.int .u64 xv)] 38),RdB rb bs q e]:=by
 refine DCon.intro (vs:=[_,_,_]) Tryz.func206 rfl Tryz.ntmps206 rfl (fun B c₀ cs hx hu=>?_)
 have hrec:recoverD (c₀ :: cs) = none:=by simp [recoverD,hu]
 have hc0:c₀ = { c₀ with mode:=.returning }:=by rw [← hu]
 refine CdS.seq ?_
 refine CdS.rec_no rfl hrec rfl rfl ?_
 refine Ops.tAssNo rfl rfl rfl rfl ?_
 repeat' (first|refine Ops.mv rfl rfl rfl rfl ?_|refine Ops.asg rfl rfl rfl rfl ?_|refine Ops.ext rfl rfl rfl rfl rfl ?_|refine Ops.alloc rfl rfl rfl (noPd rfl) (fun b=>?_)|refine Ops.stN rfl rfl rfl rfl rfl rfl (noPd rfl) ?_)
 refine Ops.nilN (CdS.next ?_)
 refine CdS.of rfl ?_
 rw [hc0]
 refine zg6 ?_
 exact Cd.skip (endS (A':=[(fb,cl [.int .i64 p0] 3),(xr,cl [ptr rb] 160),(xb,cl [(.int .u64 xv)] 38),RdB rb bs q e]) rfl (fun _ h=>h.split) ⟨rfl,rfl⟩)
theorem faceint_pan (B0:Base) (fb xr xb rb:Nat) (bs:ByteArray) (p0 q e er:Int) (xv:Int) :
  DCon Tryz.prog B0 237 #[ptr fb,ptr xr,ptr xb] (.panicking [gave er]) [(fb,cl [.int .i64 p0] 3),(xr,cl [ptr rb] 160),(xb,cl [(.int .i64 xv)] 3),RdB rb bs q e] fun u' A=>settle u' = .returning ∧ A = [(fb,cl [.int .i64 p0] 3),(xr,cl [ptr rb] 160),(xb,cl [.int .i64 0] 3),RdB rb bs p0 er]:=by
 refine DCon.intro (vs:=[_,_,_]) Tryz.func237 rfl Tryz.ntmps237 rfl (fun B c₀ cs hx hu=>?_)
 have hrec:recoverD (c₀ :: cs) = some (.iface 306 (.agg #[.int .i64 er]),{ c₀ with mode:=.panicking [⟨.iface 306 (.agg #[.int .i64 er]),true,false⟩] } :: cs):=by
  simp [recoverD,hu]
 refine CdS.seq ?_
 refine CdS.rec_ rfl hrec rfl rfl ?_
 refine Ops.tAss rfl rfl rfl rfl ?_
 repeat' (first|refine Ops.mv rfl rfl rfl rfl ?_|refine Ops.asg rfl rfl rfl rfl ?_|refine Ops.ext rfl rfl rfl rfl rfl ?_|refine Ops.alloc rfl rfl rfl (noPd rfl) (fun b=>?_)|refine Ops.stN rfl rfl rfl rfl rfl rfl (noPd rfl) ?_)
 refine Ops.nilN (CdS.next ?_)
 refine CdS.of rfl ?_
 refine zg5 ?_
 refine Cd.draw [(0,1,[]),(1,1,[]),(2,1,[]),(3,0,[]),(4,1,[]),(5,0,[]),(6,0,[]),(7,0,[]),(8,2,[4]),(9,0,[]),(10,0,[]),(11,2,[]),(12,2,[])] (by kernel_rfl) (by kernel_rfl) (by simp only [picked,nth];exact rfl) ?_
 refine zg28 ?_
 exact Ops.nilN (endS (A':=[(fb,cl [.int .i64 p0] 3),(xr,cl [ptr rb] 160),(xb,cl [.int .i64 0] 3),RdB rb bs p0 er]) rfl (fun _ h=>h.split) ⟨rfl,rfl⟩)
theorem faceint_ret (B0:Base) (fb xr xb rb:Nat) (bs:ByteArray) (p0 q e:Int) (xv:Int) :
  DCon Tryz.prog B0 237 #[ptr fb,ptr xr,ptr xb] .returning [(fb,cl [.int .i64 p0] 3),(xr,cl [ptr rb] 160),(xb,cl [(.int .i64 xv)] 3),RdB rb bs q e] fun u' A=>u' = .returning ∧ A = [(fb,cl [.int .i64 p0] 3),(xr,cl [ptr rb] 160),(xb,cl [(.int .i64 xv)] 3),RdB rb bs q e]:=by
 refine DCon.intro (vs:=[_,_,_]) Tryz.func237 rfl Tryz.ntmps237 rfl (fun B c₀ cs hx hu=>?_)
 have hrec:recoverD (c₀ :: cs) = none:=by simp [recoverD,hu]
 have hc0:c₀ = { c₀ with mode:=.returning }:=by rw [← hu]
 refine CdS.seq ?_
 refine CdS.rec_no rfl hrec rfl rfl ?_
 refine Ops.tAssNo rfl rfl rfl rfl ?_
 repeat' (first|refine Ops.mv rfl rfl rfl rfl ?_|refine Ops.asg rfl rfl rfl rfl ?_|refine Ops.ext rfl rfl rfl rfl rfl ?_|refine Ops.alloc rfl rfl rfl (noPd rfl) (fun b=>?_)|refine Ops.stN rfl rfl rfl rfl rfl rfl (noPd rfl) ?_)
 refine Ops.nilN (CdS.next ?_)
 refine CdS.of rfl ?_
 rw [hc0]
 refine zg6 ?_
 exact Cd.skip (endS (A':=[(fb,cl [.int .i64 p0] 3),(xr,cl [ptr rb] 160),(xb,cl [(.int .i64 xv)] 3),RdB rb bs q e]) rfl (fun _ h=>h.split) ⟨rfl,rfl⟩)
theorem facestring_pan (B0:Base) (fb xr xb rb:Nat) (bs:ByteArray) (p0 q e er:Int) (xv:ByteArray) :
  DCon Tryz.prog B0 269 #[ptr fb,ptr xr,ptr xb] (.panicking [gave er]) [(fb,cl [.int .i64 p0] 3),(xr,cl [ptr rb] 160),(xb,cl [(.string xv)] 9),RdB rb bs q e] fun u' A=>settle u' = .returning ∧ A = [(fb,cl [.int .i64 p0] 3),(xr,cl [ptr rb] 160),(xb,cl [.string ⟨#[]⟩] 9),RdB rb bs p0 er]:=by
 refine DCon.intro (vs:=[_,_,_]) Tryz.func269 rfl Tryz.ntmps269 rfl (fun B c₀ cs hx hu=>?_)
 have hrec:recoverD (c₀ :: cs) = some (.iface 306 (.agg #[.int .i64 er]),{ c₀ with mode:=.panicking [⟨.iface 306 (.agg #[.int .i64 er]),true,false⟩] } :: cs):=by
  simp [recoverD,hu]
 refine CdS.seq ?_
 refine CdS.rec_ rfl hrec rfl rfl ?_
 refine Ops.tAss rfl rfl rfl rfl ?_
 repeat' (first|refine Ops.mv rfl rfl rfl rfl ?_|refine Ops.asg rfl rfl rfl rfl ?_|refine Ops.ext rfl rfl rfl rfl rfl ?_|refine Ops.alloc rfl rfl rfl (noPd rfl) (fun b=>?_)|refine Ops.stN rfl rfl rfl rfl rfl rfl (noPd rfl) ?_)
 refine Ops.nilN (CdS.next ?_)
 refine CdS.of rfl ?_
 refine zg5 ?_
 refine Cd.draw [(0,1,[]),(1,1,[]),(2,1,[]),(3,0,[]),(4,1,[]),(5,0,[]),(6,0,[]),(7,0,[]),(8,2,[4]),(9,0,[]),(10,0,[]),(11,2,[]),(12,2,[])] (by kernel_rfl) (by kernel_rfl) (by simp only [picked,nth];exact rfl) ?_
 refine zg28 ?_
 exact Ops.nilN (endS (A':=[(fb,cl [.int .i64 p0] 3),(xr,cl [ptr rb] 160),(xb,cl [.string ⟨#[]⟩] 9),RdB rb bs p0 er]) rfl (fun _ h=>h.split) ⟨rfl,rfl⟩)
theorem facestring_ret (B0:Base) (fb xr xb rb:Nat) (bs:ByteArray) (p0 q e:Int) (xv:ByteArray) :
  DCon Tryz.prog B0 269 #[ptr fb,ptr xr,ptr xb] .returning [(fb,cl [.int .i64 p0] 3),(xr,cl [ptr rb] 160),(xb,cl [(.string xv)] 9),RdB rb bs q e] fun u' A=>u' = .returning ∧ A = [(fb,cl [.int .i64 p0] 3),(xr,cl [ptr rb] 160),(xb,cl [(.string xv)] 9),RdB rb bs q e]:=by
 refine DCon.intro (vs:=[_,_,_]) Tryz.func269 rfl Tryz.ntmps269 rfl (fun B c₀ cs hx hu=>?_)
 have hrec:recoverD (c₀ :: cs) = none:=by simp [recoverD,hu]
 have hc0:c₀ = { c₀ with mode:=.returning }:=by rw [← hu]
 refine CdS.seq ?_
 refine CdS.rec_no rfl hrec rfl rfl ?_
 refine Ops.tAssNo rfl rfl rfl rfl ?_
 repeat' (first|refine Ops.mv rfl rfl rfl rfl ?_|refine Ops.asg rfl rfl rfl rfl ?_|refine Ops.ext rfl rfl rfl rfl rfl ?_|refine Ops.alloc rfl rfl rfl (noPd rfl) (fun b=>?_)|refine Ops.stN rfl rfl rfl rfl rfl rfl (noPd rfl) ?_)
 refine Ops.nilN (CdS.next ?_)
 refine CdS.of rfl ?_
 rw [hc0]
 refine zg6 ?_
 exact Cd.skip (endS (A':=[(fb,cl [.int .i64 p0] 3),(xr,cl [ptr rb] 160),(xb,cl [(.string xv)] 9),RdB rb bs q e]) rfl (fun _ h=>h.split) ⟨rfl,rfl⟩)
theorem faceuint64_old (B0:Base) (rb:Nat) (bs:ByteArray) (q e:Int) (g:FuncId) (ca:List Value) (he:e ≠ 0) :
  ConB Tryz.prog B0 136 #[ptr rb,.func (.func g) #[] ca.toArray] [RdB rb bs q e] fun v A=>v = .int .u64 0 ∧ A = [RdB rb bs q e]:=by
 refine ConB.intro (vs:=[_,_]) Tryz.func136 rfl Tryz.ntmps136 rfl (fun B hB=>?_)
 repeat' (first|refine Cd.seq ?_|refine Cd.reg ?_|refine Ops.nil ?_|refine Ops.nilP rfl rfl rfl rfl ?_|refine Ops.fa0 rfl rfl rfl rfl ?_|refine Ops.ld1 rfl rfl rfl rfl rfl ?_|refine Ops.bin rfl rfl rfl rfl rfl ?_|refine Ops.box rfl rfl rfl rfl (noPd rfl) (fun b=>?_)|refine Ops.alloc rfl rfl rfl (noPd rfl) (fun b=>?_)|refine Ops.st1 rfl rfl rfl rfl rfl (noPd rfl) ?_|refine Cd.condT rfl zp0 ?_)
 exact ze44
theorem faceuint64_new (B0:Base) (rb:Nat) (bs:ByteArray) (p:Nat) (g:FuncId) (ca:List Value) (C:List Blk) (res:Int ⊕ (Nat × Nat)) [hg:FnOk Tryz.prog g]
  (hread:ConX Tryz.prog B0 g ca.toArray (RdB rb bs p 0 :: C) (fun v A=>∃ u q,res = .inr (u,q) ∧ v = (.int .u64 ((u:Nat):Int)) ∧ A = RdB rb bs (q:Nat) 0 :: C) (fun c A=>∃ er,res = .inl er ∧ c = [gave er] ∧ ∃ q:Nat,A = RdB rb bs q 0 :: C)) :
  ConB Tryz.prog B0 136 #[ptr rb,.func (.func g) #[] ca.toArray] (RdB rb bs p 0 :: C) fun v A=>(∃ u q,res = .inr (u,q) ∧ v = (.int .u64 ((u:Nat):Int)) ∧ A = RdB rb bs (q:Nat) 0 :: C) ∨ (∃ er,res = .inl er ∧ v = .int .u64 0 ∧ A = RdB rb bs p er :: C):=by
 refine ConX.calm (X:=fun _ _=>False) (ConX.intro (vs:=[_,_]) Tryz.func136 rfl Tryz.ntmps136 rfl (fun B hB=>?_)) (fun _ _ h=>h)
 repeat' (first|refine Ops.mkF rfl rfl rfl rfl rfl ?_|refine Cd.seq ?_|refine Cd.reg ?_|refine Ops.nil ?_|refine Ops.nilP rfl rfl rfl rfl ?_|refine Ops.fa0 rfl rfl rfl rfl ?_|refine Ops.ld1 rfl rfl rfl rfl rfl ?_|refine Ops.bin rfl rfl rfl rfl rfl ?_|refine Ops.box rfl rfl rfl rfl (noPd rfl) (fun b=>?_)|refine Ops.alloc rfl rfl rfl (noPd rfl) (fun b=>?_)|refine Ops.st1 rfl rfl rfl rfl rfl (noPd rfl) ?_|refine Cd.condF rfl rfl ?_|refine Cd.skip (Cd.next ?_))
 rename_i xr xb
 rename Nat=>fb
 refine Ops.dfr (fi:=[]) (ca:=[ptr fb,ptr xr,ptr xb]) (vs:=[]) rfl rfl rfl rfl ?_
 refine zg0 ?_
 refine Ops.callVX (fi:=[]) (vs:=[]) hread hB rfl rfl rfl rfl (fun c A' hX=>?_) (fun v A' hR=>?_)
 ·obtain ⟨er,hres,rfl,q,rfl⟩:=hX
  refine leaveD_pan (faceuint64_pan B0 fb xr xb rb bs p q 0 er 0) hB (fun u' A' hR=>?_)
  obtain ⟨hs,rfl⟩:=hR
  exact .inl ⟨hs,retX (ret1 (A':=RdB rb bs p er :: C) rfl (Res.cell1 rfl rfl) (fun _ h=>h.split) (.inr ⟨er,hres,rfl,rfl⟩))⟩
 ·obtain ⟨u,q,hres,rfl,rfl⟩:=hR
  refine zg15 ?_
  refine Cd.ret (leaveD_ret (faceuint64_ret B0 fb xr xb rb bs p q 0 (u:Int)) hB (fun u' A' hR=>?_))
  obtain ⟨rfl,rfl⟩:=hR
  exact .inl ⟨rfl,retX (ret1 (A':=RdB rb bs q 0 :: C) rfl (Res.cell1 rfl rfl) (fun _ h=>h.split) (.inl ⟨u,q,hres,rfl,rfl⟩))⟩
theorem faceint_old (B0:Base) (rb:Nat) (bs:ByteArray) (q e:Int) (g:FuncId) (ca:List Value) (he:e ≠ 0) :
  ConB Tryz.prog B0 174 #[ptr rb,.func (.func g) #[] ca.toArray] [RdB rb bs q e] fun v A=>v = .int .i64 0 ∧ A = [RdB rb bs q e]:=by
 refine ConB.intro (vs:=[_,_]) Tryz.func174 rfl Tryz.ntmps174 rfl (fun B hB=>?_)
 repeat' (first|refine Cd.seq ?_|refine Cd.reg ?_|refine Ops.nil ?_|refine Ops.nilP rfl rfl rfl rfl ?_|refine Ops.fa0 rfl rfl rfl rfl ?_|refine Ops.ld1 rfl rfl rfl rfl rfl ?_|refine Ops.bin rfl rfl rfl rfl rfl ?_|refine Ops.box rfl rfl rfl rfl (noPd rfl) (fun b=>?_)|refine Ops.alloc rfl rfl rfl (noPd rfl) (fun b=>?_)|refine Ops.st1 rfl rfl rfl rfl rfl (noPd rfl) ?_|refine Cd.condT rfl zp0 ?_)
 exact ze44
theorem faceint_new (B0:Base) (rb:Nat) (bs:ByteArray) (p:Nat) (g:FuncId) (ca:List Value) (C:List Blk) (res:Int ⊕ (Int × Nat)) [hg:FnOk Tryz.prog g]
  (hread:ConX Tryz.prog B0 g ca.toArray (RdB rb bs p 0 :: C) (fun v A=>∃ u q,res = .inr (u,q) ∧ v = (.int .i64 u) ∧ A = RdB rb bs (q:Nat) 0 :: C) (fun c A=>∃ er,res = .inl er ∧ c = [gave er] ∧ ∃ q:Nat,A = RdB rb bs q 0 :: C)) :
  ConB Tryz.prog B0 174 #[ptr rb,.func (.func g) #[] ca.toArray] (RdB rb bs p 0 :: C) fun v A=>(∃ u q,res = .inr (u,q) ∧ v = (.int .i64 u) ∧ A = RdB rb bs (q:Nat) 0 :: C) ∨ (∃ er,res = .inl er ∧ v = .int .i64 0 ∧ A = RdB rb bs p er :: C):=by
 refine ConX.calm (X:=fun _ _=>False) (ConX.intro (vs:=[_,_]) Tryz.func174 rfl Tryz.ntmps174 rfl (fun B hB=>?_)) (fun _ _ h=>h)
 repeat' (first|refine Ops.mkF rfl rfl rfl rfl rfl ?_|refine Cd.seq ?_|refine Cd.reg ?_|refine Ops.nil ?_|refine Ops.nilP rfl rfl rfl rfl ?_|refine Ops.fa0 rfl rfl rfl rfl ?_|refine Ops.ld1 rfl rfl rfl rfl rfl ?_|refine Ops.bin rfl rfl rfl rfl rfl ?_|refine Ops.box rfl rfl rfl rfl (noPd rfl) (fun b=>?_)|refine Ops.alloc rfl rfl rfl (noPd rfl) (fun b=>?_)|refine Ops.st1 rfl rfl rfl rfl rfl (noPd rfl) ?_|refine Cd.condF rfl rfl ?_|refine Cd.skip (Cd.next ?_))
 rename_i xr xb
 rename Nat=>fb
 refine Ops.dfr (fi:=[]) (ca:=[ptr fb,ptr xr,ptr xb]) (vs:=[]) rfl rfl rfl rfl ?_
 refine zg0 ?_
 refine Ops.callVX (fi:=[]) (vs:=[]) hread hB rfl rfl rfl rfl (fun c A' hX=>?_) (fun v A' hR=>?_)
 ·obtain ⟨er,hres,rfl,q,rfl⟩:=hX
  refine leaveD_pan (faceint_pan B0 fb xr xb rb bs p q 0 er 0) hB (fun u' A' hR=>?_)
  obtain ⟨hs,rfl⟩:=hR
  exact .inl ⟨hs,retX (ret1 (A':=RdB rb bs p er :: C) rfl (Res.cell1 rfl rfl) (fun _ h=>h.split) (.inr ⟨er,hres,rfl,rfl⟩))⟩
 ·obtain ⟨u,q,hres,rfl,rfl⟩:=hR
  refine zg15 ?_
  refine Cd.ret (leaveD_ret (faceint_ret B0 fb xr xb rb bs p q 0 u) hB (fun u' A' hR=>?_))
  obtain ⟨rfl,rfl⟩:=hR
  exact .inl ⟨rfl,retX (ret1 (A':=RdB rb bs q 0 :: C) rfl (Res.cell1 rfl rfl) (fun _ h=>h.split) (.inl ⟨u,q,hres,rfl,rfl⟩))⟩
theorem facestring_old (B0:Base) (rb:Nat) (bs:ByteArray) (q e:Int) (g:FuncId) (ca:List Value) (he:e ≠ 0) :
  ConB Tryz.prog B0 249 #[ptr rb,.func (.func g) #[] ca.toArray] [RdB rb bs q e] fun v A=>v = .string ⟨#[]⟩ ∧ A = [RdB rb bs q e]:=by
 refine ConB.intro (vs:=[_,_]) Tryz.func249 rfl Tryz.ntmps249 rfl (fun B hB=>?_)
 repeat' (first|refine Cd.seq ?_|refine Cd.reg ?_|refine Ops.nil ?_|refine Ops.nilP rfl rfl rfl rfl ?_|refine Ops.fa0 rfl rfl rfl rfl ?_|refine Ops.ld1 rfl rfl rfl rfl rfl ?_|refine Ops.bin rfl rfl rfl rfl rfl ?_|refine Ops.box rfl rfl rfl rfl (noPd rfl) (fun b=>?_)|refine Ops.alloc rfl rfl rfl (noPd rfl) (fun b=>?_)|refine Ops.st1 rfl rfl rfl rfl rfl (noPd rfl) ?_|refine Cd.condT rfl zp0 ?_)
 exact ze44
theorem facestring_new (B0:Base) (rb:Nat) (bs:ByteArray) (p:Nat) (g:FuncId) (ca:List Value) (C:List Blk) (res:Int ⊕ (ByteArray × Nat)) [hg:FnOk Tryz.prog g]
  (hread:ConX Tryz.prog B0 g ca.toArray (RdB rb bs p 0 :: C) (fun v A=>∃ u q,res = .inr (u,q) ∧ v = (.string u) ∧ A = RdB rb bs (q:Nat) 0 :: C) (fun c A=>∃ er,res = .inl er ∧ c = [gave er] ∧ ∃ q:Nat,A = RdB rb bs q 0 :: C)) :
  ConB Tryz.prog B0 249 #[ptr rb,.func (.func g) #[] ca.toArray] (RdB rb bs p 0 :: C) fun v A=>(∃ u q,res = .inr (u,q) ∧ v = (.string u) ∧ A = RdB rb bs (q:Nat) 0 :: C) ∨ (∃ er,res = .inl er ∧ v = .string ⟨#[]⟩ ∧ A = RdB rb bs p er :: C):=by
 refine ConX.calm (X:=fun _ _=>False) (ConX.intro (vs:=[_,_]) Tryz.func249 rfl Tryz.ntmps249 rfl (fun B hB=>?_)) (fun _ _ h=>h)
 repeat' (first|refine Ops.mkF rfl rfl rfl rfl rfl ?_|refine Cd.seq ?_|refine Cd.reg ?_|refine Ops.nil ?_|refine Ops.nilP rfl rfl rfl rfl ?_|refine Ops.fa0 rfl rfl rfl rfl ?_|refine Ops.ld1 rfl rfl rfl rfl rfl ?_|refine Ops.bin rfl rfl rfl rfl rfl ?_|refine Ops.box rfl rfl rfl rfl (noPd rfl) (fun b=>?_)|refine Ops.alloc rfl rfl rfl (noPd rfl) (fun b=>?_)|refine Ops.st1 rfl rfl rfl rfl rfl (noPd rfl) ?_|refine Cd.condF rfl rfl ?_|refine Cd.skip (Cd.next ?_))
 rename_i xr xb
 rename Nat=>fb
 refine Ops.dfr (fi:=[]) (ca:=[ptr fb,ptr xr,ptr xb]) (vs:=[]) rfl rfl rfl rfl ?_
 refine zg0 ?_
 refine Ops.callVX (fi:=[]) (vs:=[]) hread hB rfl rfl rfl rfl (fun c A' hX=>?_) (fun v A' hR=>?_)
 ·obtain ⟨er,hres,rfl,q,rfl⟩:=hX
  refine leaveD_pan (facestring_pan B0 fb xr xb rb bs p q 0 er ⟨#[]⟩) hB (fun u' A' hR=>?_)
  obtain ⟨hs,rfl⟩:=hR
  exact .inl ⟨hs,retX (ret1 (A':=RdB rb bs p er :: C) rfl (Res.cell1 rfl rfl) (fun _ h=>h.split) (.inr ⟨er,hres,rfl,rfl⟩))⟩
 ·obtain ⟨u,q,hres,rfl,rfl⟩:=hR
  refine zg15 ?_
  refine Cd.ret (leaveD_ret (facestring_ret B0 fb xr xb rb bs p q 0 u) hB (fun u' A' hR=>?_))
  obtain ⟨rfl,rfl⟩:=hR
  exact .inl ⟨rfl,retX (ret1 (A':=RdB rb bs q 0 :: C) rfl (Res.cell1 rfl rfl) (fun _ h=>h.split) (.inl ⟨u,q,hres,rfl,rfl⟩))⟩
def RR.sum:RR → Int ⊕ (Nat × Nat)
 | .bad e=>.inl e
 | .good n q=>.inr (n,q)
theorem numGo_le {b:ByteArray} {most:Nat} {over:Int}:∀ (k i p acc:Nat) {n q:Nat},numGo b most over k i p acc = .good n q → n ≤ most
 | 0,_,_,_,n,q,h=>by cases h
 | k + 1,i,p,acc,n,q,h=>by
  unfold numGo at h
  split at h
  ·cases h
  ·split at h
   ·exact numGo_le k _ _ _ h
   ·split at h
    ·cases h
    ·split at h
     ·cases h
     ·injection h with h1 h2
      omega
def rdNum (b:ByteArray) (most:Nat) (p:Nat) (e:Int):Nat × Nat × Int:=if e ≠ 0 then (0,p,e) else match numR b most 21 p with
 | .bad er=>(0,p,er)
 | .good n q=>(n,q,0)
def rdList (b:ByteArray) (most:Nat) (p:Nat) (e:Int):Nat × Nat × Int:=if e ≠ 0 then (0,p,e) else match numR b most 23 p with
 | .bad er=>(0,p,er)
 | .good n q=>(n,q,0)
theorem numGo_at {b:ByteArray} {most:Nat} {over:Int}:∀ (k i p acc:Nat) {n q:Nat},numGo b most over k i p acc = .good n q → p ≤ b.size → q ≤ b.size
 | 0,_,_,_,n,q,h,_=>by cases h
 | k + 1,i,p,acc,n,q,h,hp=>by
  unfold numGo at h
  split at h
  ·cases h
  ·rename_i c hc
   have hlt:=(getElem?_eq_some_iff.1 hc).1
   have hlt:p + 1 ≤ b.size:=hlt
   split at h
   ·exact numGo_at k _ _ _ h hlt
   ·split at h
    ·cases h
    ·split at h
     ·cases h
     ·injection h with h1 h2
      omega
theorem rdNum_at {b:ByteArray} {most p:Nat} {e:Int} (hp:p ≤ b.size):(rdNum b most p e).2.1 ≤ b.size:=by
 unfold rdNum
 split
 ·exact hp
 ·split
  ·exact hp
  ·rename_i n q h
   exact numGo_at _ _ _ _ h hp
theorem rdList_at {b:ByteArray} {most p:Nat} {e:Int} (hp:p ≤ b.size):(rdList b most p e).2.1 ≤ b.size:=by
 unfold rdList
 split
 ·exact hp
 ·split
  ·exact hp
  ·rename_i n q h
   exact numGo_at _ _ _ _ h hp
theorem num1_spec (B0:Base) (rb xr mb:Nat) (bs:ByteArray) (p most:Nat) (hp:p ≤ bs.size) (hb:bs.size ≤ 1000000) (hm:most < 18446744073709551616) :
  ConX Tryz.prog B0 137 #[ptr xr,ptr mb] (RdB rb bs p 0 :: [(xr,cl [ptr rb] 160),(mb,cl [.int .u64 most] 38)])
   (fun v A=>∃ u q,(numR bs most 21 p).sum = .inr (u,q) ∧ v = .int .u64 ((u:Nat):Int) ∧ A = RdB rb bs (q:Nat) 0 :: [(xr,cl [ptr rb] 160),(mb,cl [.int .u64 most] 38)])
   (fun c A=>∃ er,(numR bs most 21 p).sum = .inl er ∧ c = [gave er] ∧ ∃ q:Nat,A = RdB rb bs q 0 :: [(xr,cl [ptr rb] 160),(mb,cl [.int .u64 most] 38)]):=by
 refine ConX.intro (vs:=[_,_]) Tryz.func137 rfl Tryz.ntmps137 rfl (fun B hB=>?_)
 refine zg4 ?_
 refine Ops.callX (number_spec B0 rb bs p 0 most 21 hp hb hm) hB rfl rfl rfl (fun c A' hX=>?_) (fun v A' hR=>?_)
 ·obtain ⟨er,hr,rfl,q,rfl⟩:=hX
  exact panX (A':=RdB rb bs q 0 :: [(xr,cl [ptr rb] 160),(mb,cl [.int .u64 most] 38)]) (fun _ h=>h.split) ⟨er,by rw [hr];rfl,rfl,q,rfl⟩
 ·obtain ⟨n,q,hr,hn,hq,rfl,rfl⟩:=hR
  refine zg1 ?_
  exact Cd.ret (retX (ret1 (A':=RdB rb bs q 0 :: [(xr,cl [ptr rb] 160),(mb,cl [.int .u64 most] 38)]) rfl (Res.tmp rfl) (fun _ h=>h.split) ⟨n,q,by rw [hr];rfl,rfl,rfl⟩))
theorem rnum_spec (B0:Base) (rb:Nat) (bs:ByteArray) (p most:Nat) (e:Int) (hp:p ≤ bs.size) (hb:bs.size ≤ 1000000) (hm:most < 18446744073709551616) :
  ConB Tryz.prog B0 87 #[ptr rb,.int .u64 most] [RdB rb bs p e] fun v A=>v = .int .u64 (((rdNum bs most p e).1:Nat):Int) ∧ A = [RdB rb bs (((rdNum bs most p e).2.1:Nat):Int) (rdNum bs most p e).2.2]:=by
 refine ConB.intro (vs:=[_,_]) Tryz.func87 rfl Tryz.ntmps87 rfl (fun B hB=>?_)
 repeat' (first|refine Ops.mkF rfl rfl rfl rfl rfl ?_|refine Cd.seq ?_|refine Cd.reg ?_|refine Ops.asg rfl rfl rfl rfl ?_|refine Ops.ld1 rfl rfl rfl rfl rfl ?_|refine Ops.box rfl rfl rfl rfl (noPd rfl) (fun b=>?_))
 rename_i xr
 rename Nat=>mb
 by_cases he:e = 0
 ·subst he
  refine Ops.callB (faceuint64_new B0 rb bs p 137 [ptr xr,ptr mb] [(xr,cl [ptr rb] 160),(mb,cl [.int .u64 most] 38)] _ (num1_spec B0 rb xr mb bs p most hp hb hm)) hB rfl (noPd rfl) rfl rfl rfl (fun v A' hR=>?_)
  have hu:rdNum bs most p 0 = match numR bs most 21 p with
   | .bad er=>(0,p,er)
   | .good n q=>(n,q,0):=if_neg (by simp)
  rcases hR with ⟨u,q,hr,rfl,rfl⟩|⟨er,hr,rfl,rfl⟩
  ·cases hn:numR bs most 21 p with
   | bad e2=>rw [hn] at hr;cases hr
   | good n q2 =>
    rw [hn] at hr hu
    injection hr with hr
    injection hr with h1 h2
    subst h1;subst h2
    rw [hu]
    refine zg1 ?_
    exact ze49
  ·cases hn:numR bs most 21 p with
   | good n q2=>rw [hn] at hr;cases hr
   | bad e2 =>
    rw [hn] at hr hu
    injection hr with h1
    subst h1
    rw [hu]
    refine zg1 ?_
    exact ze50
 ·refine Ops.callB (faceuint64_old B0 rb bs p e 137 [ptr xr,ptr mb] he) hB rfl (noPd rfl) rfl rfl rfl (fun v A' hR=>?_)
  obtain ⟨rfl,rfl⟩:=hR
  rw [show rdNum bs most p e = (0,p,e) from if_pos he]
  refine zg1 ?_
  exact ze18
theorem wrap_i64 {n:Nat} (h:n < 9223372036854775808):IntKind.wrap .i64 (n:Int) = (n:Int):=by
 simp [IntKind.wrap,IntKind.bits,IntKind.signed];omega
theorem list_spec (B0:Base) (rb:Nat) (bs:ByteArray) (p most:Nat) (hp:p ≤ bs.size) (hb:bs.size ≤ 1000000) (hm:most ≤ 1099511627776) :
  ConX Tryz.prog B0 176 #[ptr rb,.int .i64 most] [RdB rb bs p 0]
   (fun v A=>∃ u q,(numR bs most 23 p).sum = .inr (u,q) ∧ v = .int .i64 ((u:Nat):Int) ∧ A = [RdB rb bs (q:Nat) 0])
   (fun c A=>∃ er,(numR bs most 23 p).sum = .inl er ∧ c = [gave er] ∧ ∃ q:Nat,A = [RdB rb bs q 0]):=by
 refine ConX.intro (vs:=[_,_]) Tryz.func176 rfl Tryz.ntmps176 rfl (fun B hB=>?_)
 refine zg8 ?_
 refine Ops.cvI rfl rfl rfl rfl ?_
 rw [show max (0:Int) (most:Int) = (most:Int) from by omega,wrap_u64 (by omega)]
 skip
 refine Ops.callX (number_spec B0 rb bs p 0 most 23 hp hb (by omega)) hB rfl rfl rfl (fun c A' hX=>?_) (fun v A' hR=>?_)
 ·obtain ⟨er,hr,rfl,q,rfl⟩:=hX
  exact panX (A':=[RdB rb bs q 0]) (fun _ h=>h.split) ⟨er,by rw [hr];rfl,rfl,q,rfl⟩
 ·obtain ⟨n,q,hr,hn,hq,rfl,rfl⟩:=hR
  have hle:n ≤ most:=numGo_le _ _ _ _ hr
  refine Ops.cvI rfl rfl rfl rfl ?_
  rw [wrap_i64 (by omega)]
  refine zg1 ?_
  exact Cd.ret (retX (ret1 (A':=[RdB rb bs q 0]) rfl (Res.tmp rfl) (fun _ h=>h.split) ⟨n,q,by rw [hr];rfl,rfl,rfl⟩))
theorem list1_spec (B0:Base) (rb xr mb:Nat) (bs:ByteArray) (p most:Nat) (hp:p ≤ bs.size) (hb:bs.size ≤ 1000000) (hm:most ≤ 1099511627776) :
  ConX Tryz.prog B0 175 #[ptr xr,ptr mb] (RdB rb bs p 0 :: [(xr,cl [ptr rb] 160),(mb,cl [.int .i64 most] 3)])
   (fun v A=>∃ u q,((numR bs most 23 p).sum.map id (fun x:Nat × Nat=>((x.1:Int),x.2))) = .inr (u,q) ∧ v = .int .i64 u ∧ A = RdB rb bs (q:Nat) 0 :: [(xr,cl [ptr rb] 160),(mb,cl [.int .i64 most] 3)])
   (fun c A=>∃ er,((numR bs most 23 p).sum.map id (fun x:Nat × Nat=>((x.1:Int),x.2))) = .inl er ∧ c = [gave er] ∧ ∃ q:Nat,A = RdB rb bs q 0 :: [(xr,cl [ptr rb] 160),(mb,cl [.int .i64 most] 3)]):=by
 refine ConX.intro (vs:=[_,_]) Tryz.func175 rfl Tryz.ntmps175 rfl (fun B hB=>?_)
 refine zg4 ?_
 refine Ops.callX (list_spec B0 rb bs p most hp hb hm) hB rfl rfl rfl (fun c A' hX=>?_) (fun v A' hR=>?_)
 ·obtain ⟨er,hr,rfl,q,rfl⟩:=hX
  exact panX (A':=RdB rb bs q 0 :: [(xr,cl [ptr rb] 160),(mb,cl [.int .i64 most] 3)]) (fun _ h=>h.split) ⟨er,by rw [hr];rfl,rfl,q,rfl⟩
 ·obtain ⟨n,q,hr,rfl,rfl⟩:=hR
  refine zg1 ?_
  exact Cd.ret (retX (ret1 (A':=RdB rb bs q 0 :: [(xr,cl [ptr rb] 160),(mb,cl [.int .i64 most] 3)]) rfl (Res.tmp rfl) (fun _ h=>h.split) ⟨(n:Int),q,by rw [hr];rfl,rfl,rfl⟩))
theorem rlist_spec (B0:Base) (rb:Nat) (bs:ByteArray) (p most:Nat) (e:Int) (hp:p ≤ bs.size) (hb:bs.size ≤ 1000000) (hm:most ≤ 1099511627776) :
  ConB Tryz.prog B0 101 #[ptr rb,.int .i64 most] [RdB rb bs p e] fun v A=>v = .int .i64 (((rdList bs most p e).1:Nat):Int) ∧ A = [RdB rb bs (((rdList bs most p e).2.1:Nat):Int) (rdList bs most p e).2.2]:=by
 refine ConB.intro (vs:=[_,_]) Tryz.func101 rfl Tryz.ntmps101 rfl (fun B hB=>?_)
 repeat' (first|refine Ops.mkF rfl rfl rfl rfl rfl ?_|refine Cd.seq ?_|refine Cd.reg ?_|refine Ops.asg rfl rfl rfl rfl ?_|refine Ops.ld1 rfl rfl rfl rfl rfl ?_|refine Ops.box rfl rfl rfl rfl (noPd rfl) (fun b=>?_))
 rename_i xr
 rename Nat=>mb
 by_cases he:e = 0
 ·subst he
  refine Ops.callB (faceint_new B0 rb bs p 175 [ptr xr,ptr mb] [(xr,cl [ptr rb] 160),(mb,cl [.int .i64 most] 3)] _ (list1_spec B0 rb xr mb bs p most hp hb hm)) hB rfl (noPd rfl) rfl rfl rfl (fun v A' hR=>?_)
  have hu:rdList bs most p 0 = match numR bs most 23 p with
   | .bad er=>(0,p,er)
   | .good n q=>(n,q,0):=if_neg (by simp)
  rcases hR with ⟨u,q,hr,rfl,rfl⟩|⟨er,hr,rfl,rfl⟩
  ·cases hn:numR bs most 23 p with
   | bad e2=>rw [hn] at hr;cases hr
   | good n q2 =>
    rw [hn] at hr hu
    injection hr with hr
    injection hr with h1 h2
    subst h1;subst h2
    rw [hu]
    refine zg1 ?_
    exact ze49
  ·cases hn:numR bs most 23 p with
   | good n q2=>rw [hn] at hr;cases hr
   | bad e2 =>
    rw [hn] at hr hu
    injection hr with h1
    have h1:e2 = er:=h1
    subst h1
    rw [hu]
    refine zg1 ?_
    exact ze50
 ·refine Ops.callB (faceint_old B0 rb bs p e 175 [ptr xr,ptr mb] he) hB rfl (noPd rfl) rfl rfl rfl (fun v A' hR=>?_)
  obtain ⟨rfl,rfl⟩:=hR
  rw [show rdList bs most p e = (0,p,e) from if_pos he]
  refine zg1 ?_
  exact ze18
theorem read_spec (b0:ByteArray):Con Tryz.prog 86 #[.string b0] [] fun v A=>∃ rb,v = ptr rb ∧ A = [RdB rb b0 0 0]:=by
 refine Con.intro (vs:=[_]) Tryz.func86 rfl Tryz.ntmps86 rfl (fun B=>?_)
 repeat' (first|refine Cd.seq ?_|refine Cd.reg ?_|refine Ops.nil ?_|refine Ops.mv rfl rfl rfl rfl ?_|refine Ops.asg rfl rfl rfl rfl ?_|refine Ops.bld rfl rfl rfl rfl ?_|refine Ops.box rfl rfl rfl rfl (noPd rfl) (fun b=>?_))
 rename Nat=>rb
 exact Cd.ret (ret1 (A':=[RdB rb b0 0 0]) rfl (Res.tmp rfl) (fun _ h=>h.split) ⟨rb,rfl,rfl⟩)
theorem left_spec (rb:Nat) (b0:ByteArray) (p:Nat) (e:Int) (hp:p ≤ b0.size) (hb:b0.size ≤ 1000000):Con Tryz.prog 202 #[ptr rb] [RdB rb b0 p e] fun v A=>v = .int .i64 ((b0.size:Int) - (p:Int)) ∧ A = [RdB rb b0 p e]:=by
 refine Con.intro (vs:=[_]) Tryz.func202 rfl Tryz.ntmps202 rfl (fun B=>?_)
 refine zg0 ?_
 refine Cd.draw [(0,0,[]),(1,0,[]),(2,0,[]),(3,1,[]),(4,0,[]),(5,0,[]),(6,0,[]),(7,0,[]),(8,1,[]),(9,0,[]),(10,0,[])] (by kernel_rfl) (by kernel_rfl) (by simp only [picked,nth];exact rfl) ?_
 refine zg32 ?_
 exact Cd.ret (ret1 (A':=[RdB rb b0 p e]) rfl (Res.tmp rfl) (fun _ h=>h.split) ⟨rfl,rfl⟩)
def faultF (p:Nat) (e:Int):Int × Int:=if e = 0 then (0,0) else (e,(p:Int))
theorem fault_spec (rb:Nat) (b0:ByteArray) (p:Nat) (e:Int):Con Tryz.prog 152 #[ptr rb] [RdB rb b0 p e] fun v A=>v = .tuple #[.int .i64 (faultF p e).1,.int .i64 (faultF p e).2] ∧ A = [RdB rb b0 p e]:=by
 refine Con.intro (vs:=[_]) Tryz.func152 rfl Tryz.ntmps152 rfl (fun B=>?_)
 unfold faultF
 by_cases he:e = 0
 ·rw [if_pos he]
  refine zg24 ?_
  exact ze55
 ·rw [if_neg he]
  refine zg21 ?_
  refine Cd.draw [(0,0,[]),(1,0,[]),(2,0,[]),(3,1,[]),(4,0,[]),(5,0,[]),(6,0,[]),(7,1,[]),(8,0,[]),(9,0,[])] (by kernel_rfl) (by kernel_rfl) (by simp only [picked,nth];exact rfl) ?_
  refine zg7 ?_
  exact ze55
def endF (b0:ByteArray) (p:Nat) (e:Int):Int × Int:=if e = 0 ∧ p < b0.size then (24,(p:Int)) else faultF p e
theorem end_spec (rb:Nat) (b0:ByteArray) (p:Nat) (e:Int):Con Tryz.prog 89 #[ptr rb] [RdB rb b0 p e] fun v A=>v = .tuple #[.int .i64 (endF b0 p e).1,.int .i64 (endF b0 p e).2] ∧ A = [RdB rb b0 p e]:=by
 refine Con.intro (vs:=[_]) Tryz.func89 rfl Tryz.ntmps89 rfl (fun B=>?_)
 unfold endF
 by_cases he:e = 0
 ·by_cases hlt:p < b0.size
  ·have hlt':(p:Int) < b0.size:=by omega
   rw [if_pos ⟨he,hlt⟩]
   refine zg0 ?_
   refine Cd.draw [(0,0,[]),(1,0,[]),(2,0,[]),(3,1,[]),(4,0,[]),(5,0,[]),(6,0,[]),(7,0,[]),(8,0,[]),(9,1,[]),(10,0,[]),(11,0,[]),(12,0,[]),(13,1,[]),(14,0,[]),(15,0,[]),(16,0,[])] (by kernel_rfl) (by kernel_rfl) (by simp only [picked,nth];exact rfl) ?_
   refine zg43 ?_
   refine Cd.draw [(0,0,[]),(1,0,[]),(2,0,[]),(3,1,[]),(4,0,[]),(5,0,[])] (by kernel_rfl) (by kernel_rfl) (by simp only [picked,nth];exact rfl) ?_
   refine zg7 ?_
   exact ze55
  ·have hlt':¬ (p:Int) < b0.size:=by omega
   rw [if_neg (fun h=>hlt h.2)]
   refine zg0 ?_
   refine Cd.draw [(0,0,[]),(1,0,[]),(2,0,[]),(3,1,[]),(4,0,[]),(5,0,[]),(6,0,[]),(7,0,[]),(8,0,[]),(9,1,[]),(10,0,[]),(11,0,[]),(12,0,[]),(13,1,[]),(14,0,[]),(15,0,[]),(16,0,[])] (by kernel_rfl) (by kernel_rfl) (by simp only [picked,nth];exact rfl) ?_
   refine zg43 ?_
   refine Ops.call (fault_spec rb b0 p e) rfl (noPd rfl) rfl rfl rfl (fun v A' hR=>?_)
   obtain ⟨rfl,rfl⟩:=hR
   refine zg5 ?_
   exact ze55
 ·rw [if_neg (fun h=>he h.1)]
  refine zg0 ?_
  refine Cd.draw [(0,0,[]),(1,0,[]),(2,0,[]),(3,1,[]),(4,0,[]),(5,0,[]),(6,0,[]),(7,0,[]),(8,0,[]),(9,1,[]),(10,0,[]),(11,0,[]),(12,0,[]),(13,1,[]),(14,0,[]),(15,0,[]),(16,0,[])] (by kernel_rfl) (by kernel_rfl) (by simp only [picked,nth];exact rfl) ?_
  refine zg11 ?_
  refine Ops.call (fault_spec rb b0 p e) rfl (noPd rfl) rfl rfl rfl (fun v A' hR=>?_)
  obtain ⟨rfl,rfl⟩:=hR
  refine zg5 ?_
  exact ze55
theorem bytesOf_size (xs:List Int):(bytesOf xs).size = xs.length:=by
 unfold bytesOf
 suffices ∀ (s:ByteArray),(xs.foldl (fun r n=>r.push (UInt8.ofNat n.toNat)) s).size = s.size + xs.length by simpa using this .empty
 induction xs with
 | nil=>intro s;simp
 | cons x xs ih=>intro s;rw [List.foldl_cons,ih,ByteArray.size_push,List.length_cons];omega
theorem numB_size {n:Nat} (h:n < 18446744073709551616):(numB n).size ≤ 10:=by
 rw [numB,bytesOf_size]
 exact numL_len 9 n (by omega)
theorem text_spec (s:ByteArray) (hs:s.size ≤ 1000000000):Con Tryz.prog 129 #[.string s] [] fun v A=>v = .string (numB s.size ++ s) ∧ A = []:=by
 refine Con.intro (vs:=[_]) Tryz.func129 rfl Tryz.ntmps129 rfl (fun B=>?_)
 refine zg3 ?_
 refine Ops.cvI rfl rfl rfl rfl ?_
 rw [wrap_u64 (by omega)]
 skip
 refine Ops.call (num_spec s.size (by omega)) rfl (noPd rfl) rfl rfl rfl (fun v A' hR=>?_)
 obtain ⟨rfl,rfl⟩:=hR
 refine zg0 ?_
 refine Ops.cat rfl rfl rfl rfl ?_ rfl ?_
 ·have:(numB s.size).size ≤ 10:=numB_size (by omega)
  omega
 refine zg1 ?_
 exact ze8
@[reducible] def CtB (cb:Nat) (bl la re:Int):Blk:=(cb,cl [.int .i64 bl,.int .i64 la,.int .i64 re] 301)
theorem bnew_yes (bl re:Int) (h1:1 ≤ bl) (h2:bl ≤ 16) (h3:0 ≤ re) (h4:re ≤ 1099511627776):Con Tryz.prog 133 #[.int .i64 bl,.int .i64 re] [] fun v A=>∃ cb,v = .tuple #[ptr cb,.int .i64 0] ∧ A = [CtB cb bl re re]:=by
 refine Con.intro (vs:=[_,_]) Tryz.func133 rfl Tryz.ntmps133 rfl (fun B=>?_)
 have g1:¬ bl < 1:=by omega
 have g2:¬ 16 < bl:=by omega
 have g3:¬ re < 0:=by omega
 have g4:¬ 1099511627776 < re:=by omega
 repeat' (first|refine Cd.seq ?_|refine Cd.reg ?_|refine Ops.nil ?_|refine Ops.mv rfl rfl rfl rfl ?_|refine Ops.asg rfl rfl rfl rfl ?_|refine Ops.bin rfl rfl rfl rfl rfl ?_|refine Ops.pickF rfl rfl rfl rfl rfl ?_|refine Ops.bld rfl rfl rfl rfl ?_|refine Ops.box rfl rfl rfl rfl (noPd rfl) (fun b=>?_)|refine Cd.skip (Cd.next ?_)|refine Cd.condF rfl zp0 ?_|((fail_if_success refine Ops.probe rfl ?_);refine Ops.gF rfl rfl zp0 ?_))
 rename Nat=>cb
 exact Cd.ret (ret2 (A':=[CtB cb bl re re]) rfl (Res.tmp rfl) (Res.tmp rfl) (fun _ h=>h.split) ⟨cb,rfl,rfl⟩)
theorem bmore_spec (cb xc xr:Nat) (bl la re:Int) (r0:Int) (h1:1 ≤ bl) (h2:bl ≤ 16) (h3:0 ≤ re) (h4:re ≤ 1099511627776) :
  Con Tryz.prog 257 #[ptr xc,ptr xr] [CtB cb bl la re,(xc,cl [ptr cb] 88),(xr,cl [.int .i64 r0] 3)]
   fun v A=>A = [CtB cb bl la (if re < la then min (re + bl) 1099511627776 else re),(xc,cl [ptr cb] 88),(xr,cl [.int .i64 (if re < la then min (re + bl) 1099511627776 else r0)] 3)]:=by
 refine Con.intro (vs:=[_,_]) Tryz.func257 rfl Tryz.ntmps257 rfl (fun B=>?_)
 by_cases hlt:re < la
 ·rw [if_pos hlt,if_pos hlt]
  refine zg0 ?_
  refine Cd.draw [(0,1,[]),(1,0,[]),(2,0,[]),(3,1,[]),(4,1,[]),(5,0,[]),(6,0,[]),(7,1,[]),(8,0,[])] (by kernel_rfl) (by kernel_rfl) (by simp only [picked,nth];exact rfl) ?_
  refine zg24 ?_
  refine Cd.draw [(0,1,[]),(1,1,[]),(2,0,[]),(3,0,[]),(4,1,[]),(5,1,[]),(6,0,[]),(7,0,[]),(8,1,[]),(9,0,[]),(10,0,[]),(11,0,[]),(12,0,[]),(13,2,[])] (by kernel_rfl) (by kernel_rfl) (by simp only [picked,nth];exact rfl) ?_
  refine zg23 ?_
  exact Ops.nilN (end0 (A':=[CtB cb bl la (min (re + bl) 1099511627776),(xc,cl [ptr cb] 88),(xr,cl [.int .i64 (min (re + bl) 1099511627776)] 3)]) rfl (fun _ h=>h.split) rfl)
 ·rw [if_neg hlt,if_neg hlt]
  refine zg0 ?_
  refine Cd.draw [(0,1,[]),(1,0,[]),(2,0,[]),(3,1,[]),(4,1,[]),(5,0,[]),(6,0,[]),(7,1,[]),(8,0,[])] (by kernel_rfl) (by kernel_rfl) (by simp only [picked,nth];exact rfl) ?_
  refine zg21 ?_
  exact Cd.skip (end0 (A':=[CtB cb bl la re,(xc,cl [ptr cb] 88),(xr,cl [.int .i64 r0] 3)]) rfl (fun _ h=>h.split) rfl)
def nextB (bl la re:Int):(Int × Int × Int) × Int × Int :=
 if 1099511627776 ≤ la then ((0,0,101),la,re)
 else if re < la + 1 then ((la + 1,min (re + bl) 1099511627776,0),la + 1,min (re + bl) 1099511627776)
 else ((la + 1,0,0),la + 1,re)
theorem bnext_spec (cb:Nat) (bl la re:Int) (h1:1 ≤ bl) (h2:bl ≤ 16) (h3:0 ≤ re) (h4:re ≤ 1099511627776) (h5:0 ≤ la) :
  Con Tryz.prog 228 #[ptr cb] [CtB cb bl la re]
   fun v A=>v = .tuple #[.int .i64 (nextB bl la re).1.1,.int .i64 (nextB bl la re).1.2.1,.int .i64 (nextB bl la re).1.2.2] ∧ A = [CtB cb bl (nextB bl la re).2.1 (nextB bl la re).2.2]:=by
 refine Con.intro (vs:=[_]) Tryz.func228 rfl Tryz.ntmps228 rfl (fun B=>?_)
 by_cases hmax:1099511627776 ≤ la
 ·rw [show nextB bl la re = ((0,0,101),la,re) from if_pos hmax]
  repeat' (first|refine Ops.mkF rfl rfl rfl rfl rfl ?_|refine Cd.seq ?_|refine Cd.reg ?_|refine Ops.nil ?_|refine Ops.asg rfl rfl rfl rfl ?_|refine Ops.nilP rfl rfl rfl rfl ?_|refine Ops.fa0 rfl rfl rfl rfl ?_|refine Ops.ld1 rfl rfl rfl rfl rfl ?_|refine Ops.bin rfl rfl rfl rfl rfl ?_|refine Ops.box rfl rfl rfl rfl (noPd rfl) (fun b=>?_)|refine Ops.alloc rfl rfl rfl (noPd rfl) (fun b=>?_)|refine Ops.st1 rfl rfl rfl rfl rfl (noPd rfl) ?_|refine Cd.condT rfl zp0 ?_)
  exact Cd.ret (ret3 (A':=[CtB cb bl la re]) rfl (Res.tmp rfl) (Res.cell1 rfl rfl) (Res.tmp rfl) (fun _ h=>h.split) ⟨rfl,rfl⟩)
 ·repeat' (first|refine Ops.mkF rfl rfl rfl rfl rfl ?_|refine Cd.seq ?_|refine Cd.reg ?_|refine Ops.nil ?_|refine Ops.mv rfl rfl rfl rfl ?_|refine Ops.asg rfl rfl rfl rfl ?_|refine Ops.nilP rfl rfl rfl rfl ?_|refine Ops.fa0 rfl rfl rfl rfl ?_|refine Ops.ld1 rfl rfl rfl rfl rfl ?_|refine Ops.addI rfl rfl rfl rfl (by omega) (by omega) rfl ?_|refine Ops.bin rfl rfl rfl rfl rfl ?_|refine Ops.box rfl rfl rfl rfl (noPd rfl) (fun b=>?_)|refine Ops.alloc rfl rfl rfl (noPd rfl) (fun b=>?_)|refine Ops.st1 rfl rfl rfl rfl rfl (noPd rfl) ?_|refine Cd.skip (Cd.next ?_)|refine Cd.condF rfl zp0 ?_)
  rename_i xc
  rename Nat=>xr
  refine Ops.callV (fi:=[]) (vs:=[]) (bmore_spec cb xc xr bl (la + 1) re 0 h1 h2 h3 h4) rfl (noPd rfl) rfl rfl rfl rfl (fun v A' hR=>?_)
  obtain rfl:=hR
  by_cases hlt:re < la + 1
  ·rw [show nextB bl la re = ((la + 1,min (re + bl) 1099511627776,0),la + 1,min (re + bl) 1099511627776) from by unfold nextB;rw [if_neg hmax,if_pos hlt]]
   rw [if_pos hlt,if_pos hlt]
   refine zg0 ?_
   refine Cd.draw [(0,1,[]),(1,0,[]),(2,0,[]),(3,1,[]),(4,1,[]),(5,0,[]),(6,2,[]),(7,0,[])] (by kernel_rfl) (by kernel_rfl) (by simp only [picked,nth];exact rfl) ?_
   refine zg7 ?_
   exact Cd.ret (ret3 (A':=[CtB cb bl (la + 1) (min (re + bl) 1099511627776)]) rfl (Res.tmp rfl) (Res.cell1 rfl rfl) (Res.tmp rfl) (fun _ h=>h.split) ⟨rfl,rfl⟩)
  ·rw [show nextB bl la re = ((la + 1,0,0),la + 1,re) from by unfold nextB;rw [if_neg hmax,if_neg hlt]]
   rw [if_neg hlt,if_neg hlt]
   refine zg0 ?_
   refine Cd.draw [(0,1,[]),(1,0,[]),(2,0,[]),(3,1,[]),(4,1,[]),(5,0,[]),(6,2,[]),(7,0,[])] (by kernel_rfl) (by kernel_rfl) (by simp only [picked,nth];exact rfl) ?_
   refine zg7 ?_
   exact Cd.ret (ret3 (A':=[CtB cb bl (la + 1) re]) rfl (Res.tmp rfl) (Res.cell1 rfl rfl) (Res.tmp rfl) (fun _ h=>h.split) ⟨rfl,rfl⟩)
end Go.Proofs.YtaecdnfkcebbeaaGreat
