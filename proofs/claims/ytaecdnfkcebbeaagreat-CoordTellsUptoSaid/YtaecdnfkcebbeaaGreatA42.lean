import Derived.Test.YtaecdnfkcebbeaaGreatA01
import Derived.Test.YtaecdnfkcebbeaaGreatA41
import Derived.Test.YtaecdnfkcebbeaaGreatA25
import Derived.Test.YtaecdnfkcebbeaaGreatA33
import Derived.Test.YtaecdnfkcebbeaaGreatA29
import Derived.Test.YtaecdnfkcebbeaaGreatA37
set_option linter.unusedVariables false
set_option linter.unusedSimpArgs false
namespace Go.Proofs.YtaecdnfkcebbeaaGreat
open Go Go.Sep Go.Proofs
set_option maxRecDepth 10000
set_option maxHeartbeats 40000000
set_option synthInstance.maxSize 2000
@[reducible] def ptrAt (b o:Nat):Value:=.pointer (some ⟨b,o,none⟩)
structure UpS where
 q:Nat
 e:Int
 i:Nat
 l:List Inz
 jv:Value
 JG:List Blk
structure UpJ where
 q:Nat
 e:Int
 j:Nat
 a:Int
 b:Int
 c:Int
structure UpN where
 q:Nat
 e:Int
 n:Int
theorem endF_er {b:ByteArray} {p:Nat} {e:Int} (h:e ≠ 0):(endF b p e).1 ≠ 0:=by
 unfold endF
 rw [if_neg (fun q=>h q.1)]
 unfold faultF
 rw [if_neg h]
 exact h
theorem unpack_spec (B0:Base) (p:ByteArray) (hp9:p.size < 9223372036854775808):UnpackW B0 p:=by
 unfold UnpackW
 refine ConB.intro (vs:=[_]) Tryz.func48 rfl Tryz.ntmps48 rfl (fun B hB=>?_)
 by_cases hsz:1024 < p.size
 ·have hsz':(1024:Int) < p.size:=by omega
  repeat' (first|refine Cd.seq ?_|refine Cd.reg ?_|refine Ops.nil ?_|refine Ops.mv rfl rfl rfl rfl ?_|refine Ops.asg rfl rfl rfl rfl ?_|refine Ops.lenStr rfl rfl rfl rfl ?_|refine Ops.bin rfl rfl rfl rfl rfl ?_|refine Ops.bld rfl rfl rfl rfl ?_|refine Ops.alloc rfl rfl rfl (noPd rfl) (fun b=>?_)|refine Ops.stN rfl rfl rfl rfl rfl rfl (noPd rfl) ?_|refine Cd.condT rfl zp0 ?_)
  exact ze6
 have hsz':¬ (1024:Int) < p.size:=by omega
 have hb:p.size ≤ 1000000:=by omega
 repeat' (first|refine Cd.seq ?_|refine Cd.reg ?_|refine Ops.nil ?_|refine Ops.mv rfl rfl rfl rfl ?_|refine Ops.asg rfl rfl rfl rfl ?_|refine Ops.lenStr rfl rfl rfl rfl ?_|refine Ops.bin rfl rfl rfl rfl rfl ?_|refine Ops.alloc rfl rfl rfl (noPd rfl) (fun b=>?_)|refine Cd.skip (Cd.next ?_)|refine Cd.condF rfl zp0 ?_)
 rename Nat=>zb
 refine Ops.call (read_spec p) rfl (noPd rfl) rfl rfl rfl (fun v A' hR=>?_)
 obtain ⟨rb,rfl,rfl⟩:=hR
 refine zg0 ?_
 refine Ops.callB (wnum B0 rb p hb 1024 (by omega) 0 0 (Nat.zero_le _)) hB rfl (noPd rfl) rfl rfl rfl (fun v A' hR=>?_)
 obtain ⟨fu,t0,rfl,hfu,hfw,ht0,rfl⟩:=hR
 refine Ops.cvI rfl rfl rfl rfl ?_
 rw [hfw]
 repeat' (first|refine Cd.seq ?_|refine Cd.reg ?_|refine Ops.mv rfl rfl rfl rfl ?_|refine Ops.bld rfl rfl rfl rfl ?_|refine Ops.alloc rfl rfl rfl (noPd rfl) (fun b=>?_)|refine Ops.stN rfl rfl rfl rfl rfl rfl (noPd rfl) ?_)
 rename Nat=>pb
 refine Ops.callB (wlist B0 rb p hb 64 (by omega) t0.q t0.e ht0.1) hB rfl (noPd rfl) rfl rfl rfl (fun v A' hR=>?_)
 obtain ⟨n,t1,rfl,hn,ht1,rfl⟩:=hR
 refine zg3 ?_
 refine Cd.loopK (σ:=UpS) (fun t=>t.i ≤ n ∧ RdS.Ok p ⟨t.q,t.e⟩ ∧ Own 184 6 t.jv (t.l.map Inz.row) t.JG ∧ (∀ x ∈ t.l,x.Ok) ∧ t.l.length = t.i) (fun t=>[(0,.string p),(2,ptr zb),(4,ptr rb),(5,ptr pb),(25,.int .i64 n),(26,.int .i64 t.i)])
  (fun t=>(zb,cl [.int .i64 0,.slice none 0 0] 128) :: RdB rb p t.q t.e :: (pb,cl [.int .i64 fu,t.jv] 128) :: t.JG) (fun t=>n - t.i) ⟨t1.q,t1.e,0,[],.slice none 0 0,[]⟩ ⟨Nat.zero_le _,ht1,Own.none,(fun x hx=>by cases hx),rfl⟩ ⟨rfl,rfl,rfl,rfl,rfl,rfl,trivial⟩ (fun w h=>h.split) (fun t ht=>?_)
 obtain ⟨q,e,i,l,jv,JG⟩:=t
 obtain ⟨hi,hq,hO,hk,hl⟩:=ht
 dsimp only at hi hq hO hk hl ⊢
 obtain ⟨ja,jc,rfl⟩:=Own.form hO
 have hll:(l.map Inz.row).length = l.length:=List.length_map _
 rw [hll] at hO ⊢
 by_cases hin:i < n
 ·have hin':(i:Int) < n:=by omega
  have hq1:=hq.1
  dsimp only at hq1
  generalize hc8:Code.seq (Code.region 8 _ _) _ = c8
  refine zg14 ?_
  refine Ops.callB (wnum B0 rb p hb 24 (by omega) q e hq1) hB rfl (noPd rfl) rfl rfl rfl (fun v A' hR=>?_)
  obtain ⟨op,t2,rfl,hop,hopw,ht2,rfl⟩:=hR
  refine Ops.cvI rfl rfl rfl rfl ?_
  rw [hopw]
  repeat' (first|refine Ops.nil ?_|refine Ops.bld rfl rfl rfl rfl ?_|refine Ops.alloc rfl rfl rfl (noPd rfl) (fun b=>?_)|refine Ops.stN rfl rfl rfl rfl rfl rfl (noPd rfl) ?_)
  rename Nat=>xb
  subst hc8
  refine Cd.cut (σ:=Nat × Fm) (fun t=>0 ≤ t.2.n ∧ t.2.n ≤ 3) (fun t=>[(0,.string p),(2,ptr zb),(4,ptr rb),(5,ptr pb),(25,.int .i64 n),(26,.int .i64 i),(6,ptr xb),(7,ptr t.1)])
   (fun t=>(t.1,cl [.string t.2.w,.int .i64 t.2.n,.bool t.2.b1,.bool t.2.b2] 186) :: (xb,cl (insR op 0 0 0 0 0) 184) :: (zb,cl [.int .i64 0,.slice none 0 0] 128) :: RdB rb p t2.q t2.e :: (pb,cl [.int .i64 fu,.slice ja l.length jc] 128) :: JG) ?_ (fun t ht=>?_)
  ·refine Cd.draw [(1,0,[]),(2,1,[]),(0,4,[2]),(3,0,[]),(4,1,[]),(5,2,[2,4]),(6,2,[])] (by kernel_rfl) (by kernel_rfl) (by simp only [picked,nth];exact rfl) ?_
   refine zg2 ?_
   refine Ops.fork' [(1,0,[]),(2,1,[]),(5,4,[2]),(0,2,[2]),(3,0,[]),(4,1,[]),(6,2,[])] (by kernel_rfl) rfl (by simp only [picked,nth];exact rfl) ?_ ?_
   ·skip
    refine Ops.call forms_spec rfl zp7 rfl rfl rfl (fun v A' hR=>?_)
    obtain ⟨g,rows,rfl,rfl,hf,hok⟩:=hR
    obtain ⟨f,hx,hf0,hf3⟩:=hf.at_ (i:=op) (by omega) (by omega)
    refine Ops.ixa0 rfl rfl rfl rfl (by omega) (by omega) rfl ?_
    refine Ops.ldRow rfl rfl rfl hok hx rfl ?_
    refine Ops.alloc rfl rfl rfl zp14 (fun fb=>?_)
    refine zg34 ?_
    exact ze7
   ·skip
    repeat' (first|refine Ops.alloc rfl rfl rfl zp3 (fun b=>?_))
    rename Nat=>fb
    refine Ops.call forms_spec rfl zp7 rfl rfl rfl (fun v A' hR=>?_)
    obtain ⟨g,rows,rfl,rfl,hf,hok⟩:=hR
    obtain ⟨f,hx,hf0,hf3⟩:=hf.at_ (i:=op) (by omega) (by omega)
    refine zg42 ?_
    exact ze7
  ·obtain ⟨fb,fw,fn,b1,b2⟩:=t
   dsimp only at ht ⊢
   obtain ⟨hf0,hf3⟩:=ht
   obtain ⟨m,rfl⟩:∃ m:Nat,fn = m:=⟨fn.toNat,by omega⟩
   have hm3:m ≤ 3:=by omega
   refine Cd.cut (σ:=UpJ) (fun t=>RdS.Ok p ⟨t.q,t.e⟩) (fun t=>[(0,.string p),(2,ptr zb),(4,ptr rb),(5,ptr pb),(25,.int .i64 n),(26,.int .i64 i),(6,ptr xb),(7,ptr fb)])
    (fun t=>(fb,cl [.string fw,.int .i64 m,.bool b1,.bool b2] 186) :: (xb,cl (insR op t.a t.b t.c 0 0) 184) :: (zb,cl [.int .i64 0,.slice none 0 0] 128) :: RdB rb p t.q t.e :: (pb,cl [.int .i64 fu,.slice ja l.length jc] 128) :: JG) ?_ (fun t ht=>?_)
   ·refine zg4 ?_
    refine Ops.bsN [[ptrAt xb 1],[ptrAt xb 2],[ptrAt xb 3]] rfl rfl rfl rfl rfl rfl rfl rfl rfl rfl (noPd rfl) (fun sb=>?_)
    refine zg42 ?_
    rw [Int.toNat_natCast]
    skip
    have hok:RowsOk 1 [[ptrAt xb 1],[ptrAt xb 2],[ptrAt xb 3]]:=List.forall_mem_cons.2 ⟨⟨rfl,rfl⟩,List.forall_mem_cons.2 ⟨⟨rfl,rfl⟩,List.forall_mem_cons.2 ⟨⟨rfl,rfl⟩,List.forall_mem_nil _⟩⟩⟩
    have hat:∀ j:Nat,j < 3 → ([[ptrAt xb 1],[ptrAt xb 2],[ptrAt xb 3]][((j:Nat):Int).toNat]? = some [ptrAt xb 1] ∨ [[ptrAt xb 1],[ptrAt xb 2],[ptrAt xb 3]][((j:Nat):Int).toNat]? = some [ptrAt xb 2] ∨ [[ptrAt xb 1],[ptrAt xb 2],[ptrAt xb 3]][((j:Nat):Int).toNat]? = some [ptrAt xb 3]):=fun j h3=>by
     obtain rfl|rfl|rfl:j = 0 ∨ j = 1 ∨ j = 2:=by omega
     ·exact .inl rfl
     ·exact .inr (.inl rfl)
     ·exact .inr (.inr rfl)
    generalize hrs:[[ptrAt xb 1],[ptrAt xb 2],[ptrAt xb 3]] = rs at hok hat ⊢
    refine Cd.loopK (σ:=UpJ) (fun t=>t.j ≤ m ∧ RdS.Ok p ⟨t.q,t.e⟩) (fun t=>[(0,.string p),(2,ptr zb),(4,ptr rb),(5,ptr pb),(25,.int .i64 n),(26,.int .i64 i),(6,ptr xb),(7,ptr fb),(43,.slice (some ⟨sb,0,none⟩) m 3),(44,.int .i64 m),(45,.int .i64 t.j)])
     (fun t=>(sb,cl (rs.flatten ++ []) 190) :: (fb,cl [.string fw,.int .i64 m,.bool b1,.bool b2] 186) :: (xb,cl (insR op t.a t.b t.c 0 0) 184) :: (zb,cl [.int .i64 0,.slice none 0 0] 128) :: RdB rb p t.q t.e :: (pb,cl [.int .i64 fu,.slice ja l.length jc] 128) :: JG) (fun t=>m - t.j) ⟨t2.q,t2.e,0,0,0,0⟩ ⟨Nat.zero_le _,ht2⟩ ⟨rfl,rfl,rfl,rfl,rfl,rfl,rfl,rfl,rfl,rfl,rfl,trivial⟩ (fun w h=>h.split) (fun t ht=>?_)
    obtain ⟨q3,e3,j,va,vb,vc⟩:=t
    obtain ⟨hj,hq3⟩:=ht
    dsimp only at hj hq3 ⊢
    have hq4:=hq3.1
    dsimp only at hq4
    by_cases hjm:j < m
    ·have hjm':(j:Int) < m:=by omega
     have hj0:(0:Int) ≤ (j:Int):=by omega
     rcases hat j (by omega) with hx|hx|hx
     ·refine zg35 ?_
      refine Ops.callB (wnum B0 rb p hb 7 (by omega) q3 e3 hq4) hB rfl (noPd rfl) rfl rfl rfl (fun v A' hR=>?_)
      obtain ⟨u,t4,rfl,_,hw,ht4,rfl⟩:=hR
      refine Ops.cvI rfl rfl rfl rfl ?_
      rw [hw]
      refine zg23 ?_
      exact Ops.nilN (round_end (⟨t4.q,t4.e,j + 1,u,vb,vc⟩:UpJ) ⟨by show j + 1 ≤ m;omega,ht4⟩ (by show m - (j + 1) < m - j;omega) ⟨rfl,rfl,rfl,rfl,rfl,rfl,rfl,rfl,rfl,rfl,rfl,trivial⟩ (fun w h=>h.split))
     ·refine zg35 ?_
      refine Ops.callB (wnum B0 rb p hb 7 (by omega) q3 e3 hq4) hB rfl (noPd rfl) rfl rfl rfl (fun v A' hR=>?_)
      obtain ⟨u,t4,rfl,_,hw,ht4,rfl⟩:=hR
      refine Ops.cvI rfl rfl rfl rfl ?_
      rw [hw]
      refine zg23 ?_
      exact Ops.nilN (round_end (⟨t4.q,t4.e,j + 1,va,u,vc⟩:UpJ) ⟨by show j + 1 ≤ m;omega,ht4⟩ (by show m - (j + 1) < m - j;omega) ⟨rfl,rfl,rfl,rfl,rfl,rfl,rfl,rfl,rfl,rfl,rfl,trivial⟩ (fun w h=>h.split))
     ·refine zg35 ?_
      refine Ops.callB (wnum B0 rb p hb 7 (by omega) q3 e3 hq4) hB rfl (noPd rfl) rfl rfl rfl (fun v A' hR=>?_)
      obtain ⟨u,t4,rfl,_,hw,ht4,rfl⟩:=hR
      refine Ops.cvI rfl rfl rfl rfl ?_
      rw [hw]
      refine zg23 ?_
      exact Ops.nilN (round_end (⟨t4.q,t4.e,j + 1,va,vb,u⟩:UpJ) ⟨by show j + 1 ≤ m;omega,ht4⟩ (by show m - (j + 1) < m - j;omega) ⟨rfl,rfl,rfl,rfl,rfl,rfl,rfl,rfl,rfl,rfl,rfl,trivial⟩ (fun w h=>h.split))
    ·have hjm':¬ (j:Int) < m:=by omega
     refine zg17 ?_
     exact Cd.exit (inTx (roundX (inBs (meet_end (Q:=fun _ _ _=>True) (⟨q3,e3,j,va,vb,vc⟩:UpJ) hq3 ⟨rfl,rfl,rfl,rfl,rfl,rfl,rfl,rfl,trivial⟩ (fun w h=>h.split)))))
   ·obtain ⟨q3,e3,j,va,vb,vc⟩:=t
    dsimp only at ht ⊢
    have hq4:=ht.1
    dsimp only at hq4
    refine Cd.cut (σ:=UpN) (fun t=>RdS.Ok p ⟨t.q,t.e⟩) (fun t=>[(0,.string p),(2,ptr zb),(4,ptr rb),(5,ptr pb),(25,.int .i64 n),(26,.int .i64 i),(6,ptr xb),(7,ptr fb)])
     (fun t=>(fb,cl [.string fw,.int .i64 m,.bool b1,.bool b2] 186) :: (xb,cl (insR op va vb vc t.n 0) 184) :: (zb,cl [.int .i64 0,.slice none 0 0] 128) :: RdB rb p t.q t.e :: (pb,cl [.int .i64 fu,.slice ja l.length jc] 128) :: JG) ?_ (fun t ht=>?_)
    ·cases b1
     ·refine zg7 ?_
      exact Cd.skip (meet_end (Q:=fun _ _ _=>True) (⟨q3,e3,0⟩:UpN) ht ⟨rfl,rfl,rfl,rfl,rfl,rfl,rfl,rfl,trivial⟩ (fun w h=>h.split))
     ·refine zg7 ?_
      refine Ops.callB (wnum B0 rb p hb 64 (by omega) q3 e3 hq4) hB rfl (noPd rfl) rfl rfl rfl (fun v A' hR=>?_)
      obtain ⟨u,t4,rfl,_,hw,ht4,rfl⟩:=hR
      refine Ops.cvI rfl rfl rfl rfl ?_
      rw [hw]
      refine zg4 ?_
      exact Ops.nilN (meet_end (Q:=fun _ _ _=>True) (⟨t4.q,t4.e,u⟩:UpN) ht4 ⟨rfl,rfl,rfl,rfl,rfl,rfl,rfl,rfl,trivial⟩ (fun w h=>h.split))
    ·obtain ⟨q5,e5,xn⟩:=t
     dsimp only at ht ⊢
     have hq6:=ht.1
     dsimp only at hq6
     refine Cd.cut (σ:=UpJ) (fun t=>RdS.Ok p ⟨t.q,t.e⟩ ∧ 0 ≤ t.a ∧ t.a < 18446744073709551616) (fun t=>[(0,.string p),(2,ptr zb),(4,ptr rb),(5,ptr pb),(25,.int .i64 n),(26,.int .i64 i),(6,ptr xb),(7,ptr fb)])
      (fun t=>(fb,cl [.string fw,.int .i64 m,.bool b1,.bool b2] 186) :: (xb,cl (insR op va vb vc xn t.a) 184) :: (zb,cl [.int .i64 0,.slice none 0 0] 128) :: RdB rb p t.q t.e :: (pb,cl [.int .i64 fu,.slice ja l.length jc] 128) :: JG) ?_ (fun t ht=>?_)
     ·cases b2
      ·refine zg7 ?_
       exact Cd.skip (meet_end (Q:=fun _ _ _=>True) (⟨q5,e5,0,0,0,0⟩:UpJ) ⟨ht,by show (0:Int) ≤ 0;omega,by show (0:Int) < 18446744073709551616;omega⟩ ⟨rfl,rfl,rfl,rfl,rfl,rfl,rfl,rfl,trivial⟩ (fun w h=>h.split))
      ·refine zg7 ?_
       refine Ops.callB (wbits B0 rb p hb q5 e5 hq6) hB rfl (noPd rfl) rfl rfl rfl (fun v A' hR=>?_)
       obtain ⟨u,t4,rfl,hu,ht4,rfl⟩:=hR
       refine zg4 ?_
       exact Ops.nilN (meet_end (Q:=fun _ _ _=>True) (⟨t4.q,t4.e,0,u,0,0⟩:UpJ) ⟨ht4,by show (0:Int) ≤ (u:Int);omega,by show (u:Int) < 18446744073709551616;omega⟩ ⟨rfl,rfl,rfl,rfl,rfl,rfl,rfl,rfl,trivial⟩ (fun w h=>h.split))
     ·obtain ⟨q7,e7,_,xk,_,_⟩:=t
      dsimp only at ht ⊢
      obtain ⟨hq8,hk0,hk1⟩:=ht
      repeat' (first|refine Cd.reg ?_|refine Ops.fa0 rfl rfl rfl rfl ?_|refine Ops.ld1 rfl rfl rfl rfl rfl ?_|refine Ops.ldN rfl rfl rfl rfl ?_|refine Ops.bs1 rfl rfl rfl rfl rfl rfl rfl (noPd rfl) (fun b=>?_))
      refine Ops.app1 (rows:=l.map Inz.row) hO (by rw [hll];omega) (by rw [hll];omega) rfl rfl rfl rfl (by rfl) (by rfl) rfl (noPd rfl) rfl (fun v G' hG'=>?_)
      have hG2:Own 184 6 v ((l ++ [(⟨op,va,vb,vc,xn,xk⟩:Inz)]).map Inz.row) G':=by rw [List.map_append];exact hG'
      clear hG'
      obtain ⟨ja2,jc2,rfl⟩:=Own.form hG2
      refine zg23 ?_
      refine Ops.nilN (round_end (⟨q7,e7,i + 1,l ++ [(⟨op,va,vb,vc,xn,xk⟩:Inz)],_,G'⟩:UpS) ⟨by show i + 1 ≤ n;omega,hq8,hG2,?_,by simp [hl]⟩ (by show n - (i + 1) < n - i;omega) ⟨rfl,rfl,rfl,rfl,rfl,rfl,trivial⟩ (fun w h=>h.split))
      intro x hx
      rcases List.mem_append.1 hx with hx|hx
      ·exact hk x hx
      ·rw [List.mem_singleton] at hx;subst hx;exact ⟨hk0,hk1⟩
 ·have hin':¬ (i:Int) < n:=by omega
  have hq1:=hq.1
  dsimp only at hq1
  refine zg12 ?_
  refine Ops.call (end_spec rb p q e) rfl (noPd rfl) rfl rfl rfl (fun v A' hR=>?_)
  obtain ⟨rfl,rfl⟩:=hR
  generalize hef:(endF p q e).1 = ef
  generalize (endF p q e).2 = eg
  have hef0:p.size = 0 → ef ≠ 0:=fun h=>hef ▸ endF_er (hq.2 h)
  refine zg19 ?_
  have hck:=ConB.lend (P:=Tryz.prog) (B1:=B0) (G:=JG) (A1:=[]) fun B1 e hG=>pcheck_spec B1 fu ja jc l (Own.rin hO hG) hk
  refine Ops.callB hck hB rfl (noPd rfl) rfl rfl rfl (fun v A' hR=>?_)
  obtain ⟨A2,⟨⟨ce,ci,rfl⟩,rfl⟩,rfl⟩:=hR
  by_cases hc0:ce = 0
  ·by_cases he0:ef = 0
   ·refine zg21 ?_
    exact Cd.ret (ret2 (A':=[]) rfl (Res.cellN rfl) (Res.tmp rfl) (fun _ h=>h.split) ⟨_,_,_,_,_,rfl,fun _=>⟨by have:=fun h=>hef0 h he0;omega,by omega⟩⟩)
   ·refine zg36 ?_
    exact ze6
  ·refine zg20 ?_
   exact ze6
theorem dnew_bad (n:Int) (h:¬ (1 ≤ n ∧ n ≤ 1026)):Con Tryz.prog 14 #[.int .i64 n] [] fun v A=>v = .tuple #[.pointer none,.int .i64 40] ∧ A = []:=by
 refine Con.intro (vs:=[_]) Tryz.func14 rfl Tryz.ntmps14 rfl (fun B=>?_)
 by_cases h1:n < 1
 ·refine zg20 ?_
  exact ze15
 ·have h2:(1026:Int) < n:=by omega
  refine zg36 ?_
  exact ze15
theorem new_bad (c:Cf) (hc:¬ CfOk c) (db:Nat) (x:Dk) (k:Nat) (D:List Blk) (hD:DkA db x k D) :
  Con Tryz.prog 15 #[.agg c.row.toArray,ptr db] D fun v A=>v = .tuple #[.pointer none,.int .i64 180] ∧ A = D:=by
 have hfit:fitsF c x = false:=by unfold fitsF;rw [show checkC c = 180 from if_neg hc];simp
 refine Con.intro (vs:=[_,_]) Tryz.func15 rfl Tryz.ntmps15 rfl (fun B=>?_)
 repeat' (first|refine Cd.seq ?_|refine Cd.reg ?_|refine Ops.mv rfl rfl rfl rfl ?_|refine Ops.asg rfl rfl rfl rfl ?_|refine Ops.ldN rfl rfl rfl rfl ?_|refine Ops.box rfl rfl rfl rfl (noPd rfl) (fun b=>?_))
 refine Ops.call (fits_spec c db x k D hD) rfl (noPd rfl) rfl rfl rfl (fun v A' hR=>?_)
 obtain ⟨rfl,e⟩:=hR
 subst A'
 rw [hfit]
 refine zg15 ?_
 exact Cd.ret (ret2 (A':=D) rfl (Res.tmp rfl) (Res.tmp rfl) (fun _ h=>h.split) ⟨rfl,rfl⟩)
theorem dkZ_a {db n:Nat} {D:List Blk} (hn:n ≤ 1026) (hD:DiskA db (List.replicate n zs) 0 0 false 0 D):DkA db (dkZ n) 0 D :=
 ⟨hD,by show (List.replicate n zs).length ≤ 1026;simpa using hn,by decide,(by show (0:Int) ≤ 0;omega),(by show (0:Int) ≤ 128;omega),(by show (0:Int) ≤ 0;omega),(by show (0:Int) ≤ 9223372036854775807;omega)⟩
theorem begun_no (c:Cf) (hc:¬ CfOk c):Con Tryz.prog 4 #[.agg c.row.toArray] [] fun v A=>v = .tuple #[.pointer none,.pointer none] ∧ A = []:=by
 refine Con.intro (vs:=[_]) Tryz.func4 rfl Tryz.ntmps4 rfl (fun B=>?_)
 repeat' (first|refine Cd.seq ?_|refine Cd.reg ?_|refine Ops.asg rfl rfl rfl rfl ?_|refine Ops.fa0 rfl rfl rfl rfl ?_|refine Ops.ld1 rfl rfl rfl rfl rfl ?_|refine Ops.bin rfl rfl rfl rfl rfl ?_|refine Ops.box rfl rfl rfl rfl (noPd rfl) (fun b=>?_))
 generalize IntKind.wrap .i64 _ = z
 by_cases hz:1 ≤ z ∧ z ≤ 1026
 ·obtain ⟨n,rfl⟩:∃ n:Nat,z = n:=⟨z.toNat,by omega⟩
  refine Ops.call (dnew_spec n (by omega) (by omega)) rfl (noPd rfl) rfl rfl rfl (fun v A' hR=>?_)
  obtain ⟨db,rfl,hD⟩:=hR
  rename List Blk=>D
  refine zg13 ?_
  refine Ops.call (new_bad c hc db (dkZ n) 0 D (dkZ_a (by omega) hD)) rfl (noPd rfl) rfl rfl rfl (fun v A' hR=>?_)
  obtain ⟨rfl,e⟩:=hR
  subst A'
  refine zg19 ?_
  exact ze15
 ·refine Ops.call (dnew_bad z hz) rfl (noPd rfl) rfl rfl rfl (fun v A' hR=>?_)
  obtain ⟨rfl,rfl⟩:=hR
  refine zg19 ?_
  exact ze15
theorem begun_yes (B0:Base) (c:Cf) (hc:CfOk c):ConB Tryz.prog B0 4 #[.agg c.row.toArray] [] fun v A=>∃ db xb,v = .tuple #[ptr db,ptr xb] ∧ CoP xb db c 0 (co0 c) A:=by
 obtain ⟨q1,q2,q3,q4⟩:=lenC_room hc
 obtain ⟨_,_,_,_,_,_,_,_,h1,h2⟩:=id hc
 refine ConB.intro (vs:=[_]) Tryz.func4 rfl Tryz.ntmps4 rfl (fun B hB=>?_)
 repeat' (first|refine Cd.seq ?_|refine Cd.reg ?_|refine Ops.asg rfl rfl rfl rfl ?_|refine Ops.fa0 rfl rfl rfl rfl ?_|refine Ops.ld1 rfl rfl rfl rfl rfl ?_|refine Ops.addI rfl rfl rfl rfl (by omega) (by omega) rfl ?_|refine Ops.mulI rfl rfl rfl rfl (by omega) (by omega) rfl ?_|refine Ops.box rfl rfl rfl rfl (noPd rfl) (fun b=>?_))
 rw [← q4]
 refine Ops.call (dnew_spec (lenC c) (by omega) q3) rfl (noPd rfl) rfl rfl rfl (fun v A' hR=>?_)
 obtain ⟨db,rfl,hD⟩:=hR
 rename List Blk=>D
 refine zg13 ?_
 refine Ops.callB (co_new B0 c hc db D (dkZ_a q3 hD)) hB rfl (noPd rfl) rfl rfl rfl (fun v A' hR=>?_)
 obtain ⟨xb,rfl,hP⟩:=hR
 refine zg13 ?_
 exact Cd.ret (ret2 (A':=A') rfl (Res.tmp rfl) (Res.tmp rfl) (fun _ h=>h.split) ⟨db,xb,rfl,hP⟩)
structure LOp where
 on:Int
 kind:Int
 n:Int
 bytes:Int
 node:Int
 life:Int
 m:Ms
 s:ByteArray
@[reducible] def LOp.row (o:LOp):List Value:=[.int .i64 o.on,.int .i64 o.kind,.int .i64 o.n,.int .i64 o.bytes,.int .i64 o.node,.int .i64 o.life,.int .i64 o.m.kind,.int .i64 o.m.session,.int .i64 o.m.number,.int .i64 o.m.job,.int .i64 o.m.badge,.int .i64 o.m.index,.int .i64 o.m.count,.int .i64 o.m.rcode,.int .u64 o.m.rbits,.string o.m.text,.string o.m.prog,.string o.s]
structure LOp.Ok (o:LOp):Prop where
 x:0 ≤ o.m.rbits ∧ o.m.rbits < 18446744073709551616
 s:o.s.size < 9223372036854775808
def StepR (c:Cf) (len n:Nat) (o o1:Co):Prop:=CoOk c len (n + 1) o1 ∧ ∃ cs,o1.tl = o.tl ++ cs ∧ applyF o.q.st cs = ((0,0),o1.q.st)
theorem does_spec (B0:Base) (xb db:Nat) (c:Cf) (hc:CfOk c) (len n:Nat) (hlen:20480 ≤ roomF len) (hn:n ≤ 2000000) (o:Co) (h:CoOk c len n o) (A:List Blk) (hA:CoP xb db c n o A) (p:LOp) (hp:p.Ok) :
  ConB Tryz.prog B0 8 #[ptr xb,.agg p.row.toArray] A fun v A'=>(∃ b:Bool,v = .bool b) ∧ ∃ o1 A1 J,StepR c len n o o1 ∧ CoP xb db c (n + 1) o1 A1 ∧ A' = A1 ++ J:=by
 refine ConB.intro (vs:=[_,_]) Tryz.func8 rfl Tryz.ntmps8 rfl (fun B hB=>?_)
 by_cases k0:p.kind = 0
 ·repeat' (first|refine Cd.seq ?_|refine Cd.reg ?_|refine Ops.nil ?_|refine Ops.mv rfl rfl rfl rfl ?_|refine Ops.asg rfl rfl rfl rfl ?_|refine Ops.fa0 rfl rfl rfl rfl ?_|refine Ops.ld1 rfl rfl rfl rfl rfl ?_|refine Ops.bin rfl rfl rfl rfl rfl ?_|refine Ops.box rfl rfl rfl rfl (noPd rfl) (fun b=>?_)|refine Cd.block ?_|refine Cd.condT rfl zp0 ?_)
  refine Ops.callB (co_submit B0 xb db c hc len n hlen hn o h A hA p.s (unpack_spec B0 p.s hp.s)) hB rfl (noPd rfl) rfl rfl rfl (fun v A' hR=>?_)
  obtain ⟨bad,job,rfl,hb2,e,he,hP⟩:=hR
  refine zg8 ?_
  exact Cd.ret (ret1 (A':=A' ++ []) rfl (Res.tmp rfl) (fun _ h=>by rw [List.append_nil];exact h.split) ⟨⟨_,rfl⟩,_,A',[],h.submit hc hlen hn he,hP,rfl⟩)
 by_cases k1:p.kind = 1
 ·repeat' (first|refine Cd.seq ?_|refine Cd.reg ?_|refine Ops.nil ?_|refine Ops.asg rfl rfl rfl rfl ?_|refine Ops.fa0 rfl rfl rfl rfl ?_|refine Ops.ld1 rfl rfl rfl rfl rfl ?_|refine Ops.ldN rfl rfl rfl rfl ?_|refine Ops.bin rfl rfl rfl rfl rfl ?_|refine Ops.box rfl rfl rfl rfl (noPd rfl) (fun b=>?_)|refine Cd.block ?_|refine Cd.condT rfl zp0 ?_|refine Cd.condF rfl zp0 ?_)
  refine Ops.call (encode7_spec p.m hp.x) rfl (noPd rfl) rfl rfl rfl (fun v A' hR=>?_)
  obtain ⟨⟨s,e,rfl,hs⟩,rfl⟩:=hR
  refine zg26 ?_
  refine Ops.callB (co_hear B0 xb db c hc len n hlen hn o h A hA p.node p.life s (by omega)) hB rfl (noPd rfl) rfl rfl rfl (fun v A' hR=>?_)
  obtain ⟨reply,o1,said,J,A1,rfl,hH,hP,_,rfl⟩:=hR
  refine zg8 ?_
  exact ze16
 by_cases k2:p.kind = 2
 ·repeat' (first|refine Cd.seq ?_|refine Cd.reg ?_|refine Ops.nil ?_|refine Ops.mv rfl rfl rfl rfl ?_|refine Ops.asg rfl rfl rfl rfl ?_|refine Ops.fa0 rfl rfl rfl rfl ?_|refine Ops.ld1 rfl rfl rfl rfl rfl ?_|refine Ops.ldN rfl rfl rfl rfl ?_|refine Ops.bin rfl rfl rfl rfl rfl ?_|refine Ops.box rfl rfl rfl rfl (noPd rfl) (fun b=>?_)|refine Cd.block ?_|refine Cd.condT rfl zp0 ?_|refine Cd.condF rfl zp0 ?_)
  refine Ops.callB (co_hear B0 xb db c hc len n hlen hn o h A hA p.node p.life p.s hp.s) hB rfl (noPd rfl) rfl rfl rfl (fun v A' hR=>?_)
  obtain ⟨reply,o1,said,J,A1,rfl,hH,hP,_,rfl⟩:=hR
  refine zg8 ?_
  exact ze16
 ·obtain ⟨A0,hp1,hA0⟩:=hA
  have ht:=(co_tick B0 xb db c hc len n hlen hn o h A0 hA0).permIn hp1
  obtain ⟨g1,g2⟩:=h.tick hc hlen hn
  repeat' (first|refine Cd.seq ?_|refine Cd.reg ?_|refine Ops.nil ?_|refine Ops.mv rfl rfl rfl rfl ?_|refine Ops.asg rfl rfl rfl rfl ?_|refine Ops.fa0 rfl rfl rfl rfl ?_|refine Ops.ld1 rfl rfl rfl rfl rfl ?_|refine Ops.bin rfl rfl rfl rfl rfl ?_|refine Ops.box rfl rfl rfl rfl (noPd rfl) (fun b=>?_)|refine Cd.block ?_|refine Cd.condF rfl zp0 ?_)
  refine Ops.callB ht hB rfl (noPd rfl) rfl rfl rfl (fun v A' hR=>?_)
  obtain ⟨rfl,hP⟩:=hR
  refine zg8 ?_
  exact Cd.ret (ret1 (A':=A' ++ []) rfl (Res.tmp rfl) (fun _ h=>by rw [List.append_nil];exact h.split) ⟨⟨_,rfl⟩,_,A',[],⟨g1,_,rfl,g2⟩,hP.p,rfl⟩)
theorem sameT_spec (B0:Base) (a1 a2:Option Addr) (c1 c2:Nat) (l:List ByteArray) (h1:SIn B0 a1 l) (h2:SIn B0 a2 l) (hl:l.length ≤ 2000000) :
  ConB Tryz.prog B0 68 #[.slice a1 l.length c1,.slice a2 l.length c2] [] fun v A=>v = .bool true ∧ A = []:=by
 refine ConB.intro (vs:=[_,_]) Tryz.func68 rfl Tryz.ntmps68 rfl (fun B hB=>?_)
 refine zg17 ?_
 refine Cd.loopK (σ:=Nat) (fun i=>i ≤ l.length) (fun i=>[(0,.slice a1 l.length c1),(1,.slice a2 l.length c2),(5,.int .i64 i)]) (fun _=>[]) (fun i=>l.length - i) 0 (Nat.zero_le _) ⟨rfl,rfl,rfl,trivial⟩ (fun w h=>h.split) (fun i hi=>?_)
 by_cases hil:i < l.length
 ·have hil':(i:Int) < l.length:=by omega
  obtain ⟨s,hs⟩:∃ s,l[i]? = some s:=⟨_,List.getElem?_eq_getElem hil⟩
  obtain ⟨b1,o1,rfl,hr1⟩:=(h1.ext hB) i s hs
  obtain ⟨b2,o2,rfl,hr2⟩:=(h2.ext hB) i s hs
  have hq1:∀ A,Rd B.plain A b1 (o1 + (i:Int).toNat * 1) (.string s):=fun A=>by rw [Int.toNat_natCast];exact hr1 A
  have hq2:∀ A,Rd B.plain A b2 (o2 + (i:Int).toNat * 1) (.string s):=fun A=>by rw [Int.toNat_natCast];exact hr2 A
  clear hr1 hr2
  refine zg29 ?_
  refine Cd.draw [(0,0,[]),(1,0,[]),(2,0,[]),(3,1,[]),(4,0,[]),(5,0,[]),(6,0,[]),(7,1,[]),(8,0,[])] (by kernel_rfl) (by kernel_rfl) (by simp only [picked,nth];exact rfl) ?_
  refine zg38 ?_
  refine Ops.ldR rfl rfl rfl (hq1 _) rfl ?_
  refine zg38 ?_
  refine Ops.ldR rfl rfl rfl (hq2 _) rfl ?_
  refine zg27 ?_
  exact Ops.nilN (round_end (i + 1:Nat) (by show i + 1 ≤ l.length;omega) zp15 ⟨rfl,rfl,rfl,trivial⟩ (fun w h=>h.split))
 ·have hil':¬ (i:Int) < l.length:=by omega
  refine zg17 ?_
  exact ze8
theorem sameP_spec (B0:Base) (r:Rw) (p:ByteArray) (x1 x2:Lg) (h1:SIn B0 x1.a x1.txs) (h2:SIn B0 x2.a x2.txs) (he:x2.txs = x1.txs) (hl:x1.txs.length ≤ 2000000) :
  ConB Tryz.prog B0 30 #[.agg (Pl.row ⟨r,p,x1⟩).toArray,.agg (Pl.row ⟨r,p,x2⟩).toArray] [] fun v A=>v = .bool true ∧ A = []:=by
 have hs:=sameT_spec B0 x1.a x2.a x1.c x2.c x1.txs h1 (he ▸ h2) hl
 refine ConB.intro (vs:=[_,_]) Tryz.func30 rfl Tryz.ntmps30 rfl (fun B hB=>?_)
 obtain ⟨a2,c2,t2,G2⟩:=x2
 dsimp only at he
 subst he
 repeat' (first|refine Cd.seq ?_|refine Cd.reg ?_|refine Ops.mv rfl rfl rfl rfl ?_|refine Ops.asg rfl rfl rfl rfl ?_|refine Ops.fa0 rfl rfl rfl rfl ?_|refine Ops.ld1 rfl rfl rfl rfl rfl ?_|refine Ops.ldN rfl rfl rfl rfl ?_|refine Ops.bin rfl rfl rfl rfl rfl ?_|refine Ops.pickT rfl rfl rfl rfl rfl ?_|refine Ops.box rfl rfl rfl rfl (noPd rfl) (fun b=>?_))
 refine Ops.callB hs hB rfl (noPd rfl) rfl rfl rfl (fun v A' hR=>?_)
 obtain ⟨rfl,rfl⟩:=hR
 refine zg5 ?_
 exact ze8
def ViewIn (B:Base) (v:Value) (s:StP):Prop :=
 ∃ (a:Option Addr) (ps:List Pl),v = .agg [.int .i64 s.res,.slice a s.rows.length s.rows.length].toArray ∧ RIn 10 B a (ps.map Pl.row) ∧ (∀ p ∈ ps,SIn B p.l.a p.l.txs) ∧ ps.map Pl.pure = viewL s
theorem RsT.sin {a:Option Addr} {n c:Nat} {l:List ByteArray} {G:List Blk} (h:RsT (.slice a n c) l G) {B:Base} (hG:Holds B G):SIn B a l:=fun i s hs=>by
 obtain ⟨b,off,ha,h5⟩:=(Rs.rin h hG) i (trow s) (by rw [List.getElem?_map,hs];rfl)
 exact ⟨b,off,ha,fun A=>h5 A 0 _ rfl⟩
theorem ViewA.in_ {v:Value} {s:StP} {A:List Blk} (h:ViewA v s A) {B:Base} (hB:Holds B A):ViewIn B v s:=by
 obtain ⟨a,ps,JG,rfl,rfl,h1,h2,h3⟩:=h
 exact ⟨a,ps,rfl,Rs.rin h1 (hB.sub fun p hp=>List.mem_append_left _ hp),fun p hp=>(h2 p hp).sin (hB.sub fun q hq=>List.mem_append_right _ (List.mem_flatMap.2 ⟨p,hp,hq⟩)),h3⟩
theorem same_in (B0:Base) (v1 v2:Value) (s:StP) (ok:StOk s) (h1:ViewIn B0 v1 s) (h2:ViewIn B0 v2 s) :
  ConB Tryz.prog B0 11 #[v1,v2] [] fun v A=>v = .bool true ∧ A = []:=by
 obtain ⟨a1,ps1,rfl,hr1,ht1,hp1⟩:=h1
 obtain ⟨a2,ps2,rfl,hr2,ht2,hp2⟩:=h2
 have hvl:(viewL s).length = s.rows.length:=by have:=ok.np;have:=ok.nl;simp [viewL];omega
 have hn8:=ok.nr
 have hlg:∀ x ∈ viewL s,x.2.2.length ≤ 2000000:=fun x hx=>by
  have h1:=(List.of_mem_zip hx).2
  have h2:=ok.lg x.2.2 (List.of_mem_zip h1).2
  omega
 refine ConB.intro (vs:=[_,_]) Tryz.func11 rfl Tryz.ntmps11 rfl (fun B hB=>?_)
 generalize s.rows.length = n at hvl hn8 ⊢
 repeat' (first|refine Cd.seq ?_|refine Cd.reg ?_|refine Ops.nil ?_|refine Ops.mv rfl rfl rfl rfl ?_|refine Ops.asg rfl rfl rfl rfl ?_|refine Ops.fa0 rfl rfl rfl rfl ?_|refine Ops.ld1 rfl rfl rfl rfl rfl ?_|refine Ops.lenS rfl rfl rfl rfl ?_|refine Ops.bin rfl rfl rfl rfl rfl ?_|refine Ops.pickF rfl rfl rfl rfl rfl ?_|refine Ops.box rfl rfl rfl rfl (noPd rfl) (fun b=>?_)|refine Cd.block ?_|refine Cd.skip (Cd.next ?_)|refine Cd.condF rfl zp0 ?_|((fail_if_success refine Ops.probe rfl ?_);refine Ops.gF rfl rfl zp0 ?_))
 rename_i v2
 rename Nat=>v3
 refine Cd.loopK (σ:=Nat) (fun i=>i ≤ n) (fun i=>[(2,ptr v2),(3,ptr v3),(5,.int .i64 i)]) (fun _=>[(v2,cl [.int .i64 s.res,.slice a1 n n] 52),(v3,cl [.int .i64 s.res,.slice a2 n n] 52)]) (fun i=>n - i) 0 (Nat.zero_le _) ⟨rfl,rfl,rfl,trivial⟩ (fun w h=>h.split) (fun i hi=>?_)
 by_cases hil:i < n
 ·have hil':(i:Int) < n:=by omega
  obtain ⟨x,hx⟩:∃ x,(viewL s)[i]? = some x:=⟨_,List.getElem?_eq_getElem (by omega)⟩
  have hxl:=hlg x (List.mem_of_getElem? hx)
  obtain ⟨p1,hp1,he1⟩:∃ p,ps1[i]? = some p ∧ p.pure = x:=by
   rw [← hp1,List.getElem?_map] at hx
   cases hl:ps1[i]? with
   | none=>rw [hl] at hx;cases hx
   | some p=>rw [hl] at hx;injection hx with hx;exact ⟨p,rfl,hx⟩
  obtain ⟨p2,hp2,he2⟩:∃ p,ps2[i]? = some p ∧ p.pure = x:=by
   rw [← hp2,List.getElem?_map] at hx
   cases hl:ps2[i]? with
   | none=>rw [hl] at hx;cases hx
   | some p=>rw [hl] at hx;injection hx with hx;exact ⟨p,rfl,hx⟩
  have hm1:=ht1 p1 (List.mem_of_getElem? hp1)
  have hm2:=ht2 p2 (List.mem_of_getElem? hp2)
  obtain ⟨b1,o1,rfl,hq1⟩:=(hr1.ext hB) i p1.row (by rw [List.getElem?_map,hp1];rfl)
  obtain ⟨b2,o2,rfl,hq2⟩:=(hr2.ext hB) i p2.row (by rw [List.getElem?_map,hp2];rfl)
  obtain ⟨r1,g1,x1⟩:=p1
  obtain ⟨r2,g2,x2⟩:=p2
  subst he1
  injection he2 with e1 e2
  injection e2 with e2 e3
  dsimp only at e1 e2 e3 hm1 hm2 hxl
  subst e1;subst e2
  have hw1:∀ A j u,(Pl.row ⟨r2,g2,x1⟩)[j]? = some u → Rd B.plain A b1 (o1 + (i:Int).toNat * 10 + j) u:=fun A j u hu=>by rw [Int.toNat_natCast];exact hq1 A j u hu
  have hw2:∀ A j u,(Pl.row ⟨r2,g2,x2⟩)[j]? = some u → Rd B.plain A b2 (o2 + (i:Int).toNat * 10 + j) u:=fun A j u hu=>by rw [Int.toNat_natCast];exact hq2 A j u hu
  clear hq1 hq2
  refine zg29 ?_
  refine Cd.draw [(0,0,[]),(1,1,[]),(2,0,[]),(3,0,[]),(4,1,[]),(5,0,[]),(6,1,[]),(7,0,[]),(8,0,[]),(9,1,[]),(10,2,[]),(11,0,[])] (by kernel_rfl) (by kernel_rfl) (by simp only [picked,nth];exact rfl) ?_
  refine zg38 ?_
  refine Ops.ldRN (r:=Pl.row ⟨r2,g2,x1⟩) rfl rfl rfl rfl (hw1 _) rfl ?_
  refine zg38 ?_
  refine Ops.ldRN (r:=Pl.row ⟨r2,g2,x2⟩) rfl rfl rfl rfl (hw2 _) rfl ?_
  refine Ops.callB (sameP_spec B0 r2 g2 x1 x2 hm1 hm2 e3 hxl) hB rfl (noPd rfl) rfl rfl rfl (fun v A' hR=>?_)
  obtain ⟨rfl,rfl⟩:=hR
  refine zg27 ?_
  exact Ops.nilN (round_end (i + 1:Nat) (by show i + 1 ≤ n;omega) (by show n - (i + 1) < n - i;omega) ⟨rfl,rfl,rfl,trivial⟩ (fun w h=>h.split))
 ·have hil':¬ (i:Int) < n:=by omega
  refine zg17 ?_
  exact ze8
theorem same_spec (B0:Base) (v1 v2:Value) (s:StP) (ok:StOk s) (V1 V2:List Blk) (h1:ViewA v1 s V1) (h2:ViewA v2 s V2) :
  ConB Tryz.prog B0 11 #[v1,v2] (V1 ++ V2) fun v A=>v = .bool true ∧ A = V1 ++ V2:=by
 have hl:=ConB.lend (P:=Tryz.prog) (B1:=B0) (G:=V1 ++ V2) (A1:=[]) fun B1 e hG=>same_in B1 v1 v2 s ok (h1.in_ (hG.sub fun p hp=>List.mem_append_left _ hp)) (h2.in_ (hG.sub fun p hp=>List.mem_append_right _ hp))
 refine (hl.permIn (List.Perm.refl _)).mono fun v A hR=>?_
 obtain ⟨A2,⟨rfl,rfl⟩,rfl⟩:=hR
 exact ⟨rfl,rfl⟩
theorem cdead_spec (xb lb tb cb mb db wb sb:Nat) (c:Cf) (tv:Value) (dead:Bool) (x:Dk) (k:Nat) (D:List Blk) (hD:DkA db x k D) :
  Con Tryz.prog 21 #[ptr xb] (CoB xb lb tb cb mb db wb sb c tv dead :: D) fun v A=>v = .bool (dead || x.de) ∧ A = CoB xb lb tb cb mb db wb sb c tv (dead || x.de) :: D:=by
 refine Con.intro (vs:=[_]) Tryz.func21 rfl Tryz.ntmps21 rfl (fun B=>?_)
 refine zg0 ?_
 refine Ops.call (lives_spec xb lb tb cb mb db wb sb c tv dead x k D hD) rfl (noPd rfl) rfl rfl rfl (fun v A' hR=>?_)
 obtain ⟨rfl,rfl⟩:=hR
 generalize (dead || x.de) = dd
 refine zg10 ?_
 exact Cd.ret (ret1 (A':=CoB xb lb tb cb mb db wb sb c tv dd :: D) rfl (Res.tmp rfl) (fun _ h=>h.split) ⟨by rw [Bool.not_not],rfl⟩)
end Go.Proofs.YtaecdnfkcebbeaaGreat
namespace Go.Proofs.YtaecdnfkcebbeaaGreat
open Go Go.Sep Go.Proofs
set_option maxRecDepth 100000
def cf0:Cf:=⟨2,4,2,2,2,4,2,4,160⟩
theorem cf0_ok:CfOk cf0:=by decide
def dk0:Dk:=⟨List.replicate 322 zs,0,0,false⟩
def sec1:ByteArray:=sectorF ⟨1,0,0,0⟩
theorem dk0_calm:Calm dk0 322:=⟨rfl,rfl,by show (List.replicate 322 zs).length = 322;simp,fun s hs=>by
 rw [show dk0.S = List.replicate 322 zs from rfl,List.mem_replicate] at hs
 rw [hs.2];simp [zs,ByteArray.size]⟩
def dk1:Dk:=(dk0.write 1 sec1).1
theorem dk1_calm:Calm dk1 322 ∧ (dk0.write 1 sec1).2 = 0:=by
 have h:=write_calm dk0_calm (i:=1) (by decide) (sectorF_size ⟨1,0,0,0⟩)
 exact ⟨h.2,h.1⟩
theorem zs_none (S:List ByteArray) (at_:Nat) (h:S.getD at_ .empty = zs):foundF S at_ = none:=by
 unfold foundF
 rw [h]
 have e:ofF (zs.extract 0 8) = 0:=by kernel_rfl
 dsimp only
 rw [if_pos (.inl (by rw [e];decide))]
theorem counts0:countsF dk0.S = none:=by
 have h:∀ i,i < 322 → dk0.S.getD i .empty = zs:=fun i hi=>by
  rw [show dk0.S = List.replicate 322 zs from rfl,List.getD_eq_getElem?_getD,List.getElem?_replicate_of_lt hi];rfl
 unfold countsF
 rw [zs_none _ 0 (h 0 (by decide)),zs_none _ 1 (h 1 (by decide))]
theorem format0:formatF dk0 = (dk1,0):=by
 unfold formatF
 rw [if_neg (by decide),if_neg (by rw [dk0_calm.len];decide),counts0]
 rw [if_neg (by decide)]
 exact Prod.ext rfl dk1_calm.2
theorem dk1_S:dk1.S = (List.replicate 322 zs).set 1 sec1:=by kernel_rfl
theorem open1:openW dk1 = (some (⟨1,0,0,0⟩,⟨#[]⟩,[]),0):=by
 have h0:dk1.S.getD 0 .empty = zs:=by rw [dk1_S];rfl
 have h1:dk1.S.getD 1 .empty = sec1:=by rw [dk1_S];rfl
 have hf:foundF dk1.S 1 = some (⟨1,0,0,0⟩,⟨#[]⟩,[]):=by
  unfold foundF
  rw [h1]
  have e1:ofF (sec1.extract 0 8) = 1:=by kernel_rfl
  have e2:rdN sec1 9 13 = 0:=by kernel_rfl
  have e3:rdN sec1 13 17 = 0:=by kernel_rfl
  have e4:bat sec1 8 = 0:=by kernel_rfl
  dsimp only
  rw [e1,e2,e3,e4,if_neg (by decide),if_neg (by
   rintro (q|q|q)
   ·exact q rfl
   ·omega
   ·omega)]
  have e5:(bytesF dk1.S 0 0).extract 0 0 = ⟨#[]⟩:=by
   apply ByteArray.ext
   simp [ByteArray.data_extract]
  rw [show (0:Nat) + 0 = 0 from rfl,e5]
  have e6:framesG ⟨#[]⟩ 0 = some []:=by
   unfold framesG
   rw [dif_neg (by decide)]
  rw [e6]
  rfl
 unfold openW
 rw [if_neg (by rw [dk1_calm.1.de];decide),if_neg (by rw [dk1_calm.1.len];decide)]
 unfold countsF
 rw [zs_none _ 0 h0,hf]
def rec1:ByteArray:=(encodeF [Ch.res 2]).1
theorem rec1_size:rec1.size = 3:=by kernel_rfl
theorem dec1:decF ⟨#[1]⟩ = (Ms.of 1,0):=by kernel_rfl
theorem enc1:(encF ⟨7,1,0,0,0,0,0,0,0,⟨#[]⟩,⟨#[]⟩⟩).1 = ⟨#[7,1]⟩:=by kernel_rfl
theorem hello1:Se.helloV (Se.rowAt (Se.fresh 2) (3 - 2)) 1 = (2,0):=by kernel_rfl
@[reducible] def wl1:Wl:=⟨⟨1,0,0,0⟩,0,false⟩
theorem room1:rec1.size ≤ roomW wl1 322:=by rw [rec1_size];exact Nat.le_of_ble_eq_true (by kernel_rfl)
theorem wl1_ok:WlOk wl1 322:=⟨by decide,by decide,by decide,by decide,by decide⟩
theorem append1:∃ w x,appendF wl1 dk1 rec1 = ((w,x),0) ∧ Calm x 322:=by
 have h:=append_calm (r:=rec1) dk1_calm.1 wl1_ok rfl (by rw [rec1_size];decide) (by rw [rec1_size];decide) (Nat.le_of_ble_eq_true (by kernel_rfl)) (by decide)
 exact ⟨_,_,Prod.ext rfl h.1,h.2.2⟩
theorem next1:nextB 2 0 0 = ((1,2,0),1,2):=by decide
end Go.Proofs.YtaecdnfkcebbeaaGreat
namespace Go.Proofs.YtaecdnfkcebbeaaGreat
open Go Go.Sep Go.Proofs
set_option maxRecDepth 10000
set_option maxHeartbeats 40000000
set_option synthInstance.maxSize 2000
theorem config_spec:Con Tryz.prog 17 #[] [] fun v A=>v = .agg cf0.row.toArray ∧ A = []:=by
 refine Con.intro (vs:=[]) Tryz.func17 rfl Tryz.ntmps17 rfl (fun B=>?_)
 repeat' (first|refine Cd.seq ?_|refine Cd.reg ?_|refine Ops.nil ?_|refine Ops.bld rfl rfl rfl rfl ?_|refine Ops.alloc rfl rfl rfl (noPd rfl) (fun b=>?_)|refine Ops.stN rfl rfl rfl rfl rfl rfl (noPd rfl) ?_)
 exact ze39
theorem lhello_spec:Con Tryz.prog 19 #[] [] fun v A=>v = .string ⟨#[1]⟩ ∧ A = []:=by
 refine Con.intro (vs:=[]) Tryz.func19 rfl Tryz.ntmps19 rfl (fun B=>?_)
 refine zg3 ?_
 exact ze8
theorem fixed_spec (B0:Base):ConB Tryz.prog B0 6 #[] [] fun v A=>v = .bool true ∧ A = []:=by
 refine ConB.intro (vs:=[]) Tryz.func6 rfl Tryz.ntmps6 rfl (fun B hB=>?_)
 refine zg0 ?_
 refine Ops.call (dnew_spec 322 (by decide) (by decide)) rfl (noPd rfl) rfl rfl rfl (fun v A' hR=>?_)
 obtain ⟨db,rfl,hD⟩:=hR
 rename List Blk=>D
 have hD0:DkA db dk0 0 D:=⟨hD,by show (List.replicate 322 zs).length ≤ 1026;simp,by decide,by decide,by decide,by decide,by decide⟩
 clear hD
 refine zg13 ?_
 refine Ops.call config_spec rfl (noPd rfl) rfl rfl rfl (fun v A' hR=>?_)
 obtain ⟨rfl,rfl⟩:=hR
 refine zg0 ?_
 refine Ops.callB (new_new B0 cf0 cf0_ok db dk0 dk1 0 D hD0 (by decide) (by rw [dk0_calm.len];decide) format0 (by rw [dk1_calm.1.len];decide) ⟨1,0,0,0⟩ open1) hB rfl (noPd rfl) rfl rfl rfl (fun v A' hR=>?_)
 obtain ⟨D1,hD1,xb,lb,lm,tb,cb,mb,wb,sb,sv,G,SD,rfl,rfl,hO,hS⟩:=hR
 refine zg19 ?_
 refine Ops.call lhello_spec rfl (noPd rfl) rfl rfl rfl (fun v A' hR=>?_)
 obtain ⟨rfl,rfl⟩:=hR
 skip
 obtain ⟨w1,x1,hap,hcalm⟩:=append1
 have hh:=hello_new B0 xb lb tb cb mb db wb sb cf0 cf0_ok false wl1 w1 dk1 x1 1 D1 hD1 ⟨cf0.attempts,[],0,[],[]⟩ SD hS (stOk_new (by decide) (by decide)) (.slice none 0 0) [] [] Own.none (by decide) sv (Se.fresh 2) G hO 0 0 1 2 1 2 (by decide) (by decide) (by decide) next1 (by decide) (by decide) (by rw [dk1_calm.1.len];exact wl1_ok) (by decide) (by rw [show (encodeF [Ch.res 2]).1.size = 3 from rec1_size];decide) (by decide) (by rw [dk1_calm.1.len];exact room1) hap 3 1 (Ms.of 1) (by decide) (by decide) hello1
 rw [enc1] at hh
 have hh2:=hh.permIn (A2:=CoB xb lb tb cb mb db wb sb cf0 (.slice none 0 0) false :: (D1 ++ (Se.TabB tb sv G ++ (CtB cb cf0.block 0 0 :: WlB wb db wl1 :: SD)))) (List.Perm.cons _ (by
  rw [List.append_nil]
  refine List.perm_append_comm.trans ?_
  rw [List.append_assoc]
  exact List.Perm.refl _))
 clear hh
 refine Ops.callB (hear_hello B0 xb lb tb cb mb db wb sb cf0 cf0_ok (.slice none 0 0) dk1 1 D1 hD1 dk1_calm.1.de _ 3 1 (by decide) (by decide) (by decide) (by decide) ⟨#[1]⟩ (by decide) (Ms.of 1) dec1 rfl ⟨#[7,1]⟩ (by decide) _ hh2) hB rfl (noPd rfl) rfl rfl rfl (fun v A' hR=>?_)
 obtain ⟨A1,g,rfl,⟨SD1,D2,tv1,TG1,G1,rfl,hS1,hD2,hT1,hO1⟩,rfl⟩:=hR
 clear hh2
 rw [List.nil_append] at hT1
 refine zg5 ?_
 refine Ops.call (ctold_spec xb lb tb cb mb db wb sb cf0 false tv1 _ TG1 hT1 (by decide) (fun q hq=>by rw [List.mem_singleton] at hq;subst hq;exact ⟨rfl,rfl,rfl⟩)) rfl (noPd rfl) rfl rfl rfl (fun v A' hR=>?_)
 obtain ⟨a2,rfl,rfl,hrs⟩:=hR
 rcases hrs.2 with ⟨q,_,_⟩|⟨g2,c2,sp2,q,rfl⟩
 ·injection q with _ q2 _;cases q2
 injection q with q1 _ _
 subst q1
 clear hrs hT1
 simp only [List.map_cons,List.map_nil,List.flatten_cons,List.flatten_nil,List.append_nil,List.cons_append,List.nil_append,List.length_cons,List.length_nil]
 refine zg37 ?_
 refine Ops.callB (tick_nil B0 xb lb lm tb cb mb db wb sb cf0 cf0_ok (.slice none 0 0) x1 _ D2 hD2 hcalm.de) hB rfl (noPd rfl) rfl rfl rfl (fun v A' hR=>?_)
 obtain ⟨rfl,lb1,lm1,es,ck,rfl,hok⟩:=hR
 refine zg8 ?_
 refine Ops.call (cdead_spec xb lb1 tb cb mb db wb sb cf0 (.slice none 0 0) false x1 _ D2 hD2) rfl (noPd rfl) rfl rfl rfl (fun v A' hR=>?_)
 rw [hcalm.de] at hR
 obtain ⟨rfl,rfl⟩:=hR
 refine zg10 ?_
 exact ze8
end Go.Proofs.YtaecdnfkcebbeaaGreat
