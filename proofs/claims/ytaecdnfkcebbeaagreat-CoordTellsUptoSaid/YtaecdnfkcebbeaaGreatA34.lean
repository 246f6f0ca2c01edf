import Derived.Test.YtaecdnfkcebbeaaGreatA01
import Derived.Test.YtaecdnfkcebbeaaGreatA29
import Derived.Test.YtaecdnfkcebbeaaGreatA33
import Derived.Test.YtaecdnfkcebbeaaGreatA30
set_option linter.unusedVariables false
set_option linter.unusedSimpArgs false
namespace Go.Proofs.YtaecdnfkcebbeaaGreat
open Go Go.Sep Go.Proofs
set_option maxRecDepth 10000
set_option maxHeartbeats 40000000
set_option synthInstance.maxSize 2000
theorem enc_ok {l:List Ch} (h:(encodeF l).2 = 0):0 < (encodeF l).1.size ∧ (encodeF l).1.size ≤ 2048:=by
 unfold encodeF at h ⊢
 split at h
 ·cases h
 ·rename_i hl
  rw [if_neg hl]
  split at h
  ·rename_i c hf
   have:=List.find?_some hf
   simp only [decide_eq_true_eq] at this
   exact absurd h this
  ·rename_i hf
   split at h
   ·cases h
   ·rename_i hsz
    rw [if_neg hsz]
    refine ⟨?_,by show (encN l l.length).size ≤ 2048;omega⟩
    have hn:∀ i,0 < (encN l i).size:=by
     intro i
     induction i with
     | zero =>
      show 0 < (numB l.length).size
      rw [numB,bytesOf_size]
      unfold numL
      split <;> simp
     | succ i ih=>rw [encN,ByteArray.size_append];omega
    exact hn _
def preW (every:Int) (w:Wl) (x:Dk) (b r:ByteArray):Wl × Dk:=if wants every w x.S.length r then (snapF w x b).1 else (w,x)
theorem mkW_pre (every:Int) (w:Wl) (x:Dk) (b r:ByteArray):mkW every w x b r = (appendF (preW every w x b r).1 (preW every w x b r).2 r).1:=by
 unfold mkW preW
 split <;> rfl
structure MkS where
 w:Wl
 x:Dk
 k:Nat
 D:List Blk
theorem makes_gen (B0:Base) (xb lb tb cb mb db wb sb:Nat) (c:Cf) (hc:CfOk c) (dead:Bool) (w:Wl) (x:Dk) (len:Nat) (lg:LgOk w x len) (hroom:20480 ≤ roomF len) (hnum:w.h.number + 2 < 1099511627776) (k:Nat) (D:List Blk) (hD:DkA db x k D) (hk:k ≤ 700000000000) (s:StP) (SD:List Blk) (hS:StA sb s SD) (ok:StOk s) (bd:StBd s) (tv:Value) (tl:List Cg) (TG:List Blk) (hT:OwnC tv tl TG) (htl:tl.length ≤ 1000000000)
  (a:Option Addr) (cp:Nat) (l:List Cg) (hC:CIn B0 a l) (h0:0 < l.length) (hl:l.length ≤ 2000000) (henc:(encodeF (l.map Cg.c)).2 = 0) :
  ConB Tryz.prog B0 45 #[ptr xb,.slice a l.length cp] (CoB xb lb tb cb mb db wb sb c tv dead :: WlB wb db w :: (SD ++ (D ++ TG)))
   fun v A=>∃ SD1 D1 tv1 TG1 k1,A = CoB xb lb tb cb mb db wb sb c tv1 dead :: WlB wb db (mkW c.every w x (bytesS s) (encodeF (l.map Cg.c)).1).1 :: (SD1 ++ (D1 ++ TG1)) ∧ StA sb (applyF s (l.map Cg.c)).2 SD1 ∧ DkA db (mkW c.every w x (bytesS s) (encodeF (l.map Cg.c)).1).2 k1 D1 ∧ k1 ≤ k + 20000 ∧ OwnC tv1 (tl ++ l) TG1:=by
 obtain ⟨ta,tc,rfl⟩:=hT.form
 obtain ⟨_,_,_,_,_,_,_,⟨ev1,ev16⟩,_⟩:=id hc
 obtain ⟨hr0,hr1⟩:=enc_ok henc
 have hb:=bytesS_le bd ok
 have hmk:=mk_calm (every:=c.every) (b:=bytesS s) lg ev16 hroom hnum hb hr0 hr1
 have wok:WlOk w x.S.length:=by rw [lg.cm.len];exact lg.wo
 refine ConB.intro (vs:=[_,_]) Tryz.func45 rfl Tryz.ntmps45 rfl (fun B hB=>?_)
 have h0':¬ ((l.length:Nat):Int) = 0:=by omega
 generalize hc2:Code.seq (Code.seq (Code.region 2 _ _) _) _ = c2
 refine zg12 ?_
 refine Ops.callB (encode_spec B0 a cp l hC hl) hB rfl (noPd rfl) rfl rfl rfl (fun v A' hR=>?_)
 obtain ⟨rfl,rfl⟩:=hR
 generalize encodeF (l.map Cg.c) = en at henc hr0 hr1 hmk ⊢
 obtain ⟨r,er⟩:=en
 dsimp only at henc hr0 hr1 hmk ⊢
 have hpre:=mkW_pre c.every w x (bytesS s) r
 have hpr0:preW c.every w x (bytesS s) r = if wants c.every w x.S.length r then (snapF w x (bytesS s)).1 else (w,x):=rfl
 rw [hpre] at hmk ⊢
 obtain ⟨hmk1,hmk2,hmk3,hmk4⟩:=hmk
 refine zg5 ?_
 subst hc2
 refine Cd.cut (σ:=MkS) (fun t=>(t.w,t.x) = preW c.every w x (bytesS s) r ∧ DkA db t.x t.k t.D ∧ t.k ≤ k + 17020) (fun _=>[(0,ptr xb),(1,.slice a l.length cp),(4,.string r)]) (fun t=>CoB xb lb tb cb mb db wb sb c (.slice ta tl.length tc) dead :: WlB wb db t.w :: (SD ++ (t.D ++ TG))) ?_ (fun t ht=>?_)
 ·by_cases hw1:c.every ≤ w.recs
  ·have hwt:wants c.every w x.S.length r:=.inl hw1
   rw [if_pos hwt] at hpr0
   obtain ⟨q1,q2,q3⟩:=hmk3 hwt
   refine zg0 ?_
   refine Cd.draw [(0,0,[]),(1,0,[]),(2,0,[]),(3,1,[]),(5,0,[]),(6,0,[]),(7,0,[]),(8,0,[]),(9,1,[]),(4,2,[9]),(10,0,[]),(11,0,[]),(12,0,[]),(13,0,[]),(14,0,[]),(15,1,[]),(17,0,[]),(18,0,[]),(16,2,[]),(19,0,[]),(20,0,[])] (by kernel_rfl) (by kernel_rfl) (by simp only [picked,nth];exact rfl) ?_
   refine zg2 ?_
   refine Ops.call (records_spec wb db w) rfl zp1 rfl rfl rfl (fun v A' hR=>?_)
   obtain ⟨rfl,rfl⟩:=hR
   refine zg22 ?_
   refine Cd.draw [(0,0,[]),(1,0,[]),(2,0,[]),(3,1,[]),(4,0,[]),(5,0,[]),(6,0,[]),(7,1,[]),(8,2,[3]),(9,2,[]),(10,0,[])] (by kernel_rfl) (by kernel_rfl) (by simp only [picked,nth];exact rfl) ?_
   refine zg2 ?_
   refine Ops.callB (sbytes_own B0 sb s SD hS ok bd) hB rfl zp1 rfl rfl rfl (fun v A' hR=>?_)
   obtain ⟨rfl,e⟩:=hR
   subst A'
   skip
   refine Ops.callB (snapshot_spec B0 wb db w x k D hD (bytesS s) wok (by omega) (by omega)) hB rfl (noPd rfl) rfl rfl rfl (fun v A' hR=>?_)
   obtain ⟨rfl,D1,rfl,hD1⟩:=hR
   rw [q1]
   refine zg10 ?_
   exact ze54
  ·by_cases hw2:roomW w x.S.length < r.size
   ·have hwt:wants c.every w x.S.length r:=.inr hw2
    have hw2':((roomW w x.S.length:Nat):Int) < ((r.size:Nat):Int):=by omega
    rw [if_pos hwt] at hpr0
    obtain ⟨q1,q2,q3⟩:=hmk3 hwt
    refine zg0 ?_
    refine Cd.draw [(0,0,[]),(1,0,[]),(2,0,[]),(3,1,[]),(5,0,[]),(6,0,[]),(7,0,[]),(8,0,[]),(9,1,[]),(4,2,[9]),(10,0,[]),(11,0,[]),(12,0,[]),(13,0,[]),(14,0,[]),(15,1,[]),(17,0,[]),(18,0,[]),(16,2,[]),(19,0,[]),(20,0,[])] (by kernel_rfl) (by kernel_rfl) (by simp only [picked,nth];exact rfl) ?_
    refine zg2 ?_
    refine Ops.call (records_spec wb db w) rfl zp1 rfl rfl rfl (fun v A' hR=>?_)
    obtain ⟨rfl,rfl⟩:=hR
    refine zg11 ?_
    refine Ops.callB (roomw_spec B0 wb db w x k D hD wok) hB rfl zp1 rfl rfl rfl (fun v A' hR=>?_)
    obtain ⟨rfl,rfl⟩:=hR
    refine zg29 ?_
    refine Cd.draw [(0,0,[]),(1,0,[]),(2,0,[]),(3,1,[]),(4,0,[]),(5,0,[]),(6,0,[]),(7,1,[]),(8,2,[3]),(9,2,[]),(10,0,[])] (by kernel_rfl) (by kernel_rfl) (by simp only [picked,nth];exact rfl) ?_
    refine zg2 ?_
    refine Ops.callB (sbytes_own B0 sb s SD hS ok bd) hB rfl zp1 rfl rfl rfl (fun v A' hR=>?_)
    obtain ⟨rfl,e⟩:=hR
    subst A'
    skip
    refine Ops.callB (snapshot_spec B0 wb db w x k D hD (bytesS s) wok (by omega) (by omega)) hB rfl (noPd rfl) rfl rfl rfl (fun v A' hR=>?_)
    obtain ⟨rfl,D1,rfl,hD1⟩:=hR
    rw [q1]
    refine zg10 ?_
    exact ze54
   ·have hwt:¬ wants c.every w x.S.length r:=by rintro (q|q);exact hw1 q;exact hw2 q
    have hw2':¬ ((roomW w x.S.length:Nat):Int) < ((r.size:Nat):Int):=by omega
    rw [if_neg hwt] at hpr0
    refine zg0 ?_
    refine Cd.draw [(0,0,[]),(1,0,[]),(2,0,[]),(3,1,[]),(5,0,[]),(6,0,[]),(7,0,[]),(8,0,[]),(9,1,[]),(4,2,[9]),(10,0,[]),(11,0,[]),(12,0,[]),(13,0,[]),(14,0,[]),(15,1,[]),(17,0,[]),(18,0,[]),(16,2,[]),(19,0,[]),(20,0,[])] (by kernel_rfl) (by kernel_rfl) (by simp only [picked,nth];exact rfl) ?_
    refine zg2 ?_
    refine Ops.call (records_spec wb db w) rfl zp1 rfl rfl rfl (fun v A' hR=>?_)
    obtain ⟨rfl,rfl⟩:=hR
    refine zg11 ?_
    refine Ops.callB (roomw_spec B0 wb db w x k D hD wok) hB rfl zp1 rfl rfl rfl (fun v A' hR=>?_)
    obtain ⟨rfl,rfl⟩:=hR
    refine zg17 ?_
    exact Cd.skip (meet_end (Q:=fun _ _ _=>True) (⟨w,x,k,D⟩:MkS) ⟨hpr0.symm,hD,by show k ≤ k + 17020;omega⟩ ⟨rfl,rfl,rfl,trivial⟩ (fun w h=>h.split))
 obtain ⟨w2,x2,k2,D2⟩:=t
 obtain ⟨e2,hD2,hk2⟩:=ht
 dsimp only at e2 hD2 hk2 ⊢
 have hlg2:LgOk w2 x2 len ∧ (appendF w2 x2 r).2 = 0:=by
  by_cases hwt:wants c.every w x.S.length r
  ·rw [if_pos hwt] at hpr0
   obtain ⟨q1,q2,q3⟩:=hmk3 hwt
   rw [hpr0] at e2
   rw [← e2] at q2 q3
   exact ⟨q2,q3⟩
  ·rw [if_neg hwt] at hpr0
   have q3:=hmk4 hwt
   rw [hpr0] at e2
   injection e2 with e3 e4
   subst e3
   subst e4
   exact ⟨lg,q3⟩
 rw [← e2]
 obtain ⟨lg2,hap⟩:=hlg2
 have wok2:WlOk w2 x2.S.length:=by rw [lg2.cm.len];exact lg2.wo
 clear hmk1 hmk2 hmk3 hmk4 hpr0 hpre e2
 dsimp only
 refine zg4 ?_
 refine Ops.callB (append_spec B0 wb db w2 x2 k2 D2 hD2 r wok2 (by omega) (by omega)) hB rfl (noPd rfl) rfl rfl rfl (fun v A' hR=>?_)
 obtain ⟨rfl,D1,rfl,hD1⟩:=hR
 rw [hap]
 refine zg7 ?_
 refine Ops.callB (apply_spec B0 sb s SD hS ok a cp l hC (by omega) (fun g hg hck=>step_all B0 g.c (hC.x g hg) hck)) hB rfl (noPd rfl) rfl rfl rfl (fun v A' hR=>?_)
 obtain ⟨rfl,hS1⟩:=hR
 rename List Blk=>SD1
 refine zg28 ?_
 refine Ops.appS (rows:=tl.map Cg.row) (news:=l.map Cg.row) hT ((by simpa using (hC.ext hB).r.reads (cgs_ok l) (by decide) cp _):Reads _ _ _ 10 (.slice a l.length cp) _) (by simp only [List.length_map];omega) (by simp only [List.length_map];omega) rfl rfl rfl rfl rfl (noPd rfl) rfl (fun v G' hG'=>?_)
 rw [← List.map_append] at hG'
 have hG2:OwnC v (tl ++ l) G':=hG'
 obtain ⟨ta1,tc1,rfl⟩:=hG2.form
 refine zg4 ?_
 exact Ops.nilN (end0 (A':=CoB xb lb tb cb mb db wb sb c (.slice ta1 (tl ++ l).length tc1) dead :: WlB wb db (appendF w2 x2 r).1.1 :: (SD1 ++ (D1 ++ G'))) rfl (fun _ h=>h.split) ⟨SD1,D1,_,G',_,rfl,hS1,hD1,by omega,hG2⟩)
def placeF (s:StP) (badge:Int):Option (Rw × ByteArray × List ByteArray):=(lastAt s.rows badge).bind fun i=>(viewL s)[i]?
@[reducible] def pl0:Pl:=⟨Rw.zero,⟨#[]⟩,⟨none,0,[],[]⟩⟩
def PlR (s:StP) (badge:Int) (p:Pl):Prop:=p.pure = (placeF s badge).getD (Rw.zero,⟨#[]⟩,[]) ∧ RsT (.slice p.l.a p.l.txs.length p.l.c) p.l.txs p.l.G
theorem sfind_spec (B0:Base) (sb:Nat) (s:StP) (hS:StIn B0 sb s) (ok:StOk s) (badge:Int) :
  ConB Tryz.prog B0 231 #[ptr sb,.int .i64 badge] [] fun v A=>∃ p:Pl,v = .tuple #[.agg p.row.toArray,.bool (placeF s badge).isSome] ∧ A = p.l.G ∧ PlR s badge p:=by
 have hS0:=hS
 obtain ⟨qb,ra,rc,pa,pc,la,lc,ls,h1,h2,h3,h4,h5,h6⟩:=hS
 obtain ⟨o1,o2,o3,o4,o5,o6,o7⟩:=id ok
 have hq2:Holds B0 [QuB qb s.att (.slice ra s.rows.length rc)]:=h1.sub fun p hp=>List.mem_cons_of_mem _ hp
 refine ConB.intro (vs:=[_,_]) Tryz.func231 rfl Tryz.ntmps231 rfl (fun B hB=>?_)
 have hQ:=hB.holds h1
 have hc0:∀ A,Rd B.plain A sb 0 (ptr qb):=hQ.cell (List.mem_cons_self ..) rfl
 repeat' (first|refine Cd.seq ?_|refine Cd.reg ?_|refine Ops.mv rfl rfl rfl rfl ?_|refine Ops.asg rfl rfl rfl rfl ?_|refine Ops.nilP rfl rfl rfl rfl ?_|refine Ops.fa0 rfl rfl rfl rfl ?_|refine Ops.alloc rfl rfl rfl (noPd rfl) (fun b=>?_))
 rename Nat=>zb
 refine Ops.ldR rfl rfl rfl (hc0 _) rfl ?_
 refine zg0 ?_
 refine Ops.callB (qfind_spec B0 qb s.att ra rc s.rows badge o3 hq2 h2) hB rfl (noPd rfl) rfl rfl rfl (fun v A' hR=>?_)
 cases hla:lastAt s.rows badge with
 | none =>
  have hf:findF18 s.rows badge = none:=by unfold findF18;rw [hla];rfl
  have hpf:placeF s badge = none:=by unfold placeF;rw [hla];rfl
  rw [hf] at hR
  dsimp only [Option.getD_none,Option.isSome_none] at hR
  obtain ⟨rfl,rfl⟩:=hR
  rw [hpf]
  dsimp only [Option.isSome_none]
  repeat' (first|refine Cd.seq ?_|refine Cd.reg ?_|refine Ops.nil ?_|refine Ops.mv rfl rfl rfl rfl ?_|refine Ops.asg rfl rfl rfl rfl ?_|refine Ops.un rfl rfl rfl rfl ?_|refine Ops.ext rfl rfl rfl rfl rfl ?_|refine Ops.bld rfl rfl rfl rfl ?_|refine Ops.alloc rfl rfl rfl (noPd rfl) (fun b=>?_)|refine Ops.stN rfl rfl rfl rfl rfl rfl (noPd rfl) ?_|refine Cd.condT rfl rfl ?_)
  exact Cd.ret (ret2 (A':=[]) rfl (Res.cellN rfl) (Res.tmp rfl) (fun _ h=>h.split) ⟨pl0,rfl,rfl,by rw [hpf];rfl,RsT.none⟩)
 | some i =>
  have hi:=lastAt_lt hla
  obtain ⟨r,hr⟩:∃ r,s.rows[i]? = some r:=⟨_,List.getElem?_eq_getElem hi⟩
  obtain ⟨p,hp⟩:∃ p,s.progs[i]? = some p:=⟨_,List.getElem?_eq_getElem (by omega)⟩
  obtain ⟨t,ht⟩:∃ t,s.logs[i]? = some t:=⟨_,List.getElem?_eq_getElem (by omega)⟩
  have hf:findF18 s.rows badge = some r:=by unfold findF18;rw [hla];exact hr
  have hpf:placeF s badge = some (r,p,t):=by
   unfold placeF;rw [hla]
   simp [viewL,List.getElem?_zip_eq_some,hr,hp,ht]
  rw [hf] at hR
  dsimp only [Option.getD_some,Option.isSome_some] at hR
  obtain ⟨rfl,rfl⟩:=hR
  rw [hpf]
  dsimp only [Option.isSome_some]
  repeat' (first|refine Cd.seq ?_|refine Cd.reg ?_|refine Ops.nil ?_|refine Ops.mv rfl rfl rfl rfl ?_|refine Ops.asg rfl rfl rfl rfl ?_|refine Ops.ldN rfl rfl rfl rfl ?_|refine Ops.un rfl rfl rfl rfl ?_|refine Ops.ext rfl rfl rfl rfl rfl ?_|refine Ops.alloc rfl rfl rfl (noPd rfl) (fun b=>?_)|refine Ops.stN rfl rfl rfl rfl rfl rfl (noPd rfl) ?_|refine Cd.condF rfl rfl ?_|refine Cd.skip (Cd.next ?_))
  refine Ops.callB (place_spec B0 sb s hS0 ok i r p t hr hp ht) hB rfl (noPd rfl) rfl rfl rfl (fun v A' hR=>?_)
  obtain ⟨x,rfl,rfl,hx,hrs⟩:=hR
  refine zg5 ?_
  exact Cd.ret (ret2 (A':=x.G) rfl (Res.cellN rfl) (Res.tmp rfl) (fun _ h=>h.split) ⟨⟨r,p,x⟩,rfl,rfl,by rw [hpf,Option.getD_some,Pl.pure,hx],hrs⟩)
theorem sfind_own (B0:Base) (sb:Nat) (s:StP) (SD:List Blk) (hD:StA sb s SD) (ok:StOk s) (badge:Int) :
  ConB Tryz.prog B0 231 #[ptr sb,.int .i64 badge] SD fun v A=>∃ p:Pl,v = .tuple #[.agg p.row.toArray,.bool (placeF s badge).isSome] ∧ A = p.l.G ++ SD ∧ PlR s badge p :=
 (ConB.lend (A1:=[]) fun B1 e hG=>sfind_spec B1 sb s (hD.in_ hG) ok badge).mono fun v A hR=>by
  obtain ⟨A',⟨p,rfl,rfl,hp⟩,rfl⟩:=hR
  exact ⟨p,rfl,rfl,hp⟩
def heldF (s:StP) (badge node life:Int):Bool:=match placeF s badge with
 | none=>false
 | some (r,_,_)=>decide (r.status = 2) && (decide (r.node = node) && decide (r.life = life))
theorem chheld_spec (B0:Base) (xb lb tb cb mb db wb sb:Nat) (c:Cf) (tv:Value) (dead:Bool) (node life:Int) (m:Ms) (s:StP) (SD:List Blk) (hD:StA sb s SD) (ok:StOk s) :
  ConB Tryz.prog B0 161 #[.agg (heV xb node life m).toArray] (CoB xb lb tb cb mb db wb sb c tv dead :: SD) fun v A=>∃ p:Pl,v = .tuple #[.agg p.row.toArray,.bool (heldF s m.badge node life)] ∧ A = CoB xb lb tb cb mb db wb sb c tv dead :: (p.l.G ++ SD) ∧ PlR s m.badge p:=by
 refine ConB.intro (vs:=[_]) Tryz.func161 rfl Tryz.ntmps161 rfl (fun B hB=>?_)
 generalize hc1:Code.seq (Code.region 1 _ _) _ = c1
 repeat' (first|refine Cd.seq ?_|refine Cd.reg ?_|refine Ops.nil ?_|refine Ops.asg rfl rfl rfl rfl ?_|refine Ops.box rfl rfl rfl rfl (noPd rfl) (fun b=>?_)|refine Ops.alloc rfl rfl rfl (noPd rfl) (fun b=>?_))
 rename_i hb
 rename Nat=>zb
 subst hc1
 refine Cd.cut (σ:=Nat × Pl) (fun t=>PlR s m.badge t.2) (fun t=>[(1,ptr hb),(2,ptr zb),(3,.bool false),(4,ptr t.1),(5,.bool (placeF s m.badge).isSome)]) (fun t=>(t.1,cl t.2.row 100) :: (zb,cl pl0.row 100) :: (hb,cl (heV xb node life m) 116) :: CoB xb lb tb cb mb db wb sb c tv dead :: (t.2.l.G ++ SD)) ?_ (fun t ht=>?_)
 ·refine Cd.draw [(0,0,[]),(1,1,[]),(2,0,[]),(3,0,[]),(4,1,[]),(5,0,[]),(6,0,[]),(7,1,[]),(8,4,[]),(9,0,[]),(10,0,[]),(11,0,[]),(12,2,[]),(13,2,[]),(14,0,[])] (by kernel_rfl) (by kernel_rfl) (by simp only [picked,nth];exact rfl) ?_
  refine zg2 ?_
  refine Ops.fork' [(0,0,[]),(1,1,[]),(2,0,[]),(3,0,[]),(4,1,[]),(5,0,[]),(6,0,[]),(7,1,[]),(12,4,[1,4,7]),(8,2,[]),(9,0,[]),(10,0,[]),(11,0,[]),(13,2,[]),(14,0,[])] (by kernel_rfl) rfl (by simp only [picked,nth];exact rfl) ?_ ?_
  ·skip
   refine Ops.callB (sfind_own B0 sb s SD hD ok m.badge) hB rfl (noPd rfl) rfl rfl rfl (fun v A' hR=>?_)
   obtain ⟨p,rfl,rfl,hp⟩:=hR
   repeat' (first|refine Ops.mv rfl rfl rfl rfl ?_|refine Ops.asg rfl rfl rfl rfl ?_|refine Ops.ext rfl rfl rfl rfl rfl ?_|refine Ops.alloc rfl rfl rfl zp3 (fun b=>?_)|refine Ops.stN rfl rfl rfl rfl rfl rfl zp4 ?_)
   rename Nat=>pb
   exact ze56
  ·repeat' (first|refine Ops.alloc rfl rfl rfl zp3 (fun b=>?_))
   rename Nat=>pb
   refine Ops.callB (sfind_own B0 sb s SD hD ok m.badge) hB rfl (noPd rfl) rfl rfl rfl (fun v A' hR=>?_)
   obtain ⟨p,rfl,rfl,hp⟩:=hR
   refine zg34 ?_
   exact ze56
 obtain ⟨pb,p⟩:=t
 dsimp only at ht ⊢
 have hpp:=ht.1
 cases hpf:placeF s m.badge with
 | none =>
  rw [show heldF s m.badge node life = false from by unfold heldF;rw [hpf]]
  dsimp only [Option.isSome_none]
  refine zg0 ?_
  refine Cd.draw [(0,1,[]),(1,0,[]),(2,0,[]),(3,0,[]),(4,0,[]),(5,1,[]),(6,0,[]),(7,0,[]),(8,0,[]),(9,0,[]),(10,0,[]),(11,1,[]),(12,0,[]),(13,1,[]),(14,0,[]),(15,0,[]),(16,2,[11,13]),(17,0,[])] (by kernel_rfl) (by kernel_rfl) (by simp only [picked,nth];exact rfl) ?_
  refine zg42 ?_
  exact ze57
 | some z =>
  obtain ⟨r,pg,tx⟩:=z
  rw [hpf,Option.getD_some,Pl.pure] at hpp
  injection hpp with e1 _
  have hh:heldF s m.badge node life = (decide (p.r.status = 2) && (decide (p.r.node = node) && decide (p.r.life = life))):=by unfold heldF;rw [hpf,e1]
  rw [hh]
  dsimp only [Option.isSome_some]
  by_cases h2:p.r.status = 2
  ·rw [decide_eq_true h2,Bool.true_and]
   refine zg0 ?_
   refine Cd.draw [(0,1,[]),(1,0,[]),(2,0,[]),(3,0,[]),(4,0,[]),(5,1,[]),(6,0,[]),(7,0,[]),(8,0,[]),(9,0,[]),(10,0,[]),(11,1,[]),(12,0,[]),(13,1,[]),(14,0,[]),(15,0,[]),(16,2,[11,13]),(17,0,[])] (by kernel_rfl) (by kernel_rfl) (by simp only [picked,nth];exact rfl) ?_
   refine zg22 ?_
   exact Cd.ret (ret2 (A':=CoB xb lb tb cb mb db wb sb c tv dead :: (p.l.G ++ SD)) rfl (Res.cellN rfl) (Res.tmp rfl) (fun _ h=>h.split) ⟨p,by rw [Bool.and_true],rfl,ht⟩)
  ·rw [decide_eq_false h2,Bool.false_and]
   refine zg0 ?_
   refine Cd.draw [(0,1,[]),(1,0,[]),(2,0,[]),(3,0,[]),(4,0,[]),(5,1,[]),(6,0,[]),(7,0,[]),(8,0,[]),(9,0,[]),(10,0,[]),(11,1,[]),(12,0,[]),(13,1,[]),(14,0,[]),(15,0,[]),(16,2,[11,13]),(17,0,[])] (by kernel_rfl) (by kernel_rfl) (by simp only [picked,nth];exact rfl) ?_
   refine zg22 ?_
   exact ze57
end Go.Proofs.YtaecdnfkcebbeaaGreat
namespace Go.Proofs.YtaecdnfkcebbeaaGreat.Sw
open Go Go.Sep Go.Proofs
set_option maxRecDepth 10000
set_option maxHeartbeats 2000000
set_option synthInstance.maxSize 2000
theorem mclone_spec (b:Nat) (es:List ME) (ck:Nat):Con Tryz.prog 233 #[.map (some b)] [(b,mpo es ck)] fun v A=>∃ b',v = .map (some b') ∧ A = [(b,mpo es ck),(b',mpo es ck)]:=by
 refine Con.intro (vs:=[_]) Tryz.func233 rfl Tryz.ntmps233 rfl (fun B=>?_)
 refine zg13 ?_
 refine Ops.cloneM rfl rfl rfl rfl (noPd rfl) (fun b'=>?_)
 refine zg7 ?_
 exact Cd.ret (ret1 rfl (Res.tmp rfl) (fun w h=>h.split) ⟨b',rfl,rfl⟩)
@[reducible] def ptr (n:Nat):Value:=.pointer (some ⟨n,0,none⟩)
def hv (hb:List Bool) (tx:List ByteArray) (i:Int):Option Value:=if 0 ≤ i ∧ hb[i.toNat]? = some true then (tx[i.toNat]?).map Value.string else none
def MapIs (es:List ME) (hb:List Bool) (tx:List ByteArray):Prop:=∀ i,mget es i = hv hb tx i
theorem hv_put {hb:List Bool} {tx:List ByteArray} {k:Nat} {t:ByteArray} (h1:k < hb.length) (h2:k < tx.length) (i:Int):hv (hb.set k true) (tx.set k t) i = if i = (k:Int) then some (.string t) else hv hb tx i:=by
 unfold hv
 by_cases hi:i = (k:Int)
 ·subst hi
  simp [h1,h2]
 ·by_cases h0:0 ≤ i
  ·have hne:k ≠ i.toNat:=by omega
   simp only [if_neg hi,List.getElem?_set_ne hne]
  ·simp [h0,hi]
theorem hv_clear {hb:List Bool} {tx:List ByteArray} {k:Nat} (h1:k < hb.length) (i:Int):hv (hb.set k false) tx i = if i = (k:Int) then none else hv hb tx i:=by
 unfold hv
 by_cases hi:i = (k:Int)
 ·subst hi
  simp [h1]
 ·by_cases h0:0 ≤ i
  ·have hne:k ≠ i.toNat:=by omega
   simp only [if_neg hi,List.getElem?_set_ne hne]
  ·simp [h0,hi]
theorem MapIs.put {es:List ME} {ck:Nat} {hb:List Bool} {tx:List ByteArray} (h:MapIs es hb tx) (hok:MOk es ck) {k:Nat} {t:ByteArray} (h1:k < hb.length) (h2:k < tx.length):MapIs (mput es ck k (.string t)) (hb.set k true) (tx.set k t):=fun i=>by
 rw [mget_put hok,hv_put h1 h2,h i]
theorem MapIs.clear {es:List ME} {ck:Nat} {hb:List Bool} {tx:List ByteArray} (h:MapIs es hb tx) (hok:MOk es ck) {k:Nat} (h1:k < hb.length):MapIs (mdel es k) (hb.set k false) tx:=fun i=>by
 rw [mget_del hok,hv_clear h1,h i]
theorem hv_yes {hb:List Bool} {tx:List ByteArray} {k:Nat} {t:ByteArray} (h:hb[k]? = some true) (ht:tx[k]? = some t):hv hb tx k = some (.string t):=by simp [hv,h,ht]
theorem hv_no {hb:List Bool} {tx:List ByteArray} {k:Nat} (h:hb[k]? ≠ some true):hv hb tx k = none:=by simp [hv,h]
def drain (tx:List ByteArray):Nat → Nat → List Bool → List ByteArray × Nat × List Bool
 | 0,nx,hb=>([],nx,hb)
 | f + 1,nx,hb=>if hb[nx]? = some true then ((tx[nx]?).getD ⟨#[]⟩ :: (drain tx f (nx + 1) (hb.set nx false)).1,(drain tx f (nx + 1) (hb.set nx false)).2) else ([],nx,hb)
def drained (tx:List ByteArray) (nx:Nat) (hb:List Bool):=drain tx (33 - nx) nx hb
theorem drained_stop {tx:List ByteArray} {nx:Nat} {hb:List Bool} (h:hb[nx]? ≠ some true):drained tx nx hb = ([],nx,hb):=by
 unfold drained
 cases 33 - nx with
 | zero=>rfl
 | succ f=>simp [drain,h]
theorem drained_go {tx:List ByteArray} {nx:Nat} {hb:List Bool} {t:ByteArray} (hnx:nx < 32) (h:hb[nx]? = some true) (ht:tx[nx]? = some t):drained tx nx hb = (t :: (drained tx (nx + 1) (hb.set nx false)).1,(drained tx (nx + 1) (hb.set nx false)).2):=by
 unfold drained
 rw [show 33 - nx = (33 - (nx + 1)) + 1 from by omega]
 simp [drain,h,ht]
@[reducible] def WB (n b win nx:Nat) (es:List ME) (ck:Nat):List Blk:=[(n,cl [.int .i64 win,.int .i64 nx,.map (some b)] 304),(b,mpo es ck)]
@[reducible] def trow (t:ByteArray):List Value:=[.string t]
theorem trows_ok (ts:List ByteArray):RowsOk 1 (ts.map trow):=rows_map (f:=trow) (fun _=>⟨rfl,rfl⟩) ts
def OwnT (sv:Value) (ts:List ByteArray) (G:List Blk):Prop:=Own 9 1 sv (ts.map trow) G
theorem new_yes (win hv0:Nat) (h1:1 ≤ win) (h2:win ≤ 8) (h3:hv0 ≤ 32):Con Tryz.prog 135 #[.int .i64 win,.int .i64 hv0] [] fun v A=>∃ n m,v = .tuple #[ptr n,.int .i64 0] ∧ A = WB n m win hv0 [] 0:=by
 refine Con.intro (vs:=[_,_]) Tryz.func135 rfl Tryz.ntmps135 rfl (fun B=>?_)
 repeat' (first|refine Ops.mkM rfl rfl rfl (noPd rfl) (fun b=>?_)|refine Cd.seq ?_|refine Cd.reg ?_|refine Ops.nil ?_|refine Ops.mv rfl rfl rfl rfl ?_|refine Ops.asg rfl rfl rfl rfl ?_|refine Ops.bin rfl rfl rfl rfl rfl ?_|refine Ops.pickF rfl rfl rfl rfl rfl ?_|refine Ops.bld rfl rfl rfl rfl ?_|refine Ops.box rfl rfl rfl rfl (noPd rfl) (fun b=>?_)|refine Cd.skip (Cd.next ?_)|refine Cd.condF rfl zp0 ?_|((fail_if_success refine Ops.probe rfl ?_);refine Ops.gF rfl rfl zp0 ?_))
 exact ze68
theorem clone_spec (n mb win nx:Nat) (es:List ME) (ck:Nat):Con Tryz.prog 165 #[ptr n] (WB n mb win nx es ck) fun v A=>∃ n' b',v = ptr n' ∧ A = WB n mb win nx es ck ++ WB n' b' win nx es ck:=by
 refine Con.intro (vs:=[_]) Tryz.func165 rfl Tryz.ntmps165 rfl (fun B=>?_)
 refine zg0 ?_
 refine Cd.draw [(0,0,[]),(1,0,[]),(2,0,[]),(3,1,[]),(4,0,[]),(5,0,[]),(6,0,[]),(7,1,[]),(8,0,[]),(9,0,[]),(10,0,[]),(11,1,[]),(12,2,[3,7]),(13,0,[]),(14,2,[]),(15,0,[])] (by kernel_rfl) (by kernel_rfl) (by simp only [picked,nth];exact rfl) ?_
 refine zg2 ?_
 refine Ops.call (mclone_spec mb es ck) rfl zp1 rfl rfl rfl (fun v A' hR=>?_)
 obtain ⟨b',rfl,rfl⟩:=hR
 repeat' (first|refine Ops.nil ?_|refine Ops.asg rfl rfl rfl rfl ?_|refine Ops.bld rfl rfl rfl rfl ?_|refine Ops.box rfl rfl rfl rfl (noPd rfl) (fun b=>?_))
 rename Nat=>nb
 exact Cd.ret (ret1 rfl (Res.tmp rfl) (fun _ h=>(h.split:Sat _ ((n,cl [.int .i64 win,.int .i64 nx,.map (some mb)] 304) :: (mb,mpo es ck) :: (nb,cl [.int .i64 win,.int .i64 nx,.map (some b')] 304) :: [(b',mpo es ck)]) _)) ⟨nb,b',rfl,rfl⟩)
theorem take_long (n mb win nx:Nat) (es:List ME) (ck:Nat) (i:Int) (t:ByteArray) (h:32 < t.size) :
  Con Tryz.prog 166 #[ptr n,.int .i64 i,.string t] (WB n mb win nx es ck) fun v A=>v = .tuple #[.slice none 0 0,.int .i64 152] ∧ A = WB n mb win nx es ck:=by
 have h':(32:Int) < t.size:=by omega
 refine Con.intro (vs:=[_,_,_]) Tryz.func166 rfl Tryz.ntmps166 rfl (fun B=>?_)
 refine zg29 ?_
 exact ze72
theorem take_out (n mb win nx:Nat) (es:List ME) (ck:Nat) (i:Int) (t:ByteArray) (h:t.size ≤ 32) (hn:nx ≤ 32) (hw:win ≤ 8) (ho:i < nx ∨ (nx:Int) + win ≤ i ∨ 32 ≤ i) (hi:i ≤ 9223372036854775807) :
  Con Tryz.prog 166 #[ptr n,.int .i64 i,.string t] (WB n mb win nx es ck) fun v A=>v = .tuple #[.slice none 0 0,.int .i64 151] ∧ A = WB n mb win nx es ck:=by
 have h':¬ (32:Int) < t.size:=by omega
 refine Con.intro (vs:=[_,_,_]) Tryz.func166 rfl Tryz.ntmps166 rfl (fun B=>?_)
 by_cases h1:i < nx
 ·refine zg17 ?_
  refine Cd.draw [(0,0,[]),(1,0,[]),(2,0,[]),(3,0,[]),(4,1,[]),(5,0,[]),(6,0,[]),(7,0,[]),(8,0,[]),(9,0,[]),(10,0,[]),(11,1,[]),(12,0,[]),(13,0,[]),(14,0,[]),(15,0,[]),(16,1,[]),(17,0,[]),(18,0,[]),(19,0,[]),(20,0,[]),(21,0,[]),(22,0,[]),(23,0,[])] (by kernel_rfl) (by kernel_rfl) (by simp only [picked,nth];exact rfl) ?_
  refine zg22 ?_
  exact ze72
 ·by_cases h2:(win:Int) ≤ i - nx
  ·refine zg17 ?_
   refine Cd.draw [(0,0,[]),(1,0,[]),(2,0,[]),(3,0,[]),(4,1,[]),(5,0,[]),(6,0,[]),(7,0,[]),(8,0,[]),(9,0,[]),(10,0,[]),(11,1,[]),(12,0,[]),(13,0,[]),(14,0,[]),(15,0,[]),(16,1,[]),(17,0,[]),(18,0,[]),(19,0,[]),(20,0,[]),(21,0,[]),(22,0,[]),(23,0,[])] (by kernel_rfl) (by kernel_rfl) (by simp only [picked,nth];exact rfl) ?_
   refine zg30 ?_
   exact ze72
  ·have h3:32 ≤ i:=by omega
   refine zg17 ?_
   refine Cd.draw [(0,0,[]),(1,0,[]),(2,0,[]),(3,0,[]),(4,1,[]),(5,0,[]),(6,0,[]),(7,0,[]),(8,0,[]),(9,0,[]),(10,0,[]),(11,1,[]),(12,0,[]),(13,0,[]),(14,0,[]),(15,0,[]),(16,1,[]),(17,0,[]),(18,0,[]),(19,0,[]),(20,0,[]),(21,0,[]),(22,0,[]),(23,0,[])] (by kernel_rfl) (by kernel_rfl) (by simp only [picked,nth];exact rfl) ?_
   refine zg36 ?_
   exact ze72
structure TK where
 out:List ByteArray
 nx:Nat
 hb:List Bool
 es:List ME
 sv:Value
 G:List Blk
theorem take_ok (n mb win nx:Nat) (es:List ME) (ck:Nat) (k:Nat) (t:ByteArray) (hb:List Bool) (tx:List ByteArray) (h:t.size ≤ 32) (hn:nx ≤ 32) (hw:win ≤ 8) (h1:nx ≤ k) (h2:k < nx + win) (h3:k < 32) (hok:MOk es ck) (hm:MapIs es hb tx) (hbl:hb.length = 32) (htl:tx.length = 32)
  (hb':List Bool) (tx':List ByteArray) (e1:hb' = hb.set k true) (e2:tx' = if hb[k]? = some true then tx else tx.set k t) :
  Con Tryz.prog 166 #[ptr n,.int .i64 k,.string t] (WB n mb win nx es ck) fun v A=>∃ sv G es' ck',v = .tuple #[sv,.int .i64 0] ∧ OwnT sv (drained tx' nx hb').1 G ∧ A = WB n mb win (drained tx' nx hb').2.1 es' ck' ++ G ∧ MOk es' ck' ∧ MapIs es' (drained tx' nx hb').2.2 tx':=by
 have h':¬ (32:Int) < t.size:=by omega
 have g1:¬ (k:Int) < nx:=by omega
 have g2:¬ (win:Int) ≤ (k:Int) - nx:=by omega
 have g3:¬ (32:Int) ≤ k:=by omega
 refine Con.intro (vs:=[_,_,_]) Tryz.func166 rfl Tryz.ntmps166 rfl (fun B=>?_)
 generalize hc5:Code.seq (Code.seq (Code.region 5 _ _) _) _ = c5
 refine zg17 ?_
 refine Cd.draw [(0,0,[]),(1,0,[]),(2,0,[]),(3,0,[]),(4,1,[]),(5,0,[]),(6,0,[]),(7,0,[]),(8,0,[]),(9,0,[]),(10,0,[]),(11,1,[]),(12,0,[]),(13,0,[]),(14,0,[]),(15,0,[]),(16,1,[]),(17,0,[]),(18,0,[]),(19,0,[]),(20,0,[]),(21,0,[]),(22,0,[]),(23,0,[])] (by kernel_rfl) (by kernel_rfl) (by simp only [picked,nth];exact rfl) ?_
 refine zg36 ?_
 subst hc5
 refine Cd.cut (σ:=List ME × Nat) (fun s=>MOk s.1 s.2 ∧ MapIs s.1 hb' tx') (fun _=>[(0,ptr n)]) (fun s=>WB n mb win nx s.1 s.2) ?_ (fun s hs=>?_)
 ·repeat' (first|refine Ops.lkI rfl rfl rfl rfl rfl ?_|refine Ops.upI rfl rfl rfl rfl rfl (noPd rfl) ?_|refine Cd.seq ?_|refine Cd.reg ?_|refine Ops.nil ?_|refine Ops.mv rfl rfl rfl rfl ?_|refine Ops.asg rfl rfl rfl rfl ?_|refine Ops.nilP rfl rfl rfl rfl ?_|refine Ops.fa0 rfl rfl rfl rfl ?_|refine Ops.ld1 rfl rfl rfl rfl rfl ?_|refine Ops.un rfl rfl rfl rfl ?_|refine Ops.ext rfl rfl rfl rfl rfl ?_|(refine Cd.cond rfl (fun hc=>?_) (fun hc=>?_) <;> (try simp only [decide_eq_true_eq,decide_eq_false_iff_not,Bool.not_eq_true',Bool.not_eq_false',Bool.not_eq_eq_eq_not,Bool.not_true,Bool.not_false,Int.not_lt,Int.not_le] at hc)))
  ·have hno:hb[k]? ≠ some true:=fun hy=>by
    obtain ⟨x,hx⟩:∃ x,tx[k]? = some x:=⟨_,List.getElem?_eq_getElem (by omega)⟩
    rw [hm,hv_yes hy hx] at hc
    cases hc
   rw [if_neg hno] at e2
   subst e1;subst e2
   exact Ops.nilN (meet_end (Q:=fun _ _ _=>True) (mput es ck k (.string t),mck es ck k) ⟨hok.put _ _,hm.put hok (by omega) (by omega)⟩ ⟨rfl,trivial⟩ (fun w h=>h))
  ·have hyes:hb[k]? = some true:=Classical.byContradiction fun hn=>by
    rw [hm,hv_no hn] at hc
    cases hc
   rw [if_pos hyes] at e2
   have:hb.set k true = hb:=by
    apply List.ext_getElem?
    intro q
    by_cases hq:k = q
    ·subst hq;rw [List.getElem?_set_self (by omega),hyes]
    ·rw [List.getElem?_set_ne hq]
   rw [this] at e1
   subst e1;subst e2
   exact Cd.skip (meet_end (Q:=fun _ _ _=>True) (es,ck) ⟨hok,hm⟩ ⟨rfl,trivial⟩ (fun w h=>h))
 have hbl':hb'.length = 32:=by rw [e1,List.length_set,hbl]
 have htl':tx'.length = 32:=by rw [e2];split <;> simp [htl]
 clear e1 e2 hm hok
 obtain ⟨es1,ck1⟩:=s
 obtain ⟨hok,hm⟩:=hs
 dsimp only at hok hm ⊢
 refine zg3 ?_
 refine Cd.loopK (σ:=TK × Nat) (fun s=>s.1.nx ≤ 32 ∧ s.1.hb.length = 32 ∧ MOk s.1.es s.2 ∧ MapIs s.1.es s.1.hb tx' ∧ OwnT s.1.sv s.1.out s.1.G ∧ s.1.out.length + nx = s.1.nx ∧ drained tx' nx hb' = (s.1.out ++ (drained tx' s.1.nx s.1.hb).1,(drained tx' s.1.nx s.1.hb).2)) (fun s=>[(0,ptr n),(10,s.1.sv)])
  (fun s=>WB n mb win s.1.nx s.1.es s.2 ++ s.1.G) (fun s=>33 - s.1.nx) (⟨[],nx,hb',es1,.slice none 0 0,[]⟩,ck1) ⟨hn,hbl',hok,hm,Own.none,by simp,by simp⟩ ⟨rfl,rfl,trivial⟩ (fun w h=>h) (fun s hI=>?_)
 obtain ⟨⟨out,nx1,hb1,es2,sv,G⟩,ck2⟩:=s
 obtain ⟨hnx,hbl1,hok1,hm1,hO,hol,hdr⟩:=hI
 dsimp only at hnx hbl1 hok1 hm1 hO hol hdr ⊢
 obtain ⟨sa,sc,rfl⟩:=hO.form
 by_cases hh:hb1[nx1]? = some true
 ·have hlt:nx1 < 32:=by have:=(List.getElem?_eq_some_iff.1 hh).1;omega
  obtain ⟨x,hx⟩:∃ x,tx'[nx1]? = some x:=⟨_,List.getElem?_eq_getElem (by omega)⟩
  have hg:mget es2 nx1 = some (.string x):=by rw [hm1,hv_yes hh hx]
  have hs:(!(mget es2 (nx1:Int)).isSome) = false:=by rw [hg];rfl
  refine zg3 ?_
  refine Cd.draw [(0,0,[]),(1,0,[]),(2,0,[]),(3,1,[]),(4,0,[]),(5,0,[]),(6,0,[]),(7,1,[]),(8,1,[]),(9,0,[]),(10,0,[]),(11,0,[]),(12,0,[]),(13,0,[])] (by kernel_rfl) (by kernel_rfl) (by simp only [picked,nth];exact rfl) ?_
  refine zg21 ?_
  refine Cd.draw [(0,0,[]),(1,0,[]),(2,0,[]),(3,1,[]),(4,0,[]),(5,0,[]),(6,0,[]),(7,1,[]),(8,2,[])] (by kernel_rfl) (by kernel_rfl) (by simp only [picked,nth];exact rfl) ?_
  refine zg7 ?_
  simp only [hg,Option.getD_some]
  repeat' (first|refine Ops.bs1 rfl rfl rfl rfl rfl rfl rfl (noPd rfl) (fun b=>?_))
  refine Ops.app1 (rows:=out.map trow) hO (by rw [List.length_map];omega) (by rw [List.length_map];omega) rfl rfl rfl rfl (by rfl) (by rfl) rfl (noPd rfl) rfl (fun v G' hG'=>?_)
  obtain ⟨a',c',rfl⟩:=hG'.form
  refine zg23 ?_
  have hO':OwnT (.slice a' (out.map trow ++ [trow x]).length c') (out ++ [x]) G':=by unfold OwnT;rw [List.map_append];exact hG'
  exact Ops.nilN (inB (round_end ((⟨out ++ [x],nx1 + 1,hb1.set nx1 false,mdel es2 nx1,_,G'⟩,ck2):TK × Nat) ⟨by show nx1 + 1 ≤ 32;omega,by show (hb1.set nx1 false).length = 32;rw [List.length_set,hbl1],hok1.del _,hm1.clear hok1 (by omega),hO',by show (out ++ [x]).length + nx = nx1 + 1;simp;omega,by show drained tx' nx hb' = _;rw [hdr,drained_go hlt hh hx];simp⟩ (by show 33 - (nx1 + 1) < 33 - nx1;omega) ⟨rfl,rfl,trivial⟩
   (fun w h=>(h.split:Sat _ ((n,cl [.int .i64 win,.int .i64 (nx1 + 1),.map (some mb)] 304) :: (mb,mpo (mdel es2 nx1) ck2) :: G') w))))
 ·have hg:mget es2 nx1 = none:=by rw [hm1,hv_no hh]
  have hs:(!(mget es2 (nx1:Int)).isSome) = true:=by rw [hg];rfl
  refine zg3 ?_
  refine Cd.draw [(0,0,[]),(1,0,[]),(2,0,[]),(3,1,[]),(4,0,[]),(5,0,[]),(6,0,[]),(7,1,[]),(8,1,[]),(9,0,[]),(10,0,[]),(11,0,[]),(12,0,[]),(13,0,[])] (by kernel_rfl) (by kernel_rfl) (by simp only [picked,nth];exact rfl) ?_
  refine zg33 ?_
  rw [drained_stop hh] at hdr
  exact Cd.ret (ret2 rfl (Res.tmp rfl) (Res.tmp rfl) (fun _ h=>h) ⟨_,G,es2,ck2,rfl,by rw [hdr];simpa using hO,by rw [hdr],hok1,by rw [hdr];exact hm1⟩)
structure Sp where
 nx:Nat
 hb:List Bool
 tx:List ByteArray
def takeF (win:Nat) (s:Sp) (i:Int) (t:ByteArray):Int × List ByteArray × Sp :=
 if 32 < t.size then (152,[],s) else if i < s.nx ∨ (s.nx:Int) + win ≤ i ∨ 32 ≤ i then (151,[],s) else
  (0,(drained (if s.hb[i.toNat]? = some true then s.tx else s.tx.set i.toNat t) s.nx (s.hb.set i.toNat true)).1,
   ⟨(drained (if s.hb[i.toNat]? = some true then s.tx else s.tx.set i.toNat t) s.nx (s.hb.set i.toNat true)).2.1,(drained (if s.hb[i.toNat]? = some true then s.tx else s.tx.set i.toNat t) s.nx (s.hb.set i.toNat true)).2.2,if s.hb[i.toNat]? = some true then s.tx else s.tx.set i.toNat t⟩)
structure SpOk (win:Nat) (s:Sp):Prop where
 w0:1 ≤ win
 w1:win ≤ 8
 n:s.nx ≤ 32
 hl:s.hb.length = 32
 tl:s.tx.length = 32
 free:s.hb[s.nx]? ≠ some true
 inw:∀ k,s.hb[k]? = some true → s.nx ≤ k ∧ k < s.nx + win
structure EsOk (s:Sp) (es:List ME) (ck:Nat):Prop where
 ok:MOk es ck
 is_:MapIs es s.hb s.tx
theorem drain_ok (tx:List ByteArray) (W:Nat):∀ (f nx:Nat) (hb:List Bool),33 ≤ nx + f → nx ≤ 32 → hb.length = 32 → (∀ k,hb[k]? = some true → nx ≤ k ∧ k < W) →
  nx ≤ (drain tx f nx hb).2.1 ∧ (drain tx f nx hb).2.1 ≤ 32 ∧ (drain tx f nx hb).2.2.length = 32 ∧ (drain tx f nx hb).2.2[(drain tx f nx hb).2.1]? ≠ some true ∧ (∀ k,(drain tx f nx hb).2.2[k]? = some true → (drain tx f nx hb).2.1 ≤ k ∧ k < W) ∧ (drain tx f nx hb).1.length + nx = (drain tx f nx hb).2.1
 | 0,nx,hb,hf,hn,hl,hw=>by omega
 | f + 1,nx,hb,hf,hn,hl,hw=>by
  unfold drain
  split
  ·rename_i hh
   have hlt:nx < 32:=by have:=(List.getElem?_eq_some_iff.1 hh).1;omega
   have ih:=drain_ok tx W f (nx + 1) (hb.set nx false) (by omega) (by omega) (by rw [List.length_set,hl]) fun k hk=>by
    by_cases e:nx = k
    ·subst e;rw [List.getElem?_set_self (by omega)] at hk;cases hk
    ·rw [List.getElem?_set_ne e] at hk
     have:=hw k hk
     omega
   obtain ⟨a,b,c,d,e,g⟩:=ih
   exact ⟨by show nx ≤ (drain tx f (nx + 1) (hb.set nx false)).2.1;omega,b,c,d,e,by simp only [List.length_cons];show _ = (drain tx f (nx + 1) (hb.set nx false)).2.1;omega⟩
  ·rename_i hh
   exact ⟨Nat.le_refl _,hn,hl,hh,hw,by simp⟩
theorem takeF_ok {win:Nat} {s:Sp} (h:SpOk win s) (i:Int) (t:ByteArray):SpOk win (takeF win s i t).2.2:=by
 unfold takeF
 split
 ·exact h
 ·split
  ·exact h
  ·rename_i h1 h2
   have hb':∀ k,(s.hb.set i.toNat true)[k]? = some true → s.nx ≤ k ∧ k < s.nx + win:=fun k hk=>by
    by_cases e:i.toNat = k
    ·omega
    ·rw [List.getElem?_set_ne e] at hk
     exact h.inw k hk
   obtain ⟨a,b,c,d,e,g⟩:=drain_ok (if s.hb[i.toNat]? = some true then s.tx else s.tx.set i.toNat t) (s.nx + win) (33 - s.nx) s.nx (s.hb.set i.toNat true) (by have:=h.n;omega) h.n (by rw [List.length_set,h.hl]) hb'
   exact ⟨h.w0,h.w1,b,c,by show List.length (if s.hb[i.toNat]? = some true then s.tx else s.tx.set i.toNat t) = 32;split <;> simp [h.tl],d,fun k hk=>by
    have:=e k hk
    show (drain _ (33 - s.nx) s.nx _).2.1 ≤ k ∧ k < (drain _ (33 - s.nx) s.nx _).2.1 + win
    omega⟩
theorem takeF_grow {win:Nat} {s:Sp} (h:SpOk win s) (i:Int) (t:ByteArray):(takeF win s i t).2.1.length + s.nx = (takeF win s i t).2.2.nx:=by
 unfold takeF
 split
 ·simp
 ·split
  ·simp
  ·rename_i h1 h2
   exact (drain_ok (if s.hb[i.toNat]? = some true then s.tx else s.tx.set i.toNat t) (s.nx + win) (33 - s.nx) s.nx (s.hb.set i.toNat true) (by have:=h.n;omega) h.n (by rw [List.length_set,h.hl]) fun k hk=>by
    by_cases e:i.toNat = k
    ·omega
    ·rw [List.getElem?_set_ne e] at hk
     exact h.inw k hk).2.2.2.2.2
theorem take_spec (n mb win:Nat) (s:Sp) (es:List ME) (ck:Nat) (i:Int) (t:ByteArray) (h:SpOk win s) (he:EsOk s es ck) (hi:i ≤ 9223372036854775807) :
  Con Tryz.prog 166 #[ptr n,.int .i64 i,.string t] (WB n mb win s.nx es ck) fun v A=>∃ sv G es' ck',v = .tuple #[sv,.int .i64 (takeF win s i t).1] ∧ OwnT sv (takeF win s i t).2.1 G ∧ A = WB n mb win (takeF win s i t).2.2.nx es' ck' ++ G ∧ EsOk (takeF win s i t).2.2 es' ck':=by
 unfold takeF
 split
 ·rename_i h1
  exact (take_long n mb win s.nx es ck i t h1).mono fun v A ⟨e1,e2⟩=>⟨_,[],es,ck,e1,Own.none,by rw [e2];rfl,he⟩
 ·split
  ·rename_i h1 h2
   exact (take_out n mb win s.nx es ck i t (by omega) h.n h.w1 h2 hi).mono fun v A ⟨e1,e2⟩=>⟨_,[],es,ck,e1,Own.none,by rw [e2];rfl,he⟩
  ·rename_i h1 h2
   have hk:i = ((i.toNat:Nat):Int):=by omega
   have:=take_ok n mb win s.nx es ck i.toNat t s.hb s.tx (by omega) h.n h.w1 (by omega) (by omega) (by omega) he.ok he.is_ h.hl h.tl _ _ rfl rfl
   rw [← hk] at this
   exact this.mono fun v A ⟨sv,G,es',ck',e1,e2,e3,e4,e5⟩=>⟨sv,G,es',ck',e1,e2,e3,e4,e5⟩
end Go.Proofs.YtaecdnfkcebbeaaGreat.Sw
