import Derived.Test.YtaecdnfkcebbeaaGreatA01
import Derived.Test.YtaecdnfkcebbeaaGreatA38
set_option linter.unusedVariables false
set_option linter.unusedSimpArgs false
namespace Go.Proofs.YtaecdnfkcebbeaaGreat
open Go Go.Sep Go.Proofs
set_option maxRecDepth 10000
set_option maxHeartbeats 40000000
set_option synthInstance.maxSize 2000
theorem tick1_calm (B0:Base) (xb lb lm tb cb mb db wb sb:Nat) (c:Cf) (hc:CfOk c) (dead:Bool) (tv:Value) (ls:List Ls.LE) (les:List ME) (lck:Nat) (hL:Ls.TOk c.lease ls les lck) (hov:Ls.overF ls = []) (bx:Nat) :
  ConB Tryz.prog B0 42 #[ptr bx] (CoB xb lb tb cb mb db wb sb c tv dead :: (Ls.TB lb lm c.lease les lck ++ [(bx,cl [ptr xb] 26)])) fun v A=>∃ lb1 lm1 es ck,A = CoB xb lb1 tb cb mb db wb sb c tv dead :: (Ls.TB lb1 lm1 c.lease es ck ++ [(bx,cl [ptr xb] 26)]) ∧ Ls.TOk c.lease (Ls.restF ls) es ck:=by
 obtain ⟨_,⟨b1,b2⟩,_⟩:=id hc
 refine ConB.intro (vs:=[_]) Tryz.func42 rfl Tryz.ntmps42 rfl (fun B hB=>?_)
 refine zg4 ?_
 refine Ops.call (Ls.clone_spec lb lm c.lease les lck) rfl (noPd rfl) rfl rfl rfl (fun v A' hR=>?_)
 obtain ⟨lb1,lm1,rfl,rfl⟩:=hR
 refine zg0 ?_
 refine Ops.call (Ls.tick_spec lb1 lm1 c.lease ls les lck hL) rfl (noPd rfl) rfl rfl rfl (fun v A' hR=>?_)
 obtain ⟨es,ck,G,hrs,rfl,hok⟩:=hR
 rw [hov] at hrs
 obtain ⟨ra,rc,rfl⟩:=Rs.form hrs
 rw [show (List.map Ls.LE.row []).length = 0 from rfl]
 clear hrs
 refine zg3 ?_
 refine Cd.loopK (σ:=Unit) (fun _=>True) (fun _=>[(0,ptr bx),(1,ptr lb1),(2,.slice ra 0 rc),(3,.slice none 0 0),(17,.int .i64 0),(18,.int .i64 0)]) (fun _=>CoB xb lb tb cb mb db wb sb c tv dead :: (Ls.TB lb1 lm1 c.lease es ck ++ [(bx,cl [ptr xb] 26)])) (fun _=>0) () trivial ⟨rfl,rfl,rfl,rfl,rfl,rfl,trivial⟩ (fun w h=>h.split) (fun _ _=>?_)
 refine zg13 ?_
 refine Ops.callB (makes_nil B0 xb none 0) hB rfl (noPd rfl) rfl rfl rfl (fun v A' hR=>?_)
 subst hR
 refine zg7 ?_
 refine Cd.loopK (σ:=Unit) (fun _=>True) (fun _=>[(38,.int .i64 0),(39,.int .i64 0)]) (fun _=>CoB xb lb1 tb cb mb db wb sb c tv dead :: (Ls.TB lb1 lm1 c.lease es ck ++ [(bx,cl [ptr xb] 26)])) (fun _=>0) () trivial ⟨rfl,rfl,trivial⟩ (fun w h=>h.split) (fun _ _=>?_)
 refine zg13 ?_
 exact ze45
theorem tick_over (B0:Base) (xb lb tb cb mb db wb sb:Nat) (c:Cf) (tv:Value) (x:Dk) (k:Nat) (D:List Blk) (hD:DkA db x k D) (hde:x.de = false) (F:List Blk) (R:List Blk → Prop)
  (hd:∀ bx,ConB Tryz.prog B0 42 #[ptr bx] (CoB xb lb tb cb mb db wb sb c tv false :: (D ++ (F ++ [(bx,cl [ptr xb] 26)]))) fun v A=>∃ A1,R A1 ∧ A = A1 ++ [(bx,cl [ptr xb] 26)]) :
  ConB Tryz.prog B0 20 #[ptr xb] (CoB xb lb tb cb mb db wb sb c tv false :: (D ++ F)) fun v A=>v = .int .i64 0 ∧ R A:=by
 refine ConB.intro (vs:=[_]) Tryz.func20 rfl Tryz.ntmps20 rfl (fun B hB=>?_)
 repeat' (first|refine Ops.mkF rfl rfl rfl rfl rfl ?_|refine Cd.seq ?_|refine Cd.reg ?_|refine Ops.asg rfl rfl rfl rfl ?_|refine Ops.ld1 rfl rfl rfl rfl rfl ?_|refine Ops.box rfl rfl rfl rfl (noPd rfl) (fun b=>?_))
 rename Nat=>bx
 refine Ops.callB (caught_calm B0 xb lb tb cb mb db wb sb c tv x k D hD hde _ 42 [ptr bx] _ (hd bx)) hB rfl (noPd rfl) rfl rfl rfl (fun v A' hR=>?_)
 obtain ⟨rfl,v0,A1,hR,rfl⟩:=hR
 refine zg1 ?_
 exact Cd.ret (ret1 (A':=A1) rfl (Res.tmp rfl) (fun _ h=>h.split) ⟨rfl,hR⟩)
structure Wn where
 job:Int
 n:Nat
 m:Nat
 sp:Sw.Sp
 es:List ME
 ck:Nat
@[reducible] def Wn.G (win:Nat) (t:Wn):List Blk:=Sw.WB t.n t.m win t.sp.nx t.es t.ck
@[reducible] def CoL (xb lb lm tb cb mb db wb sb:Nat) (c:Cf) (la re:Int) (tv:Value) (les:List ME) (lck:Nat) (sv:Value) (G:List Blk) (mes:List ME) (mck_:Nat) (w:Wl) (SD D TG TX WG:List Blk):List Blk :=
 CoB xb lb tb cb mb db wb sb c tv false :: (Ls.TB lb lm c.lease les lck ++ (Se.TabB tb sv G ++ (CtB cb c.block la re :: (mb,mpo mes mck_) :: WlB wb db w :: (SD ++ (D ++ (TG ++ (TX ++ WG)))))))
def ToldA (tv:Value) (tl:List Ch) (TG TX:List Blk):Prop:=∃ cgs:List Cg,OwnC tv cgs TG ∧ cgs.map Cg.c = tl ∧ ∀ B,Holds B TX → ∀ g ∈ cgs,SIn B g.a g.c.txs
def WnsA (win:Nat) (ws:List (Int × Sw.Sp)) (mes:List ME) (mck_:Nat) (WG:List Blk):Prop:=MOk mes mck_ ∧ ∃ wl:List Wn,WG = wl.flatMap (Wn.G win) ∧ (wl.map fun t=>(t.job,t.sp)) = ws ∧ ∀ t ∈ wl,mget mes t.job = some (ptr t.n) ∧ Sw.EsOk t.sp t.es t.ck
structure Co where
 q:Cq
 rs:List Se.Dk
 w:Wl
 x:Dk
 tl:List Ch
structure CoOk (c:Cf) (len n:Nat) (o:Co):Prop where
 cq:CqOk c o.q
 lg:LgOk o.w o.x len
 nm:o.w.h.number ≤ 2 * n + 1
 ln:o.q.la ≤ n
 rsI:Se.RowsI o.rs
 tn:o.tl.length ≤ 20 * n
 tx:∀ ch ∈ o.tl,ch.txs.length ≤ 2000000 ∧ 0 ≤ ch.rbits ∧ ch.rbits < 18446744073709551616
def CoA (xb db:Nat) (c:Cf) (n:Nat) (o:Co) (A:List Blk):Prop :=
 ∃ lb lm tb cb mb wb sb tv les lck sv G mes mck_ SD k D TG TX WG,A = CoL xb lb lm tb cb mb db wb sb c o.q.la o.q.st.res tv les lck sv G mes mck_ o.w SD D TG TX WG ∧
  Ls.TOk c.lease o.q.ls les lck ∧ Se.OwnK sv o.rs G ∧ WnsA c.window.toNat o.q.ws mes mck_ WG ∧ StA sb o.q.st SD ∧ DkA db o.x k D ∧ k ≤ 20000 * n + 1000 ∧ ToldA tv o.tl TG TX
theorem WnsA.del {win:Nat} {ws:List (Int × Sw.Sp)} {mes:List ME} {mck_:Nat} {WG:List Blk} (h:WnsA win ws mes mck_ WG) (job:Int):∃ WG1 J,WG.Perm (WG1 ++ J) ∧ WnsA win (wsDel ws job) (mdel mes job) mck_ WG1:=by
 obtain ⟨hok,wl,rfl,rfl,hw⟩:=h
 refine ⟨(wl.filter fun t=>!decide (t.job = job)).flatMap (Wn.G win),(wl.filter fun t=>decide (t.job = job)).flatMap (Wn.G win),?_,hok.del job,_,rfl,?_,fun t ht=>?_⟩
 ·rw [← List.flatMap_append]
  refine List.Perm.flatMap_right _ ?_
  have:=List.filter_append_perm (fun t:Wn=>!decide (t.job = job)) wl
  simpa using this.symm
 ·unfold wsDel
  rw [List.filter_map];rfl
 ·obtain ⟨h1,h2⟩:=List.mem_filter.1 ht
  obtain ⟨h3,h4⟩:=hw t h1
  have hne:t.job ≠ job:=by simpa using h2
  exact ⟨by rw [mget_del hok,if_neg hne];exact h3,h4⟩
end Go.Proofs.YtaecdnfkcebbeaaGreat
namespace Go.Proofs.YtaecdnfkcebbeaaGreat
open Go Go.Sep Go.Proofs
set_option maxRecDepth 10000
set_option maxHeartbeats 40000000
theorem WnsA.delAll_ {win:Nat}:∀ {l:List Ls.LE} {ws:List (Int × Sw.Sp)} {mes:List ME} {mck_:Nat} {WG:List Blk},WnsA win ws mes mck_ WG → ∃ WG1 J,WG.Perm (WG1 ++ J) ∧ WnsA win (wsDelAll ws l) (delAll mes l) mck_ WG1
 | [],ws,mes,mck_,WG,h=>⟨WG,[],by rw [List.append_nil],h⟩
 | x :: l,ws,mes,mck_,WG,h=>by
  obtain ⟨W1,J1,p1,h1⟩:=h.del x.job
  obtain ⟨W2,J2,p2,h2⟩:=WnsA.delAll_ (l:=l) h1
  exact ⟨W2,J2 ++ J1,by
   refine p1.trans ?_
   rw [← List.append_assoc]
   exact p2.append_right _,h2⟩
theorem ToldA.more {tv:Value} {tl:List Ch} {TG TX:List Blk} (h:ToldA tv tl TG TX) (J:List Blk):ToldA tv tl TG (TX ++ J):=by
 obtain ⟨cgs,h1,h2,h3⟩:=h
 exact ⟨cgs,h1,h2,fun B hB=>h3 B (hB.sub fun p hp=>List.mem_append_left _ hp)⟩
theorem mkR_ok {every:Int} {w:Wl} {x:Dk} {len:Nat} {s:StP} {l:List Ch} (ok:StOk s) (bd:StBd s) (lg:LgOk w x len) (hev:every ≤ 16) (hr:20480 ≤ roomF len) (hn:w.h.number + 2 < 1099511627776) (henc:l ≠ [] → (encodeF l).2 = 0) :
  LgOk (mkR every w x s l).1 (mkR every w x s l).2 len ∧ (mkR every w x s l).1.h.number ≤ w.h.number + 2:=by
 unfold mkR
 split
 ·exact ⟨lg,by show w.h.number ≤ _;omega⟩
 ·rename_i hl
  obtain ⟨h0,h1⟩:=enc_ok (henc hl)
  have:=mk_calm (every:=every) (b:=bytesS s) lg hev hr hn (bytesS_le bd ok) h0 h1
  exact ⟨this.1,this.2.1⟩
def Co.mk_ (c:Cf) (o:Co) (cs:List Ch) (ls:List Ls.LE) (la:Int) (ws:List (Int × Sw.Sp)) (rs:List Se.Dk):Co :=
 ⟨⟨(applyF o.q.st cs).2,ls,la,ws⟩,rs,(mkR c.every o.w o.x o.q.st cs).1,(mkR c.every o.w o.x o.q.st cs).2,o.tl ++ cs⟩
theorem CoOk.mk_ {c:Cf} {len n:Nat} {o:Co} (h:CoOk c len n o) (hc:CfOk c) (hlen:20480 ≤ roomF len) (hn:n ≤ 2000000) {cs:List Ch} {ls:List Ls.LE} {la:Int} {ws:List (Int × Sw.Sp)} {rs:List Se.Dk} {st:StP}
  (ha:applyF o.q.st cs = ((0,0),st)) (hq:CqOk c ⟨st,ls,la,ws⟩) (henc:cs ≠ [] → (encodeF cs).2 = 0) (hcs:cs.length ≤ 16) (htx:∀ ch ∈ cs,ch.txs.length ≤ 2000000 ∧ 0 ≤ ch.rbits ∧ ch.rbits < 18446744073709551616) (hrs:Se.RowsI rs) (hla:la ≤ (n:Int) + 1):CoOk c len (n + 1) (o.mk_ c cs ls la ws rs):=by
 obtain ⟨_,_,_,_,_,_,_,⟨ev1,ev16⟩,_⟩:=id hc
 have hnm:=h.nm
 obtain ⟨m1,m2⟩:=mkR_ok (every:=c.every) (s:=o.q.st) (l:=cs) h.cq.ok h.cq.bd h.lg ev16 hlen (by omega) henc
 refine ⟨by show CqOk c ⟨(applyF o.q.st cs).2,ls,la,ws⟩;rw [ha];exact hq,m1,by show (mkR c.every o.w o.x o.q.st cs).1.h.number ≤ _;omega,by show la ≤ ((n + 1:Nat):Int);omega,hrs,?_,fun ch hch=>?_⟩
 ·show (o.tl ++ cs).length ≤ _
  have:=h.tn
  rw [List.length_append];omega
 ·rcases List.mem_append.1 hch with hch|hch
  ·exact h.tx ch hch
  ·exact htx ch hch
def Co.tick (c:Cf) (o:Co):Co:=o.mk_ c ((expL (Ls.overF o.q.ls)).map Cg.c) (Ls.restF o.q.ls) o.q.la (wsDelAll o.q.ws (Ls.overF o.q.ls)) o.rs
theorem exp_tx {l:List Ls.LE}:∀ ch ∈ (expL l).map Cg.c,ch.txs.length ≤ 2000000 ∧ 0 ≤ ch.rbits ∧ ch.rbits < 18446744073709551616:=fun ch hch=>by
 obtain ⟨g,hg,rfl⟩:=List.mem_map.1 hch
 exact ⟨by rw [(expL_bare l g hg).t];exact Nat.zero_le _,(expL_bare l g hg).x⟩
theorem CoOk.tick {c:Cf} {len n:Nat} {o:Co} (h:CoOk c len n o) (hc:CfOk c) (hlen:20480 ≤ roomF len) (hn:n ≤ 2000000):CoOk c len (n + 1) (o.tick c) ∧ applyF o.q.st ((expL (Ls.overF o.q.ls)).map Cg.c) = ((0,0),(o.tick c).q.st):=by
 obtain ⟨h1,h2,st,h3,h4⟩:=h.cq.tick
 have hl:((expL (Ls.overF o.q.ls)).map Cg.c).length = (Ls.overF o.q.ls).length:=by simp [expL]
 refine ⟨h.mk_ hc hlen hn h3 h4 (fun q=>h2 (fun e=>q (by rw [e];rfl))) (by omega) exp_tx h.rsI (by have:=h.ln;omega),?_⟩
 show applyF _ _ = ((0,0),(applyF o.q.st _).2)
 rw [h3]
theorem co_tick (B0:Base) (xb db:Nat) (c:Cf) (hc:CfOk c) (len n:Nat) (hlen:20480 ≤ roomF len) (hn:n ≤ 2000000) (o:Co) (h:CoOk c len n o) (A:List Blk) (hA:CoA xb db c n o A) :
  ConB Tryz.prog B0 20 #[ptr xb] A fun v A'=>v = .int .i64 0 ∧ CoA xb db c (n + 1) (o.tick c) A':=by
 obtain ⟨lb,lm,tb,cb,mb,wb,sb,tv,les,lck,sv,G,mes,mck_,SD,k,D,TG,TX,WG,rfl,hL,hO,hW,hS,hD,hk,hT⟩:=hA
 obtain ⟨h1,h2,st,h3,h4⟩:=h.cq.tick
 have hnm:=h.nm
 have htn:=h.tn
 have hde:=h.lg.cm.de
 have hTT:=hT
 obtain ⟨cgs,hcg,hcm,hct⟩:=hT
 have hcl:cgs.length ≤ 1000000000:=by
  have:cgs.length = o.tl.length:=by rw [← hcm,List.length_map]
  omega
 obtain ⟨WG1,J,hWp,hW1⟩:=hW.delAll_ (l:=Ls.overF o.q.ls)
 have key:∀ bx,ConB Tryz.prog B0 42 #[ptr bx] (CoB xb lb tb cb mb db wb sb c tv false :: (D ++ ((Ls.TB lb lm c.lease les lck ++ (Se.TabB tb sv G ++ (CtB cb c.block o.q.la o.q.st.res :: (mb,mpo mes mck_) :: WlB wb db o.w :: (SD ++ (TG ++ (TX ++ WG)))))) ++ [(bx,cl [ptr xb] 26)]))) fun v A=>∃ A1,CoA xb db c (n + 1) (o.tick c) A1 ∧ A = A1 ++ [(bx,cl [ptr xb] 26)]:=fun bx=>by
  by_cases hov:Ls.overF o.q.ls = []
  ·have hg:=(tick1_calm B0 xb lb lm tb cb mb db wb sb c hc false tv o.q.ls les lck hL hov bx).beside (F:=Se.TabB tb sv G ++ (CtB cb c.block o.q.la o.q.st.res :: (mb,mpo mes mck_) :: WlB wb db o.w :: (SD ++ (D ++ (TG ++ (TX ++ WG))))))
   refine (hg.permIn ?_).permOut fun v A' hR=>?_
   ·refine perm_of fun c g ha hc' hp h0=>?_
    simp only [List.cons_append,List.append_assoc,List.nil_append,ha,hc',h0];omega
   ·obtain ⟨A2,⟨lb1,lm1,es,ck,rfl,hok⟩,rfl⟩:=hR
    refine ⟨CoL xb lb1 lm1 tb cb mb db wb sb c o.q.la o.q.st.res tv es ck sv G mes mck_ o.w SD D TG TX WG ++ [(bx,cl [ptr xb] 26)],⟨_,⟨lb1,lm1,tb,cb,mb,wb,sb,tv,es,ck,sv,G,mes,mck_,SD,k,D,TG,TX,WG,?_,hok,hO,?_,?_,?_,by omega,?_⟩,rfl⟩,?_⟩
    ·unfold Co.tick;rw [hov];rfl
    ·unfold Co.tick;rw [hov];exact hW
    ·unfold Co.tick;rw [hov];exact hS
    ·unfold Co.tick;rw [hov];exact hD
    ·unfold Co.tick;rw [hov]
     show ToldA tv (o.tl ++ []) TG TX
     rw [List.append_nil];exact hTT
    ·refine perm_of fun c g ha hc' hp h0=>?_
     simp only [CoL,List.cons_append,List.append_assoc,List.nil_append,ha,hc',h0];omega
  ·have hcs:(expL (Ls.overF o.q.ls)).map Cg.c ≠ []:=fun q=>hov (by simpa [expL] using q)
   have hg:=(tick1_gen B0 xb lb lm tb cb mb db wb sb c hc false o.w o.x len h.lg hlen (by omega) k D hD (by omega) o.q.st SD hS h.cq.ok h.cq.bd tv cgs TG hcg hcl o.q.ls les lck hL mes mck_ bx hov h1 (h2 hov)).beside (F:=Se.TabB tb sv G ++ (CtB cb c.block o.q.la o.q.st.res :: (TX ++ WG)))
   refine (hg.permIn ?_).permOut fun v A' hR=>?_
   ·refine perm_of fun c g ha hc' hp h0=>?_
    simp only [List.cons_append,List.append_assoc,List.nil_append,ha,hc',h0];omega
   ·obtain ⟨A2,⟨lb1,lm1,les1,lck1,SD1,D1,tv1,TG1,k1,rfl,hL1,hS1,hD1,hk1,hT1⟩,rfl⟩:=hR
    rw [← mkR_some (s:=o.q.st) hcs] at hD1
    have hres:(o.tick c).q.st.res = o.q.st.res:=by
     obtain ⟨st2,g1,g2,_⟩:=expire_all o.q.st (Ls.overF o.q.ls) o.q.st 0 h.cq.ok h.cq.bd h.cq.ds (over_jobs h.cq.lk.jobs) (fun y hy=>by
      obtain ⟨z,hz,rfl,_⟩:=over_mem.1 hy
      exact ⟨(h.cq.lk.job0 z hz).1,(h.cq.lk.badge0 z hz).1,(h.cq.lk.badge0 z hz).2,h.cq.lr z hz⟩)
     show (applyF o.q.st ((expL (Ls.overF o.q.ls)).map Cg.c)).2.res = _
     rw [show (expL (Ls.overF o.q.ls)).map Cg.c = (Ls.overF o.q.ls).map expC from by simp [expL]]
     unfold applyF
     rw [g1];exact g2
    refine ⟨CoL xb lb1 lm1 tb cb mb db wb sb c o.q.la o.q.st.res tv1 les1 lck1 sv G (delAll mes (Ls.overF o.q.ls)) mck_ (o.tick c).w SD1 D1 TG1 (TX ++ J) WG1 ++ [(bx,cl [ptr xb] 26)],⟨_,⟨lb1,lm1,tb,cb,mb,wb,sb,tv1,les1,lck1,sv,G,delAll mes (Ls.overF o.q.ls),mck_,SD1,k1,D1,TG1,TX ++ J,WG1,?_,hL1,hO,hW1,hS1,hD1,by omega,?_⟩,rfl⟩,?_⟩
    ·rw [hres];rfl
    ·refine ⟨cgs ++ expL (Ls.overF o.q.ls),hT1,by rw [List.map_append,hcm];rfl,fun B hB g hg=>?_⟩
     rcases List.mem_append.1 hg with hg|hg
     ·exact hct B (hB.sub fun p hp=>List.mem_append_left _ hp) g hg
     ·have hb:=expL_bare _ g hg
      rw [hb.a,hb.t];exact SIn.nil
    ·have hw2:(o.tick c).w = (mkW c.every o.w o.x (bytesS o.q.st) (encodeF ((expL (Ls.overF o.q.ls)).map Cg.c)).1).1:=congrArg Prod.fst (mkR_some hcs)
     rw [hw2]
     refine perm_of fun c g ha hc' hp h0=>?_
     have hwg:=hp _ _ hWp
     rw [ha] at hwg
     simp only [CoL,List.cons_append,List.append_assoc,List.nil_append,ha,hc',h0,hwg];omega
 have ht:=tick_over B0 xb lb tb cb mb db wb sb c tv o.x k D hD hde _ _ key
 refine (ht.permIn ?_)
 refine perm_of fun c g ha hc' hp h0=>?_
 simp only [CoL,List.cons_append,List.append_assoc,List.nil_append,ha,hc',h0];omega
def CoP (xb db:Nat) (c:Cf) (n:Nat) (o:Co) (A:List Blk):Prop:=∃ A1,A.Perm A1 ∧ CoA xb db c n o A1
theorem CoA.p {xb db:Nat} {c:Cf} {n:Nat} {o:Co} {A:List Blk} (h:CoA xb db c n o A):CoP xb db c n o A:=⟨A,List.Perm.refl _,h⟩
theorem CoA.later {xb db:Nat} {c:Cf} {n:Nat} {o:Co} {A:List Blk} (h:CoA xb db c n o A):CoA xb db c (n + 1) o A:=by
 obtain ⟨lb,lm,tb,cb,mb,wb,sb,tv,les,lck,sv,G,mes,mck_,SD,k,D,TG,TX,WG,e,hL,hO,hW,hS,hD,hk,hT⟩:=h
 exact ⟨lb,lm,tb,cb,mb,wb,sb,tv,les,lck,sv,G,mes,mck_,SD,k,D,TG,TX,WG,e,hL,hO,hW,hS,hD,by omega,hT⟩
theorem CoOk.later {c:Cf} {len n:Nat} {o:Co} (h:CoOk c len n o):CoOk c len (n + 1) o :=
 ⟨h.cq,h.lg,by have:=h.nm;omega,by have:=h.ln;omega,h.rsI,by have:=h.tn;omega,h.tx⟩
theorem CqOk.la {c:Cf} {q:Cq} (h:CqOk c q) {la:Int} (h1:q.la ≤ la) (h2:la ≤ q.st.res):CqOk c { q with la:=la } :=
 ⟨h.ok,h.bd,h.lk,h.lr,h.win,h.hw,fun r hr=>by have:=h.bl r hr;show r.badge ≤ la;omega,⟨by have:=h.l0.1;show 0 ≤ la;omega,h2⟩,h.ds⟩
def resOf (c:Cf) (q:Cq):Int:=(nextB c.block q.la q.st.res).1.2.1
theorem next_there {c:Cf} {len n:Nat} {o:Co} (h:CoOk c len n o) (hn:n ≤ 2000000):nextB c.block o.q.la o.q.st.res = ((o.q.la + 1,resOf c o.q,0),o.q.la + 1,(nextB c.block o.q.la o.q.st.res).2.2):=by
 have hl:=h.ln
 unfold resOf nextB
 rw [if_neg (by omega)]
 split <;> rfl
theorem ToldA.bare {tv1:Value} {cgs l:List Cg} {TG1 TX:List Blk} (h1:OwnC tv1 (cgs ++ l) TG1) (h2:∀ B,Holds B TX → ∀ g ∈ cgs,SIn B g.a g.c.txs) (hb:∀ g ∈ l,Bare g):ToldA tv1 (cgs.map Cg.c ++ l.map Cg.c) TG1 TX :=
 ⟨cgs ++ l,h1,by rw [List.map_append],fun B hB g hg=>by
  rcases List.mem_append.1 hg with hg|hg
  ·exact h2 B hB g hg
  ·rw [(hb g hg).a,(hb g hg).t];exact SIn.nil⟩
theorem bare_tx {l:List Cg} (hb:∀ g ∈ l,Bare g):∀ ch ∈ l.map Cg.c,ch.txs.length ≤ 2000000 ∧ 0 ≤ ch.rbits ∧ ch.rbits < 18446744073709551616:=fun ch hch=>by
 obtain ⟨g,hg,rfl⟩:=List.mem_map.1 hch
 exact ⟨by rw [(hb g hg).t];exact Nat.zero_le _,(hb g hg).x⟩
theorem resL_len (rs:Int):(resL rs).length ≤ 1:=by unfold resL;split <;> simp
def helloO (c:Cf) (o:Co) (node life:Int):ByteArray × Co :=
 if (Se.helloV (Se.rowAt o.rs (node - 2)) life).1 = 2 then
  ((encF (welM (o.q.la + 1))).1,o.mk_ c ((resL (resOf c o.q)).map Cg.c) o.q.ls (o.q.la + 1) o.q.ws (Se.putRow o.rs (node - 2) (Se.openV (Se.rowAt o.rs (node - 2)) (node - 2) life (o.q.la + 1))))
 else (if (Se.helloV (Se.rowAt o.rs (node - 2)) life).1 = 0 then ⟨#[]⟩ else (encF (welM (Se.helloV (Se.rowAt o.rs (node - 2)) life).2)).1,o)
theorem CoOk.hello {c:Cf} {len n:Nat} {o:Co} (h:CoOk c len n o) (hc:CfOk c) (hlen:20480 ≤ roomF len) (hn:n ≤ 2000000) (node life:Int) :
  CoOk c len (n + 1) (helloO c o node life).2 ∧ ∃ cs,(helloO c o node life).2.tl = o.tl ++ cs ∧ applyF o.q.st cs = ((0,0),(helloO c o node life).2.q.st):=by
 unfold helloO
 split
 ·obtain ⟨ha,hq,e1,e2,e3,e4,he⟩:=h.cq.draw hc (next_there h hn)
  refine ⟨h.mk_ hc hlen hn ha (hq.la (by show o.q.la ≤ o.q.la + 1;omega) e3) (fun q=>he (fun q2=>q (by rw [q2];rfl))) (by rw [List.length_map];have:=resL_len (resOf c o.q);omega) (bare_tx (resL_bare _)) (Se.openV_rows h.rsI) (by have:=h.ln;omega),_,rfl,?_⟩
  show applyF _ _ = ((0,0),(applyF _ _).2)
  rw [ha]
 ·exact ⟨h.later,[],by rw [List.append_nil],rfl⟩
theorem co_hello (B0:Base) (xb db:Nat) (c:Cf) (hc:CfOk c) (len n:Nat) (hlen:20480 ≤ roomF len) (hn:n ≤ 2000000) (o:Co) (h:CoOk c len n o) (A:List Blk) (hA:CoP xb db c n o A) (node life:Int) (hn1:2 ≤ node) (hn2:node ≤ 9) (m:Ms) :
  ConB Tryz.prog B0 91 #[.agg (heV xb node life m).toArray] A fun v A'=>v = .string (helloO c o node life).1 ∧ CoP xb db c (n + 1) (helloO c o node life).2 A':=by
 obtain ⟨A1,hp1,hA⟩:=hA
 refine ConB.permIn ?_ hp1
 have hAA:=hA
 obtain ⟨lb,lm,tb,cb,mb,wb,sb,tv,les,lck,sv,G,mes,mck_,SD,k,D,TG,TX,WG,rfl,hL,hO,hW,hS,hD,hk,hT⟩:=hA
 have hnm:=h.nm
 have htn:=h.tn
 obtain ⟨cgs,hcg,hcm,hct⟩:=hT
 have hcl:cgs.length ≤ 1000000000:=by
  have:cgs.length = o.tl.length:=by rw [← hcm,List.length_map]
  omega
 have hre:=h.cq.bd.rs
 have hl0:=h.cq.l0
 by_cases hw:(Se.helloV (Se.rowAt o.rs (node - 2)) life).1 = 2
 ·obtain ⟨ha,hq,e1,e2,e3,e4,he⟩:=h.cq.draw hc (next_there h hn)
  have hg:=(hello_fresh B0 xb lb tb cb mb db wb sb c hc false o.w o.x len h.lg hlen (by omega) k D hD (by omega) o.q.st SD hS h.cq.ok h.cq.bd tv cgs TG hcg hcl node life hn1 hn2 m sv o.rs G hO (Se.helloV (Se.rowAt o.rs (node - 2)) life).2 (Prod.ext hw rfl) o.q.la o.q.st.res (o.q.la + 1) (resOf c o.q) (o.q.la + 1) _ hre.1 hre.2 hl0.1 (next_there h hn) he).beside (F:=Ls.TB lb lm c.lease les lck ++ ((mb,mpo mes mck_) :: (TX ++ WG)))
  refine (hg.permIn ?_).permOut fun v A' hR=>?_
  ·refine perm_of fun c g ha hc' hp h0=>?_
   simp only [CoL,List.cons_append,List.append_assoc,List.nil_append,ha,hc',h0];omega
  ·obtain ⟨A2,⟨rfl,SD1,D1,tv1,TG1,G1,k1,rfl,hS1,hD1,hk1,hT1,hO1⟩,rfl⟩:=hR
   have hres:(applyF o.q.st ((resL (resOf c o.q)).map Cg.c)).2.res = (nextB c.block o.q.la o.q.st.res).2.2:=by rw [ha]
   have hh:helloO c o node life = ((encF (welM (o.q.la + 1))).1,o.mk_ c ((resL (resOf c o.q)).map Cg.c) o.q.ls (o.q.la + 1) o.q.ws (Se.putRow o.rs (node - 2) (Se.openV (Se.rowAt o.rs (node - 2)) (node - 2) life (o.q.la + 1)))):=if_pos hw
   rw [hh]
   refine ⟨_,⟨rfl,CoL xb lb lm tb cb mb db wb sb c (o.q.la + 1) (nextB c.block o.q.la o.q.st.res).2.2 tv1 les lck sv G1 mes mck_ (mkR c.every o.w o.x o.q.st ((resL (resOf c o.q)).map Cg.c)).1 SD1 D1 TG1 TX WG,?_,lb,lm,tb,cb,mb,wb,sb,tv1,les,lck,sv,G1,mes,mck_,SD1,k1,D1,TG1,TX,WG,?_,hL,hO1,hW,hS1,hD1,by omega,?_⟩,List.Perm.refl _⟩
   ·refine perm_of fun c g ha hc' hp h0=>?_
    simp only [CoL,List.cons_append,List.append_assoc,List.nil_append,ha,hc',h0];omega
   ·show _ = CoL xb lb lm tb cb mb db wb sb c (o.q.la + 1) (applyF o.q.st ((resL (resOf c o.q)).map Cg.c)).2.res _ _ _ _ _ _ _ _ _ _ _ _ _
    rw [hres];rfl
   ·show ToldA tv1 (o.tl ++ _) TG1 TX
    rw [← hcm]
    exact ToldA.bare hT1 hct (resL_bare _)
 ·have hg:=(Con.toB (B0:=B0) (hello_old xb lb tb cb mb db wb sb c tv false node life hn1 hn2 m sv o.rs G hO (Se.helloV (Se.rowAt o.rs (node - 2)) life).1 (Se.helloV (Se.rowAt o.rs (node - 2)) life).2 rfl hw)).beside (F:=Ls.TB lb lm c.lease les lck ++ (CtB cb c.block o.q.la o.q.st.res :: (mb,mpo mes mck_) :: WlB wb db o.w :: (SD ++ (D ++ (TG ++ (TX ++ WG))))))
  have hh:helloO c o node life = (if (Se.helloV (Se.rowAt o.rs (node - 2)) life).1 = 0 then ⟨#[]⟩ else (encF (welM (Se.helloV (Se.rowAt o.rs (node - 2)) life).2)).1,o):=if_neg hw
  rw [hh]
  refine (hg.permIn ?_).permOut fun v A' hR=>?_
  ·refine perm_of fun c g ha hc' hp h0=>?_
   simp only [CoL,List.cons_append,List.append_assoc,List.nil_append,ha,hc',h0];omega
  ·obtain ⟨A2,⟨rfl,rfl⟩,rfl⟩:=hR
   refine ⟨_,⟨rfl,hAA.later.p⟩,?_⟩
   refine perm_of fun c g ha hc' hp h0=>?_
   simp only [CoL,List.cons_append,List.append_assoc,List.nil_append,ha,hc',h0];omega
theorem WnsA.new {win:Nat} {ws:List (Int × Sw.Sp)} {mes:List ME} {mck_:Nat} {WG:List Blk} (h:WnsA win ws mes mck_ WG) (job:Int) :
  ∃ J WGd,WG.Perm (J ++ WGd) ∧ ∀ wn1 wm1 es1 ck1 sp1,Sw.EsOk sp1 es1 ck1 → WnsA win ((job,sp1) :: wsDel ws job) (mput mes mck_ job (ptr wn1)) (mck mes mck_ job) (Sw.WB wn1 wm1 win sp1.nx es1 ck1 ++ WGd):=by
 obtain ⟨hok,wl,rfl,rfl,hw⟩:=h
 refine ⟨(wl.filter fun t=>decide (t.job = job)).flatMap (Wn.G win),(wl.filter fun t=>!decide (t.job = job)).flatMap (Wn.G win),?_,fun wn1 wm1 es1 ck1 sp1 he=>⟨hok.put job _,⟨job,wn1,wm1,sp1,es1,ck1⟩ :: wl.filter (fun t=>!decide (t.job = job)),by rw [List.flatMap_cons],?_,fun t ht=>?_⟩⟩
 ·rw [← List.flatMap_append]
  refine List.Perm.flatMap_right _ ?_
  exact (List.filter_append_perm (fun t:Wn=>decide (t.job = job)) wl).symm
 ·rw [List.map_cons]
  unfold wsDel
  rw [List.filter_map];rfl
 ·rcases List.mem_cons.1 ht with rfl|ht
  ·exact ⟨by rw [mget_put hok,if_pos rfl],he⟩
  ·obtain ⟨h1,h2⟩:=List.mem_filter.1 ht
   obtain ⟨h3,h4⟩:=hw t h1
   have hne:t.job ≠ job:=by simpa using h2
   exact ⟨by rw [mget_put hok,if_neg hne];exact h3,h4⟩
theorem WnsA.take {win:Nat} {ws:List (Int × Sw.Sp)} {mes:List ME} {mck_:Nat} {WG:List Blk} (h:WnsA win ws mes mck_ WG) {job:Int} {sp:Sw.Sp} (hm:(job,sp) ∈ ws) :
  ∃ n m es ck J WGd,WG.Perm (Sw.WB n m win sp.nx es ck ++ (J ++ WGd)) ∧ mget mes job = some (ptr n) ∧ Sw.EsOk sp es ck ∧ ∀ wn1 wm1 es1 ck1 sp1,Sw.EsOk sp1 es1 ck1 → WnsA win ((job,sp1) :: wsDel ws job) (mput mes mck_ job (ptr wn1)) (mck mes mck_ job) (Sw.WB wn1 wm1 win sp1.nx es1 ck1 ++ WGd):=by
 have h0:=h
 obtain ⟨hok,wl,rfl,rfl,hw⟩:=h
 obtain ⟨t,ht,e⟩:=List.mem_map.1 hm
 injection e with e1 e2
 obtain ⟨h3,h4⟩:=hw t ht
 have htm:t ∈ wl.filter fun t=>decide (t.job = job):=List.mem_filter.2 ⟨ht,decide_eq_true e1⟩
 obtain ⟨a,b,hab⟩:=List.append_of_mem htm
 subst e2
 rw [e1] at h3
 refine ⟨t.n,t.m,t.es,t.ck,(a ++ b).flatMap (Wn.G win),(wl.filter fun t=>!decide (t.job = job)).flatMap (Wn.G win),?_,h3,h4,fun wn1 wm1 es1 ck1 sp1 he=>⟨hok.put job _,⟨job,wn1,wm1,sp1,es1,ck1⟩ :: wl.filter (fun t=>!decide (t.job = job)),by rw [List.flatMap_cons],?_,fun t ht=>?_⟩⟩
 ·have hp:wl.Perm ((a ++ t :: b) ++ wl.filter fun t=>!decide (t.job = job)):=by
   rw [← hab];exact (List.filter_append_perm (fun t:Wn=>decide (t.job = job)) wl).symm
  have hp2:((a ++ t :: b) ++ wl.filter fun t=>!decide (t.job = job)).Perm (t :: ((a ++ b) ++ wl.filter fun t=>!decide (t.job = job))):=(List.perm_middle.append_right _)
  have:=List.Perm.flatMap_right (Wn.G win) (hp.trans hp2)
  rw [List.flatMap_cons,List.flatMap_append] at this
  exact this
 ·rw [List.map_cons]
  unfold wsDel
  rw [List.filter_map];rfl
 ·rcases List.mem_cons.1 ht with rfl|ht
  ·exact ⟨by rw [mget_put hok,if_pos rfl],he⟩
  ·obtain ⟨h1,h2⟩:=List.mem_filter.1 ht
   obtain ⟨h3,h4⟩:=hw _ h1
   have hne:∀ {t:Wn},(!decide (t.job = job)) = true → t.job ≠ job:=fun h=>by simpa using h
   exact ⟨by rw [mget_put hok,if_neg (hne h2)];exact h3,h4⟩
def ChunkR (c:Cf) (o:Co) (node life:Int) (m:Ms) (reply:ByteArray) (o1:Co):Prop :=
 (heldF o.q.st m.badge node life = false ∧ reply = ⟨#[]⟩ ∧ o1 = o) ∨
 (heldF o.q.st m.badge node life = true ∧ ∃ sp te l sp1,(jobF o.q.st m.badge,sp) ∈ o.q.ws ∧ sp.nx = (logF o.q.st m.badge).length ∧ Sw.takeF c.window.toNat sp m.index m.text = (te,l,sp1) ∧
  reply = (encF (ackM m.badge ((logF o.q.st m.badge).length + l.length))).1 ∧ o1 = o.mk_ c (if l = [] then [] else [logC m.badge l]) o.q.ls o.q.la ((jobF o.q.st m.badge,sp1) :: wsDel o.q.ws (jobF o.q.st m.badge)) o.rs)
theorem CoOk.chunk {c:Cf} {len n:Nat} {o:Co} (h:CoOk c len n o) (hc:CfOk c) (hlen:20480 ≤ roomF len) (hn:n ≤ 2000000) {node life:Int} {m:Ms} {reply:ByteArray} {o1:Co} (hr:ChunkR c o node life m reply o1) :
  CoOk c len (n + 1) o1 ∧ ∃ cs,o1.tl = o.tl ++ cs ∧ applyF o.q.st cs = ((0,0),o1.q.st):=by
 rcases hr with ⟨_,_,rfl⟩|⟨hh,sp,te,l,sp1,hm,hnx,htk,_,rfl⟩
 ·exact ⟨h.later,[],by rw [List.append_nil],rfl⟩
 ·obtain ⟨w1,w2⟩:=h.cq.win _ hm
  obtain ⟨k1,k2⟩:=h.cq.chunk hc hh w1 w2 hnx htk
  have hl:=h.ln
  by_cases hl0:l = []
  ·rw [if_pos hl0]
   exact ⟨h.mk_ hc hlen hn (st:=o.q.st) rfl (k1 hl0) (fun q=>absurd rfl q) (Nat.zero_le _) (fun ch hch=>by cases hch) h.rsI (by omega),[],rfl,rfl⟩
  ·rw [if_neg hl0]
   obtain ⟨k3,st,k4,k5⟩:=k2 hl0
   have hgr:=Sw.takeF_grow w1 m.index m.text
   have hok1:=(Sw.takeF_ok w1 m.index m.text).n
   rw [htk] at hgr hok1
   dsimp only at hgr hok1
   refine ⟨h.mk_ hc hlen hn k4 k5 (fun _=>k3) (by simp) (fun ch hch=>by rw [List.mem_singleton] at hch;subst hch;exact ⟨by show l.length ≤ 2000000;omega,by show (0:Int) ≤ 0 ∧ (0:Int) < _;omega⟩) h.rsI (by omega),_,rfl,?_⟩
   show applyF _ _ = ((0,0),(applyF _ _).2)
   rw [k4]
theorem co_chunk (B0:Base) (xb db:Nat) (c:Cf) (hc:CfOk c) (len n:Nat) (hlen:20480 ≤ roomF len) (hn:n ≤ 2000000) (o:Co) (h:CoOk c len n o) (A:List Blk) (hA:CoP xb db c n o A) (node life:Int) (m:Ms) (hix:m.index ≤ 9223372036854775807) :
  ConB Tryz.prog B0 93 #[.agg (heV xb node life m).toArray] A fun v A'=>∃ reply o1,v = .string reply ∧ ChunkR c o node life m reply o1 ∧ CoP xb db c (n + 1) o1 A':=by
 obtain ⟨A1,hp1,hA⟩:=hA
 refine ConB.permIn ?_ hp1
 have hAA:=hA
 obtain ⟨lb,lm,tb,cb,mb,wb,sb,tv,les,lck,sv,G,mes,mck_,SD,k,D,TG,TX,WG,rfl,hL,hO,hW,hS,hD,hk,hT⟩:=hA
 have hnm:=h.nm
 have htn:=h.tn
 obtain ⟨cgs,hcg,hcm,hct⟩:=hT
 have hcl:cgs.length ≤ 1000000000:=by
  have:cgs.length = o.tl.length:=by rw [← hcm,List.length_map]
  omega
 by_cases hh:heldF o.q.st m.badge node life = true
 ·obtain ⟨sp,hm,w1,w2,hnx⟩:=h.cq.window hh
  obtain ⟨wn,wm,es,ck,J,WGd,hWp,hmg,hes,hput⟩:=hW.take hm
  rcases htk:Sw.takeF c.window.toNat sp m.index m.text with ⟨te,l,sp1⟩
  have hgr:=w1.n
  obtain ⟨k1,k2⟩:=h.cq.chunk hc hh w1 w2 hnx htk
  have hg:=(chunk_yes B0 xb lb tb cb mb db wb sb c hc false o.w o.x len h.lg hlen (by omega) k D hD (by omega) o.q.st SD hS h.cq.ok h.cq.bd tv cgs TG hcg hcl mes mck_ node life m hix hh wn wm sp es ck w1 hes hmg (by omega) te l sp1 htk (fun q=>(k2 q).1)).beside (F:=Ls.TB lb lm c.lease les lck ++ (Se.TabB tb sv G ++ (CtB cb c.block o.q.la o.q.st.res :: (TX ++ (J ++ WGd)))))
  refine (hg.permIn ?_).permOut fun v A' hR=>?_
  ·refine perm_of fun c g ha hc' hp h0=>?_
   have hwg:=hp _ _ hWp
   rw [ha,ha] at hwg
   simp only [CoL,List.cons_append,List.append_assoc,List.nil_append,ha,hc',h0,hwg];omega
  ·obtain ⟨A2,⟨rfl,wn1,wm1,es1,ck1,hes1,hR⟩,rfl⟩:=hR
   have hW1:=hput wn1 wm1 es1 ck1 sp1 hes1
   rcases hR with ⟨hl0,rfl⟩|⟨hl0,la,lk,G2,SD1,D1,tv1,TG1,k3,rfl,hOT,hS1,hD1,hk1,hT1⟩
   ·refine ⟨_,⟨_,_,rfl,.inr ⟨hh,sp,te,l,sp1,hm,hnx,htk,rfl,rfl⟩,CoL xb lb lm tb cb mb db wb sb c o.q.la o.q.st.res tv les lck sv G (mput mes mck_ (jobF o.q.st m.badge) (ptr wn1)) (mck mes mck_ (jobF o.q.st m.badge)) o.w SD D TG (TX ++ J) (Sw.WB wn1 wm1 c.window.toNat sp1.nx es1 ck1 ++ WGd),?_,lb,lm,tb,cb,mb,wb,sb,tv,les,lck,sv,G,_,_,SD,k,D,TG,TX ++ J,_,?_,hL,hO,hW1,?_,?_,by omega,?_⟩,List.Perm.refl _⟩
    ·refine perm_of fun c g ha hc' hp h0=>?_
     simp only [CoL,List.cons_append,List.append_assoc,List.nil_append,ha,hc',h0];omega
    ·rw [if_pos hl0];rfl
    ·rw [if_pos hl0];exact hS
    ·rw [if_pos hl0];exact hD
    ·rw [if_pos hl0]
     show ToldA tv (o.tl ++ []) TG (TX ++ J)
     rw [List.append_nil]
     exact ToldA.more ⟨cgs,hcg,hcm,hct⟩ J
   ·have hne:([logC m.badge l]:List Ch) ≠ []:=by simp
    rw [← mkR_some (s:=o.q.st) hne] at hD1
    obtain ⟨k4,st,k5,k6⟩:=k2 hl0
    have hres:st.res = o.q.st.res:=by
     obtain ⟨i,r,hl,hr,h2,hb,h0,_,_,hj,hlg⟩:=held_row h.cq.ok hh
     have:applyG o.q.st o.q.st 0 [logC m.badge l] = ((0,0),st):=k5
     rw [applyG] at this
     split at this
     ·injection this with this _;injection this with _ this;cases this
     ·cases hs:stepF o.q.st (logC m.badge l) with
      | none=>rw [hs] at this;injection this with this _;injection this with _ this;cases this
      | some s' =>
       rw [hs] at this
       injection this with _ this
       subst this
       unfold stepF at hs
       rw [if_neg (by show ¬ ((4:Int) = 1);decide),if_neg (by show ¬ ((4:Int) = 2);decide),if_neg (by show ¬ ((4:Int) = 3);decide),if_pos (by rfl)] at hs
       split at hs
       ·cases hs
       ·split at hs
        ·cases hs
        ·injection hs with hs;rw [← hs]
    refine ⟨_,⟨_,_,rfl,.inr ⟨hh,sp,te,l,sp1,hm,hnx,htk,rfl,rfl⟩,CoL xb lb lm tb cb mb db wb sb c o.q.la o.q.st.res tv1 les lck sv G (mput mes mck_ (jobF o.q.st m.badge) (ptr wn1)) (mck mes mck_ (jobF o.q.st m.badge)) (mkR c.every o.w o.x o.q.st [logC m.badge l]).1 SD1 D1 TG1 (TX ++ (J ++ G2)) (Sw.WB wn1 wm1 c.window.toNat sp1.nx es1 ck1 ++ WGd),?_,lb,lm,tb,cb,mb,wb,sb,tv1,les,lck,sv,G,_,_,SD1,k3,D1,TG1,TX ++ (J ++ G2),_,?_,hL,hO,hW1,?_,?_,by omega,?_⟩,List.Perm.refl _⟩
    ·rw [mkR_some (s:=o.q.st) hne]
     refine perm_of fun c g ha hc' hp h0=>?_
     simp only [CoL,List.cons_append,List.append_assoc,List.nil_append,ha,hc',h0];omega
    ·rw [if_neg hl0]
     show _ = CoL xb lb lm tb cb mb db wb sb c o.q.la (applyF o.q.st [logC m.badge l]).2.res _ _ _ _ _ _ _ _ _ _ _ _ _
     rw [k5,hres];rfl
    ·rw [if_neg hl0];exact hS1
    ·rw [if_neg hl0];exact hD1
    ·rw [if_neg hl0]
     refine ⟨_,hT1,by rw [List.map_append,hcm];rfl,fun B hB g hg=>?_⟩
     rcases List.mem_append.1 hg with hg|hg
     ·exact hct B (hB.sub fun p hp=>List.mem_append_left _ hp) g hg
     ·rw [List.mem_singleton] at hg
      subst hg
      exact RIn.sin (Own.rin hOT (hB.sub fun p hp=>List.mem_append_right _ (List.mem_append_right _ hp)))
 ·rw [Bool.not_eq_true] at hh
  have hg:=(chunk_no B0 xb lb tb cb mb db wb sb c tv false node life m o.q.st SD hS h.cq.ok hh).beside (F:=Ls.TB lb lm c.lease les lck ++ (Se.TabB tb sv G ++ (CtB cb c.block o.q.la o.q.st.res :: (mb,mpo mes mck_) :: WlB wb db o.w :: (D ++ (TG ++ (TX ++ WG))))))
  refine (hg.permIn ?_).permOut fun v A' hR=>?_
  ·refine perm_of fun c g ha hc' hp h0=>?_
   simp only [CoL,List.cons_append,List.append_assoc,List.nil_append,ha,hc',h0];omega
  ·obtain ⟨A2,⟨rfl,rfl⟩,rfl⟩:=hR
   refine ⟨_,⟨_,_,rfl,.inl ⟨hh,rfl,rfl⟩,hAA.later.p⟩,?_⟩
   refine perm_of fun c g ha hc' hp h0=>?_
   simp only [CoL,List.cons_append,List.append_assoc,List.nil_append,ha,hc',h0];omega
theorem spN_es:Sw.EsOk spN [] 0:=by
 have hno:∀ k,(List.replicate 32 false)[k]? ≠ some true:=fun k h=>by
  have:=List.eq_of_mem_replicate (List.mem_of_getElem? h)
  cases this
 refine ⟨⟨List.nodup_nil,List.nodup_nil,fun e he=>by cases he⟩,fun i=>?_⟩
 show mget [] i = Sw.hv (List.replicate 32 false) _ i
 unfold Sw.hv
 rw [if_neg (fun q=>hno _ q.2)]
 rfl
def offerM (m:Ms) (job bg:Int) (p:ByteArray):Ms:=⟨9,m.session,m.number,job,bg,0,0,0,0,⟨#[]⟩,p⟩
@[reducible] def grantCs (c:Cf) (o:Co) (node life:Int):List Cg:=pollL (resOf c o.q) (headF18 o.q.st.rows) (o.q.la + 1) (node - 2) life
def MidR (c:Cf) (o:Co) (node life:Int) (m m1:Ms) (o1:Co):Prop :=
 (m.kind = 2 ∧ headF18 o.q.st.rows = 0 ∧ m1 = reqM 10 m.session m.number ∧ o1 = o) ∨
 (m.kind = 2 ∧ headF18 o.q.st.rows ≠ 0 ∧ ∃ r p,placeF (applyF o.q.st ((grantCs c o node life).map Cg.c)).2 (o.q.la + 1) = some (r,p,[]) ∧ m1 = offerM m (headF18 o.q.st.rows) (o.q.la + 1) p ∧
  o1 = o.mk_ c ((grantCs c o node life).map Cg.c) (Ls.grantF c.lease o.q.ls (headF18 o.q.st.rows) (o.q.la + 1) node life).2 (o.q.la + 1) ((headF18 o.q.st.rows,spN) :: wsDel o.q.ws (headF18 o.q.st.rows)) o.rs) ∨
 (m.kind = 3 ∧ heldF o.q.st m.badge node life = false ∧ m1 = reqM 12 m.session m.number ∧ o1 = o) ∨
 (m.kind = 3 ∧ heldF o.q.st m.badge node life = true ∧ m1 = reqM 11 m.session m.number ∧ o1 = { o with q:={ o.q with ls:=(Ls.renewF c.lease o.q.ls m.badge).2 } }) ∨
 (m.kind ≠ 2 ∧ m.kind ≠ 3 ∧ settledQ o.q.st m.badge m.count node life ≠ 2 ∧ m1 = reqM (if settledQ o.q.st m.badge m.count node life = 0 then 13 else 12) m.session m.number ∧ o1 = o) ∨
 (m.kind ≠ 2 ∧ m.kind ≠ 3 ∧ settledQ o.q.st m.badge m.count node life = 2 ∧ m1 = reqM 13 m.session m.number ∧
  o1 = o.mk_ c [settleC m.badge m.rcode m.rbits] (Ls.dropF o.q.ls m.badge).2 o.q.la (wsDel o.q.ws (jobF o.q.st m.badge)) o.rs)
def RequestR (c:Cf) (o:Co) (node life:Int) (m:Ms) (reply:ByteArray) (o1:Co):Prop :=
 ((Se.askV (Se.rowAt o.rs (node - 2)) life m.session m.number).1 ≠ 3 ∧ o1 = o ∧
  reply = if (Se.askV (Se.rowAt o.rs (node - 2)) life m.session m.number).1 = 1 then (encF (reqM 8 m.session m.number)).1 else if (Se.askV (Se.rowAt o.rs (node - 2)) life m.session m.number).1 = 2 then (Se.askV (Se.rowAt o.rs (node - 2)) life m.session m.number).2 else ⟨#[]⟩) ∨
 ((Se.askV (Se.rowAt o.rs (node - 2)) life m.session m.number).1 = 3 ∧ ∃ m1 o2,MidR c o node life m m1 o2 ∧ reply = (encF m1).1 ∧ o1 = { o2 with rs:=Se.putRow o.rs (node - 2) (Se.answerV (Se.rowAt o.rs (node - 2)) (encF m1).1) })
theorem CqOk.renew {c:Cf} {q:Cq} (h:CqOk c q) (b:Int):CqOk c { q with ls:=(Ls.renewF c.lease q.ls b).2 }:=by
 refine ⟨h.ok,h.bd,Ls.renewF_ok h.lk b,fun x hx=>?_,h.win,h.hw,h.bl,h.l0,h.ds⟩
 unfold Ls.renewF at hx
 split at hx
 ·exact h.lr x hx
 ·obtain ⟨y,hy,rfl⟩:=List.mem_map.1 hx
  split
  ·exact h.lr y hy
  ·exact h.lr y hy
def ResOk (m:Ms):Prop:=0 ≤ m.rcode ∧ m.rcode ≤ 7 ∧ (m.rcode = 0 ∨ m.rbits = 0) ∧ 0 ≤ m.rbits ∧ m.rbits < 18446744073709551616
theorem settled_held {s:StP} {b cnt node life:Int} (h:settledQ s b cnt node life = 2):heldF s b node life = true:=by
 unfold settledQ at h
 split at h
 ·cases h
 ·split at h
  ·rename_i h1;exact h1.1
  ·cases h
theorem pollL_len (rs job bg slot life:Int):(pollL rs job bg slot life).length ≤ 2:=by
 unfold pollL
 rw [List.length_append]
 have:=resL_len rs
 show (resL rs).length + 1 ≤ 2
 omega
theorem CoOk.mid {c:Cf} {len n:Nat} {o:Co} (h:CoOk c len n o) (hc:CfOk c) (hlen:20480 ≤ roomF len) (hn:n ≤ 2000000) {node life:Int} (hn1:2 ≤ node) (hn2:node ≤ 9) (hlf:1 ≤ life ∧ life ≤ 1099511627776) {m m1:Ms} (hm:m.kind ≠ 2 → m.kind ≠ 3 → ResOk m) {o1:Co} (hr:MidR c o node life m m1 o1) :
  CoOk c len (n + 1) o1 ∧ (∃ cs,o1.tl = o.tl ++ cs ∧ applyF o.q.st cs = ((0,0),o1.q.st)) ∧ o1.rs = o.rs ∧ MsOk m1:=by
 have hl:=h.ln
 have hreq:∀ k,MsOk (reqM k m.session m.number):=fun k=>reqM_ok _ _ _
 rcases hr with ⟨_,_,rfl,rfl⟩|⟨_,hh,r,p,hp,rfl,rfl⟩|⟨_,_,rfl,rfl⟩|⟨_,_,rfl,rfl⟩|⟨_,_,_,rfl,rfl⟩|⟨k2,k3,hq,rfl,rfl⟩
 ·exact ⟨h.later,⟨[],by rw [List.append_nil],rfl⟩,rfl,hreq _⟩
 ·obtain ⟨st,r1,p1,g1,g2,g3,g4,g5,g6,g7,g8,g9⟩:=h.cq.grant hc (next_there h hn) rfl hh (slot:=node - 2) (life:=life) (by omega) hlf
  have e2:(2:Int) + (node - 2) = node:=by omega
  rw [e2] at g9
  have hok:=h.mk_ (rs:=o.rs) hc hlen hn g1 g9 (fun _=>g3) (by rw [List.length_map];have:=pollL_len (resOf c o.q) (headF18 o.q.st.rows) (o.q.la + 1) (node - 2) life;omega) (bare_tx (pollL_bare _ _ _ _ _)) h.rsI (by omega)
  refine ⟨hok,⟨_,rfl,by show applyF _ _ = ((0,0),(applyF _ _).2);rw [g1]⟩,rfl,⟨Nat.zero_le _,?_,by show (0:Int) ≤ 0 ∧ (0:Int) < _;omega⟩⟩
  show p.size ≤ 100000
  rw [g1] at hp
  unfold placeF at hp
  cases hla:lastAt st.rows (o.q.la + 1) with
  | none=>rw [hla] at hp;cases hp
  | some i =>
   rw [hla,Option.bind_some] at hp
   have hmem:=List.mem_of_getElem? hp
   unfold viewL at hmem
   have h2:=(List.of_mem_zip hmem).2
   have h3:=(List.of_mem_zip h2).1
   have:=g9.bd.pz p h3
   omega
 ·exact ⟨h.later,⟨[],by rw [List.append_nil],rfl⟩,rfl,hreq _⟩
 ·have h1:=h.later
  exact ⟨⟨h.cq.renew m.badge,h1.lg,h1.nm,h1.ln,h1.rsI,h1.tn,h1.tx⟩,⟨[],by rw [List.append_nil],rfl⟩,rfl,hreq _⟩
 ·exact ⟨h.later,⟨[],by rw [List.append_nil],rfl⟩,rfl,hreq _⟩
 ·obtain ⟨a1,a2,a3,a4,a5⟩:=hm k2 k3
  obtain ⟨g1,st,g2,g3⟩:=h.cq.settle (settled_held hq) ⟨a1,a2⟩ a3 ⟨a4,a5⟩
  exact ⟨h.mk_ hc hlen hn g2 g3 (fun _=>g1) (by simp) (fun ch hch=>by rw [List.mem_singleton] at hch;subst hch;exact ⟨Nat.zero_le _,a4,a5⟩) h.rsI (by omega),⟨_,rfl,by show applyF _ _ = ((0,0),(applyF _ _).2);rw [g2]⟩,rfl,hreq _⟩
theorem CoOk.request {c:Cf} {len n:Nat} {o:Co} (h:CoOk c len n o) (hc:CfOk c) (hlen:20480 ≤ roomF len) (hn:n ≤ 2000000) {node life:Int} (hn1:2 ≤ node) (hn2:node ≤ 9) (hlf:1 ≤ life ∧ life ≤ 1099511627776) {m:Ms} (hm:m.kind ≠ 2 → m.kind ≠ 3 → ResOk m) {reply:ByteArray} {o1:Co} (hr:RequestR c o node life m reply o1) :
  CoOk c len (n + 1) o1 ∧ ∃ cs,o1.tl = o.tl ++ cs ∧ applyF o.q.st cs = ((0,0),o1.q.st):=by
 rcases hr with ⟨_,rfl,_⟩|⟨_,m1,o2,hmid,_,rfl⟩
 ·exact ⟨h.later,[],by rw [List.append_nil],rfl⟩
 ·obtain ⟨g1,g2,g3,_⟩:=h.mid hc hlen hn hn1 hn2 hlf hm hmid
  exact ⟨⟨g1.cq,g1.lg,g1.nm,g1.ln,Se.answerV_rows h.rsI,g1.tn,g1.tx⟩,g2⟩
end Go.Proofs.YtaecdnfkcebbeaaGreat
