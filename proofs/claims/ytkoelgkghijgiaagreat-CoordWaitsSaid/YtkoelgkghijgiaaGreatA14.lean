import Derived.Test.YtkoelgkghijgiaaGreatA01
import Derived.Test.YtkoelgkghijgiaaGreatA04
import Derived.Test.YtkoelgkghijgiaaGreatA13
import Derived.Test.YtkoelgkghijgiaaGreatA11
set_option linter.unusedVariables false
set_option linter.unusedSimpArgs false
namespace Go.Proofs.YtkoelgkghijgiaaGreat
open Go Go.Sep Go.Proofs Go.Proofs.Tryz
set_option maxRecDepth 10000
set_option maxHeartbeats 40000000
set_option synthInstance.maxSize 2000
theorem putB_exp (x:Ls.LE) (h:1 ≤ x.badge ∧ x.badge ≤ 1099511627776):(putB (expC x)).size ≤ 12:=by
 have h1:=numB_le (k:=5) (n:=x.badge.toNat) (by omega)
 have h2:=numB_le (k:=0) (n:=5) (by omega)
 show (numB (5:Int).toNat ++ numB x.badge.toNat).size ≤ 12
 rw [ByteArray.size_append]
 have h3:(numB (5:Int).toNat).size ≤ 1:=h2
 omega
theorem exp_enc {l:List Ls.LE} (h:∀ x ∈ l,1 ≤ x.badge ∧ x.badge ≤ 1099511627776) (h1:1 ≤ l.length) (h8:l.length ≤ 8):(encodeF ((expL l).map Cg.c)).2 = 0:=by
 have hm:(expL l).map Cg.c = l.map expC:=by simp [expL]
 rw [hm]
 refine enc_fine (by simpa using h1) (by simp;omega) (fun c hc=>?_) ?_
 ·obtain ⟨x,hx,rfl⟩:=List.mem_map.1 hc
  exact exp_check (h x hx)
 ·have:=encN_le (l:=l.map expC) (m:=12) (fun c hc=>by
   obtain ⟨x,hx,rfl⟩:=List.mem_map.1 hc
   exact putB_exp x (h x hx)) (by simp;omega) (l.map expC).length
  have h9:(l.map expC).length * 12 ≤ 8 * 12:=Nat.mul_le_mul_right _ (by simpa using h8)
  omega
structure TkS where
 i:Nat
 lv:Value
 LG:List Blk
def delAll (es:List ME) (l:List Ls.LE):List ME:=l.foldl (fun e x=>mdel e x.job) es
theorem tick1_gen (B0:Base) (xb lb lm tb cb mb db wb sb:Nat) (c:Cf) (hc:CfOk c) (dead:Bool) (w:Wl) (x:Dk) (len:Nat) (lg:LgOk w x len) (hroom:20480 ≤ roomF len) (hnum:w.h.number + 2 < 1099511627776) (k:Nat) (D:List Blk) (hD:DkA db x k D) (hk:k ≤ 700000000000) (s:StP) (SD:List Blk) (hS:StA sb s SD) (ok:StOk s) (bd:StBd s) (tv:Value) (tl:List Cg) (TG:List Blk) (hT:OwnC tv tl TG) (htl:tl.length ≤ 1000000000)
  (ls:List Ls.LE) (les:List ME) (lck:Nat) (hL:Ls.TOk c.lease ls les lck) (mes:List ME) (mck_:Nat) (bx:Nat) (hov:Ls.overF ls ≠ []) (hov8:(Ls.overF ls).length ≤ 8) (henc:(encodeF ((expL (Ls.overF ls)).map Cg.c)).2 = 0) :
  ConB prog B0 70 #[ptr bx] (CoB xb lb tb cb mb db wb sb c tv dead :: (Ls.TB lb lm c.lease les lck ++ ((mb,mpo mes mck_) :: (bx,cl [ptr xb] 26) :: WlB wb db w :: (SD ++ (D ++ TG)))))
   fun v A=>∃ lb1 lm1 les1 lck1 SD1 D1 tv1 TG1 k1,A = CoB xb lb1 tb cb mb db wb sb c tv1 dead :: (Ls.TB lb1 lm1 c.lease les1 lck1 ++ ((mb,mpo (delAll mes (Ls.overF ls)) mck_) :: (bx,cl [ptr xb] 26) :: WlB wb db (mkW c.every w x (bytesS s) (encodeF ((expL (Ls.overF ls)).map Cg.c)).1).1 :: (SD1 ++ (D1 ++ TG1)))) ∧ Ls.TOk c.lease (Ls.restF ls) les1 lck1 ∧
    StA sb (applyF s ((expL (Ls.overF ls)).map Cg.c)).2 SD1 ∧ DkA db (mkW c.every w x (bytesS s) (encodeF ((expL (Ls.overF ls)).map Cg.c)).1).2 k1 D1 ∧ k1 ≤ k + 20000 ∧ OwnC tv1 (tl ++ expL (Ls.overF ls)) TG1:=by
 refine zqJ (vs:=[_]) func70 ntmps70 fun B hB=>?_
 refine zg1 ?_
 refine zqA (Ls.clone_spec lb lm c.lease les lck) fun v A' hR=>?_
 obtain ⟨lb1,lm1,rfl,rfl⟩:=hR
 refine zg0 ?_
 refine zqA (Ls.tick_spec lb1 lm1 c.lease ls les lck hL) fun v A' hR=>?_
 obtain ⟨es1,ck1,G,hrs,rfl,hok⟩:=hR
 generalize hovg:Ls.overF ls = ov at hrs hov hov8 henc ⊢
 obtain ⟨og,oc,osp,rfl,rfl⟩:∃ g c sp,v = .slice (some ⟨g,0,none⟩) ov.length c ∧ G = [(g,cl ((ov.map Ls.LE.row).flatten ++ sp) 71)]:=by
  rcases hrs.2 with ⟨_,q,_⟩|⟨g,c,sp,q1,q2⟩
  ·exact absurd (List.map_eq_nil_iff.1 q) hov
  ·exact ⟨g,c,sp,by rw [q1,List.length_map],q2⟩
 have hokO:=Ls.lrows_ok ov
 clear hrs
 refine zg1 ?_
 refine Cd.loopK (σ:=TkS) (fun t=>t.i ≤ ov.length ∧ OwnC t.lv (expL (ov.take t.i)) t.LG) (fun t=>[(0,ptr bx),(1,ptr lb1),(2,.slice (some ⟨og,0,none⟩) ov.length oc),(3,t.lv),(16,.slice (some ⟨og,0,none⟩) ov.length oc),(17,.int .i64 ov.length),(18,.int .i64 ((t.i:Nat):Int))])
  (fun t=>t.LG ++ (CoB xb lb tb cb mb db wb sb c tv dead :: (Ls.TB lb1 lm1 c.lease es1 ck1 ++ ((og,cl ((ov.map Ls.LE.row).flatten ++ osp) 71) :: (mb,mpo mes mck_) :: (bx,cl [ptr xb] 26) :: WlB wb db w :: (SD ++ (D ++ TG)))))) (fun t=>ov.length - t.i) ⟨0,.slice none 0 0,[]⟩ ⟨Nat.zero_le _,Own.none⟩ ⟨rfl,rfl,rfl,rfl,rfl,rfl,rfl,trivial⟩ (fun w h=>h.split) (fun t ht=>?_)
 obtain ⟨i,lv,LG⟩:=t
 obtain ⟨hi,hO⟩:=ht
 dsimp only at hi hO ⊢
 have hln:(expL (ov.take i)).length = i:=by simp [expL];omega
 obtain ⟨la,lc,rfl⟩:=hO.form
 rw [hln] at hO ⊢
 by_cases hlt:i < ov.length
 ·have hlt':((i:Nat):Int) < ((ov.length:Nat):Int):=by omega
  obtain ⟨y,hy⟩:∃ y,ov[i]? = some y:=⟨_,List.getElem?_eq_getElem hlt⟩
  have hyr:(ov.map Ls.LE.row)[((i:Nat):Int).toNat]? = some y.row:=by rw [Int.toNat_natCast,List.getElem?_map,hy];rfl
  repeat' (first|refine zs8 ?_|refine Ops.alloc rfl rfl rfl (noPd rfl) (fun b=>?_)|refine Ops.bs1 rfl rfl rfl rfl rfl rfl rfl (noPd rfl) (fun b=>?_))
  refine Ops.app1 (rows:=(expL (ov.take i)).map Cg.row) hO (by rw [List.length_map,hln];omega) (by rw [List.length_map,hln];omega) rfl rfl rfl rfl (by rfl) (by rfl) rfl (noPd rfl) rfl (fun v G' hG'=>?_)
  have hO1:OwnC v (expL (ov.take (i + 1))) G':=by
   unfold OwnC
   rw [show expL (ov.take (i + 1)) = expL (ov.take i) ++ [⟨expC y,none,0⟩] from by rw [List.take_add_one,hy];simp [expL],List.map_append]
   exact hG'
  clear hG'
  obtain ⟨la1,lc1,rfl⟩:=hO1.form
  refine zg9 ?_
  exact Ops.nilN (round_end (⟨i + 1,_,G'⟩:TkS) ⟨by show i + 1 ≤ ov.length;omega,hO1⟩ (by show ov.length - (i + 1) < ov.length - i;omega) ⟨rfl,rfl,rfl,rfl,rfl,rfl,rfl,trivial⟩ (fun w h=>h.split))
 have hlt':¬ ((i:Nat):Int) < ((ov.length:Nat):Int):=by omega
 have he:i = ov.length:=by omega
 subst he
 rw [List.take_length] at hO hln
 have hov0:0 < ov.length:=List.length_pos_iff.2 hov
 have hmk:=makes_lent B0 xb lb tb cb mb db wb sb c hc dead w x len lg hroom hnum k D hD hk s SD hS ok bd tv tl TG hT htl la lc (expL ov) LG (fun B1 e hG=>hO.cin (expL_bare ov) hG) (by rw [hln];omega) (by rw [hln];omega) henc
 rw [hln] at hmk
 refine zg13 ?_
 refine Ops.callB hmk hB rfl (noPd rfl) rfl rfl rfl (fun v A' hR=>?_)
 obtain ⟨SD1,D1,tv1,TG1,k1,rfl,hS1,hD1,hk1,hT1⟩:=hR
 clear hmk
 refine zg1 ?_
 refine Cd.loopK (σ:=Nat) (fun j=>j ≤ ov.length) (fun j=>[(0,ptr bx),(37,.slice (some ⟨og,0,none⟩) ov.length oc),(38,.int .i64 ov.length),(39,.int .i64 ((j:Nat):Int))])
  (fun j=>CoB xb lb1 tb cb mb db wb sb c tv1 dead :: (Ls.TB lb1 lm1 c.lease es1 ck1 ++ ((mb,mpo (delAll mes (ov.take j)) mck_) :: (bx,cl [ptr xb] 26) :: (og,cl ((ov.map Ls.LE.row).flatten ++ osp) 71) :: WlB wb db (mkW c.every w x (bytesS s) (encodeF ((expL ov).map Cg.c)).1).1 :: (SD1 ++ (D1 ++ TG1))))) (fun j=>ov.length - j) 0 (Nat.zero_le _) ⟨rfl,rfl,rfl,rfl,trivial⟩ (fun w_ h=>(h.split:Sat _ (CoB xb lb1 tb cb mb db wb sb c tv1 dead :: (Ls.TB lb1 lm1 c.lease es1 ck1 ++ ((mb,mpo mes mck_) :: (bx,cl [ptr xb] 26) :: (og,cl ((ov.map Ls.LE.row).flatten ++ osp) 71) :: WlB wb db (mkW c.every w x (bytesS s) (encodeF ((expL ov).map Cg.c)).1).1 :: (SD1 ++ (D1 ++ TG1))))) w_)) (fun j hj=>?_)
 by_cases hjl:j < ov.length
 ·have hjl':((j:Nat):Int) < ((ov.length:Nat):Int):=by omega
  obtain ⟨y,hy⟩:∃ y,ov[j]? = some y:=⟨_,List.getElem?_eq_getElem hjl⟩
  have hyr:(ov.map Ls.LE.row)[((j:Nat):Int).toNat]? = some y.row:=by rw [Int.toNat_natCast,List.getElem?_map,hy];rfl
  have hdl:delAll mes (ov.take (j + 1)) = mdel (delAll mes (ov.take j)) y.job:=by
   unfold delAll
   rw [List.take_add_one,hy]
   simp
  repeat' (first|refine zs8 ?_|refine Ops.alloc rfl rfl rfl (noPd rfl) (fun b=>?_))
  refine zdr [qy 0,qz 1,qz 2,qz 3,qy 4,qz 5,qy 6,(7,2,[])] ?_
  refine zg9 ?_
  exact Ops.nilN (round_end (j + 1:Nat) (by show j + 1 ≤ ov.length;omega) (by show ov.length - (j + 1) < ov.length - j;omega) ⟨rfl,rfl,rfl,rfl,trivial⟩ (fun w_ h=>by rw [hdl];exact h.split))
 have hjl':¬ ((j:Nat):Int) < ((ov.length:Nat):Int):=by omega
 have hje:j = ov.length:=by omega
 subst hje
 rw [List.take_length]
 refine zg2 ?_
 exact Cd.exit (inTx (roundX (inBs (end0 (A':=CoB xb lb1 tb cb mb db wb sb c tv1 dead :: (Ls.TB lb1 lm1 c.lease es1 ck1 ++ ((mb,mpo (delAll mes ov) mck_) :: (bx,cl [ptr xb] 26) :: WlB wb db (mkW c.every w x (bytesS s) (encodeF ((expL ov).map Cg.c)).1).1 :: (SD1 ++ (D1 ++ TG1))))) rfl (fun _ h=>h.split) ⟨lb1,lm1,es1,ck1,SD1,D1,tv1,TG1,k1,rfl,hok,hS1,hD1,hk1,hT1⟩))))
theorem poll_none (B0:Base) (xb lb tb cb mb db wb sb:Nat) (c:Cf) (tv:Value) (dead:Bool) (node life:Int) (m:Ms) (mx:Nat) (q:Ms) (s:StP) (SD:List Blk) (hD:StA sb s SD) (ok:StOk s) (hh:headF18 s.rows = 0) :
  ConB prog B0 148 #[.agg (heV xb node life m).toArray,ptr mx] (CoB xb lb tb cb mb db wb sb c tv dead :: MgB mx q.row :: SD) fun v A=>A = CoB xb lb tb cb mb db wb sb c tv dead :: MgB mx ({ q with kind:=10 }:Ms).row :: SD:=by
 obtain ⟨qb,rv,RG,pv,PG,lv,LG,ls,rfl,y1,y2,y3,y4,y5⟩:=hD
 obtain ⟨ra,rc,rfl⟩:=y1.form
 refine zqJ (vs:=[_,_]) func148 ntmps148 fun B hB=>?_
 repeat' (first|refine zs3 ?_|refine Ops.box rfl rfl rfl rfl (noPd rfl) (fun b=>?_))
 refine zqB (qhead_spec B0 qb s.att ra rc s.rows RG y1 ok.nr) hB fun v A' hR=>?_
 rw [hh] at hR
 obtain ⟨rfl,rfl⟩:=hR
 refine zg6 ?_
 exact Cd.ret (ret0 (A':=CoB xb lb tb cb mb db wb sb c tv dead :: MgB mx ({ q with kind:=10 }:Ms).row :: StB sb qb s.res pv lv :: QuB qb s.att (.slice ra s.rows.length rc) :: (RG ++ (PG ++ (LG ++ ls.flatMap Lg.G)))) rfl (fun _ h=>h.split) rfl)
@[reducible] def grantC (job bg slot life:Int):Ch:=⟨3,0,job,bg,slot,life,0,0,⟨#[]⟩,[]⟩
def resL (rs:Int):List Cg:=if rs = 0 then [] else [⟨Ch.res rs,none,0⟩]
def pollL (rs job bg slot life:Int):List Cg:=resL rs ++ [⟨grantC job bg slot life,none,0⟩]
theorem pollL_bare (rs job bg slot life:Int):∀ g ∈ pollL rs job bg slot life,Bare g:=fun g hg=>by
 unfold pollL resL at hg
 split at hg
 ·rw [List.nil_append,List.mem_singleton] at hg
  subst hg
  exact ⟨rfl,rfl,by show (0:Int) ≤ 0 ∧ (0:Int) < _;omega⟩
 ·simp only [List.cons_append,List.nil_append,List.mem_cons,List.not_mem_nil,or_false] at hg
  rcases hg with rfl|rfl <;> exact ⟨rfl,rfl,by show (0:Int) ≤ 0 ∧ (0:Int) < _;omega⟩
theorem draws_own (xb lb tb cb mb db wb sb:Nat) (c:Cf) (hc:CfOk c) (tv:Value) (dead:Bool) (la re bg rs la1 re1:Int) (h0:0 ≤ re) (h1:re ≤ 1099511627776) (h2:0 ≤ la) (hn:nextB c.block la re = ((bg,rs,0),la1,re1)) :
  Con prog 144 #[ptr xb] [CoB xb lb tb cb mb db wb sb c tv dead,CtB cb c.block la re] fun v A=>∃ a cp LG,v = .tuple #[.int .i64 bg,.slice a (resL rs).length cp,.bool true] ∧ A = [CoB xb lb tb cb mb db wb sb c tv dead,CtB cb c.block la1 re1] ++ LG ∧ OwnC (.slice a (resL rs).length cp) (resL rs) LG:=by
 by_cases hr:rs = 0
 ·subst hr
  refine (draws_old xb lb tb cb mb db wb sb c hc tv dead la re bg la1 re1 h0 h1 h2 hn).mono fun v A hR=>?_
  obtain ⟨rfl,rfl⟩:=hR
  exact ⟨none,0,[],rfl,rfl,Own.none⟩
 ·refine (draws_new xb lb tb cb mb db wb sb c hc tv dead la re bg rs la1 re1 h0 h1 h2 hn hr).mono fun v A hR=>?_
  obtain ⟨g,rfl,rfl⟩:=hR
  have e:resL rs = [⟨Ch.res rs,none,0⟩]:=if_neg hr
  rw [e]
  exact ⟨some ⟨g,0,none⟩,1,_,rfl,rfl,⟨RowsOk.one rfl rfl,.inr ⟨g,1,[],rfl,rfl,rfl,Nat.le_refl _⟩⟩⟩
theorem poll_offer (B0:Base) (xb lb lm tb cb mb db wb sb:Nat) (c:Cf) (hc:CfOk c) (dead:Bool) (w:Wl) (x:Dk) (len:Nat) (lg:LgOk w x len) (hroom:20480 ≤ roomF len) (hnum:w.h.number + 2 < 1099511627776) (k:Nat) (D:List Blk) (hD:DkA db x k D) (hk:k ≤ 700000000000) (s:StP) (SD:List Blk) (hS:StA sb s SD) (ok:StOk s) (bd:StBd s) (tv:Value) (tl:List Cg) (TG:List Blk) (hT:OwnC tv tl TG) (htl:tl.length ≤ 1000000000)
  (ls:List Ls.LE) (les:List ME) (lck:Nat) (hL:Ls.TOk c.lease ls les lck) (mes:List ME) (mck_:Nat) (la re bg rs la1 re1:Int) (h0:0 ≤ re) (h1:re ≤ 1099511627776) (h2:0 ≤ la) (hn:nextB c.block la re = ((bg,rs,0),la1,re1))
  (node life:Int) (hn1:2 ≤ node) (hn2:node ≤ 9) (m:Ms) (mx:Nat) (q:Ms) (hh:headF18 s.rows ≠ 0) (henc:(encodeF ((pollL rs (headF18 s.rows) bg (node - 2) life).map Cg.c)).2 = 0) :
  ConB prog B0 148 #[.agg (heV xb node life m).toArray,ptr mx] (CoB xb lb tb cb mb db wb sb c tv dead :: MgB mx q.row :: (Ls.TB lb lm c.lease les lck ++ ((mb,mpo mes mck_) :: CtB cb c.block la re :: WlB wb db w :: (SD ++ (D ++ TG)))))
   fun v A=>∃ p:Pl,∃ les1 lck1 wn wm SD1 D1 tv1 TG1 k1,A = CoB xb lb tb cb mb db wb sb c tv1 dead :: MgB mx (⟨9,q.session,q.number,headF18 s.rows,bg,0,0,0,0,⟨#[]⟩,p.prog⟩:Ms).row :: (Ls.TB lb lm c.lease les1 lck1 ++ (Sw.WB wn wm c.window.toNat 0 [] 0 ++ ((mb,mpo (mput mes mck_ p.r.job (ptr wn)) (mck mes mck_ p.r.job)) :: CtB cb c.block la1 re1 :: WlB wb db (mkW c.every w x (bytesS s) (encodeF ((pollL rs (headF18 s.rows) bg (node - 2) life).map Cg.c)).1).1 :: (SD1 ++ (D1 ++ TG1))))) ∧
    PlR (applyF s ((pollL rs (headF18 s.rows) bg (node - 2) life).map Cg.c)).2 bg p ∧ Ls.TOk c.lease (Ls.grantF c.lease ls p.r.job p.r.badge p.r.node p.r.life).2 les1 lck1 ∧ StA sb (applyF s ((pollL rs (headF18 s.rows) bg (node - 2) life).map Cg.c)).2 SD1 ∧
    DkA db (mkW c.every w x (bytesS s) (encodeF ((pollL rs (headF18 s.rows) bg (node - 2) life).map Cg.c)).1).2 k1 D1 ∧ k1 ≤ k + 20000 ∧ OwnC tv1 (tl ++ pollL rs (headF18 s.rows) bg (node - 2) life) TG1:=by
 have hbare:=pollL_bare rs (headF18 s.rows) bg (node - 2) life
 have hrl:(resL rs).length ≤ 1:=by unfold resL;split <;> simp
 have hpl:(pollL rs (headF18 s.rows) bg (node - 2) life).length = (resL rs).length + 1:=by unfold pollL;simp
 have hgood:=(applyG_good ok bd ((pollL rs (headF18 s.rows) bg (node - 2) life).map Cg.c) s 0 ok bd (fun c hc=>by
  obtain ⟨g,hg,rfl⟩:=List.mem_map.1 hc
  exact (hbare g hg).x)).1
 have hS0:=hS
 obtain ⟨qb,rv,RG,pv,PG,lv,LG,lgs,hSD,y1,y2,y3,y4,y5⟩:=hS
 obtain ⟨ra,rc,rfl⟩:=y1.form
 have hhead:ConB prog B0 218 #[ptr qb] (QuB qb s.att (.slice ra s.rows.length rc) :: RG) fun v A=>v = .int .i64 (headF18 s.rows) ∧ A = QuB qb s.att (.slice ra s.rows.length rc) :: RG:=qhead_spec B0 qb s.att ra rc s.rows RG y1 ok.nr
 refine zqJ (vs:=[_,_]) func148 ntmps148 fun B hB=>?_
 generalize hc4:Code.seq (Code.region 4 _ _) _ = c4
 rw [hSD]
 generalize headF18 s.rows = job at hh henc hbare hpl hgood hhead ⊢
 repeat' (first|refine zs3 ?_|refine Ops.box rfl rfl rfl rfl (noPd rfl) (fun b=>?_))
 rename Nat=>hb
 refine Ops.callB hhead hB rfl (noPd rfl) rfl rfl rfl (fun v A' hR=>?_)
 obtain ⟨rfl,rfl⟩:=hR
 refine zg2 ?_
 subst hc4
 refine Cd.blk (A':=(hb,cl (heV xb node life m) 110) :: CoB xb lb tb cb mb db wb sb c tv dead :: MgB mx ({ q with kind:=10 }:Ms).row :: (Ls.TB lb lm c.lease les lck ++ ((mb,mpo mes mck_) :: CtB cb c.block la re :: WlB wb db w :: (SD ++ (D ++ TG))))) ?_ (fun w_ h_=>by
  have h2:Sat _ ((hb,cl (heV xb node life m) 110) :: CoB xb lb tb cb mb db wb sb c tv dead :: MgB mx ({ q with kind:=10 }:Ms).row :: (Ls.TB lb lm c.lease les lck ++ ((mb,mpo mes mck_) :: CtB cb c.block la re :: WlB wb db w :: StB sb qb s.res pv lv :: QuB qb s.att (.slice ra s.rows.length rc) :: (RG ++ (PG ++ (LG ++ (lgs.flatMap Lg.G ++ (D ++ TG)))))))) w_:=h_.split
  rw [hSD]
  simpa only [List.cons_append,List.append_assoc,List.nil_append] using h2)
 clear hSD y1 y2 y3 y4 y5 hhead
 refine zg1 ?_
 refine zqA (draws_own xb lb tb cb mb db wb sb c hc tv dead la re bg rs la1 re1 h0 h1 h2 hn) fun v A' hR=>?_
 obtain ⟨da,dc,DG,rfl,rfl,hDO⟩:=hR
 refine zg4 ?_
 refine zdr [qz 0,qy 1,qz 2,qz 3,qz 4,qy 5,qz 7,qz 8,qy 9,(6,2,[1,9]),qz 10,(11,2,[1]),(12,2,[1]),(13,2,[])] ?_
 refine zg3 ?_
 refine Ops.call (slot_spec xb node life m hn1 hn2) rfl zp1 rfl rfl rfl (fun v A' hR=>?_)
 obtain ⟨rfl,rfl⟩:=hR
 repeat' (first|refine Ops.bld rfl rfl rfl rfl ?_|refine Ops.bs1 rfl rfl rfl rfl rfl rfl rfl zp3 (fun b=>?_))
 refine Ops.app1 (rows:=(resL rs).map Cg.row) hDO (by rw [List.length_map];omega) (by rw [List.length_map];omega) rfl rfl rfl rfl (by rfl) (by rfl) rfl zp12 rfl (fun v G' hG'=>?_)
 have hO1:OwnC v (pollL rs job bg (node - 2) life) G':=by
  unfold OwnC pollL
  rw [List.map_append]
  exact hG'
 clear hG'
 obtain ⟨la2,lc2,rfl⟩:=hO1.form
 have hmk:=makes_lent B0 xb lb tb cb mb db wb sb c hc dead w x len lg hroom hnum k D hD hk s SD hS0 ok bd tv tl TG hT htl la2 lc2 (pollL rs job bg (node - 2) life) G' (fun B1 e hG=>hO1.cin hbare hG) (by omega) (by omega) henc
 refine Ops.callB hmk hB rfl (noPd rfl) rfl rfl rfl (fun v A' hR=>?_)
 obtain ⟨SD1,D1,tv1,TG1,k1,rfl,hS1,hD1,hk1,hT1⟩:=hR
 clear hmk
 refine zg1 ?_
 refine Ops.callB (sfind_own B0 sb _ SD1 hS1 hgood bg) hB rfl (noPd rfl) rfl rfl rfl (fun v A' hR=>?_)
 obtain ⟨p,rfl,rfl,hp⟩:=hR
 repeat' (first|refine zs0 ?_|refine Ops.alloc rfl rfl rfl (noPd rfl) (fun b=>?_))
 rename Nat=>pb
 refine zdr [qz 0,qy 1,qz 2,qz 3,qz 4,qy 5,qz 6,qz 7,qy 8,qz 9,qy 10,(11,2,[])] ?_
 refine zg3 ?_
 refine zqA (hold_spec xb lb lm tb cb mb db wb sb c hc tv1 dead ls les lck hL mes mck_ p.r 0 (by decide)) fun v A' hR=>?_
 obtain ⟨les1,lck1,wn,wm,rfl,hL1⟩:=hR
 refine zg0 ?_
 refine zdr [qz 0,qz 1,qz 2,qz 3,qy 4,qz 5,qz 6,qz 7,qy 8,qz 9,qz 10,qz 11,qy 12,qz 13,qz 14,(15,2,[])] ?_
 refine zg12 ?_
 dsimp only
 exact Ops.nilN (end0 (A':=CoB xb lb tb cb mb db wb sb c tv1 dead :: MgB mx (⟨9,q.session,q.number,job,bg,0,0,0,0,⟨#[]⟩,p.prog⟩:Ms).row :: (Ls.TB lb lm c.lease les1 lck1 ++ (Sw.WB wn wm c.window.toNat 0 [] 0 ++ ((mb,mpo (mput mes mck_ p.r.job (ptr wn)) (mck mes mck_ p.r.job)) :: CtB cb c.block la1 re1 :: WlB wb db (mkW c.every w x (bytesS s) (encodeF ((pollL rs job bg (node - 2) life).map Cg.c)).1).1 :: (SD1 ++ (D1 ++ TG1)))))) rfl (fun _ h=>h.split) ⟨p,les1,lck1,wn,wm,SD1,D1,tv1,TG1,k1,rfl,hp,hL1,hS1,hD1,hk1,hT1⟩)
def recF (s:StP) (badge:Int):Bool:=match placeF s badge with
 | none=>false
 | some (r,_,_)=>decide (r.status = 3)
def logF (s:StP) (badge:Int):List ByteArray:=match placeF s badge with
 | none=>[]
 | some (_,_,t)=>t
def settledQ (s:StP) (badge count node life:Int):Nat:=if recF s badge then 0 else if heldF s badge node life = true ∧ ((logF s badge).length:Int) = count then 2 else 1
@[reducible] def settleC (badge code bits:Int):Ch:=⟨6,0,0,badge,0,0,code,bits,⟨#[]⟩,[]⟩
theorem own_one (b:Nat) (g:Cg):OwnC (.slice (some ⟨b,0,none⟩) 1 1) [g] [(b,cl g.row 103)] :=
 ⟨rows_map (f:=Cg.row) (fun _=>⟨rfl,rfl⟩) [g],.inr ⟨b,1,[],rfl,by simp,by rfl,Nat.le_refl _⟩⟩
theorem settled_spec (B0:Base) (xb lb lm tb cb mb db wb sb:Nat) (c:Cf) (hc:CfOk c) (dead:Bool) (w:Wl) (x:Dk) (len:Nat) (lg:LgOk w x len) (hroom:20480 ≤ roomF len) (hnum:w.h.number + 2 < 1099511627776) (k:Nat) (D:List Blk) (hD:DkA db x k D) (hk:k ≤ 700000000000) (s:StP) (SD:List Blk) (hS:StA sb s SD) (ok:StOk s) (bd:StBd s) (tv:Value) (tl:List Cg) (TG:List Blk) (hT:OwnC tv tl TG) (htl:tl.length ≤ 1000000000)
  (ls:List Ls.LE) (les:List ME) (lck:Nat) (hL:Ls.TOk c.lease ls les lck) (mes:List ME) (mck_:Nat) (node life:Int) (m:Ms) (hrx:0 ≤ m.rbits ∧ m.rbits < 18446744073709551616) (henc:settledQ s m.badge m.count node life = 2 → (encodeF [settleC m.badge m.rcode m.rbits]).2 = 0) :
  ConB prog B0 151 #[.agg (heV xb node life m).toArray] (CoB xb lb tb cb mb db wb sb c tv dead :: (Ls.TB lb lm c.lease les lck ++ ((mb,mpo mes mck_) :: WlB wb db w :: (SD ++ (D ++ TG)))))
   fun v A=>(settledQ s m.badge m.count node life ≠ 2 ∧ v = .bool (decide (settledQ s m.badge m.count node life = 0)) ∧ A = CoB xb lb tb cb mb db wb sb c tv dead :: (Ls.TB lb lm c.lease les lck ++ ((mb,mpo mes mck_) :: WlB wb db w :: (SD ++ (D ++ TG))))) ∨
    (settledQ s m.badge m.count node life = 2 ∧ v = .bool true ∧ ∃ p:Pl,PlR s m.badge p ∧ ∃ les1 lck1 SD1 D1 tv1 TG1 k1,A = CoB xb lb tb cb mb db wb sb c tv1 dead :: (Ls.TB lb lm c.lease les1 lck1 ++ ((mb,mpo (mdel mes p.r.job) mck_) :: WlB wb db (mkW c.every w x (bytesS s) (encodeF [settleC m.badge m.rcode m.rbits]).1).1 :: (SD1 ++ (D1 ++ TG1)))) ∧
     Ls.TOk c.lease (Ls.dropF ls m.badge).2 les1 lck1 ∧ StA sb (applyF s [settleC m.badge m.rcode m.rbits]).2 SD1 ∧ DkA db (mkW c.every w x (bytesS s) (encodeF [settleC m.badge m.rcode m.rbits]).1).2 k1 D1 ∧ k1 ≤ k + 20000 ∧ OwnC tv1 (tl ++ [⟨settleC m.badge m.rcode m.rbits,none,0⟩]) TG1):=by
 refine zqJ (vs:=[_]) func151 ntmps151 fun B hB=>?_
 generalize hc1:Code.seq (Code.region 1 _ _) _ = c1
 repeat' (first|refine zs0 ?_|refine Ops.box rfl rfl rfl rfl (noPd rfl) (fun b=>?_))
 rename Nat=>hb
 subst hc1
 refine Cd.cut (σ:=Nat × Pl) (fun t=>PlR s m.badge t.2) (fun t=>[(1,ptr hb),(2,.bool false),(3,ptr t.1),(4,.bool (placeF s m.badge).isSome)]) (fun t=>(t.1,cl t.2.row 64) :: (hb,cl (heV xb node life m) 110) :: CoB xb lb tb cb mb db wb sb c tv dead :: (Ls.TB lb lm c.lease les lck ++ ((mb,mpo mes mck_) :: WlB wb db w :: (SD ++ (D ++ TG))))) ?_ (fun t ht=>?_)
 ·refine zdr [qz 0,qy 1,qz 2,qz 3,qy 4,qz 5,qz 6,qy 7,(8,4,[]),qz 9,qz 10,qz 11,(12,2,[]),(13,2,[]),qz 14] ?_
  refine zg5 ?_
  refine Ops.fork' [(0,0,[]),(1,1,[]),(2,0,[]),(3,0,[]),(4,1,[]),(5,0,[]),(6,0,[]),(7,1,[]),(12,4,[1,4,7]),(8,2,[]),(9,0,[]),(10,0,[]),(11,0,[]),(13,2,[]),(14,0,[])] (by kernel_rfl) rfl (by simp only [picked,nth];exact rfl) ?_ ?_
  ·skip
   refine zqB (sfind_own B0 sb s SD hS ok m.badge) hB fun v A' hR=>?_
   obtain ⟨p,rfl,rfl,hp⟩:=hR
   repeat' (first|refine zs6 ?_|refine Ops.alloc rfl rfl rfl zp3 (fun b=>?_))
   rename Nat=>pb
   exact ze74
  ·repeat' (first|refine Ops.alloc rfl rfl rfl zp3 (fun b=>?_))
   rename Nat=>pb
   refine zqB (sfind_own B0 sb s SD hS ok m.badge) hB fun v A' hR=>?_
   obtain ⟨p,rfl,rfl,hp⟩:=hR
   refine zg19 ?_
   exact ze74
 obtain ⟨pb,p⟩:=t
 dsimp only at ht ⊢
 have hpp:=ht.1
 by_cases hrec:recF s m.badge = true
 ·have hq:settledQ s m.badge m.count node life = 0:=if_pos hrec
  rw [hq]
  obtain ⟨r,pg,tx,hpf,hst⟩:∃ r pg tx,placeF s m.badge = some (r,pg,tx) ∧ r.status = 3:=by
   unfold recF at hrec
   split at hrec
   ·cases hrec
   ·rename_i r pg tx hpf;exact ⟨r,pg,tx,hpf,by simpa using hrec⟩
  rw [hpf,Option.getD_some,Pl.pure] at hpp
  injection hpp with e1 _
  have hst2:p.r.status = 3:=by rw [e1];exact hst
  rw [hpf]
  dsimp only [Option.isSome_some]
  refine zg15 ?_
  exact ze75
 have hcond:∀ z,placeF s m.badge = some z → p.r.status ≠ 3:=fun z hz=>by
  obtain ⟨r,pg,tx⟩:=z
  rw [hz,Option.getD_some,Pl.pure] at hpp
  injection hpp with e1 _
  intro q
  apply hrec
  unfold recF
  rw [hz]
  simp [← e1,q]
 generalize hc4:Code.seq (Code.seq (Code.region 4 _ _) _) _ = c4
 refine Cd.cut (σ:=Unit) (fun _=>True) (fun _=>[(1,ptr hb),(2,.bool false),(3,ptr pb)]) (fun _=>(pb,cl p.row 64) :: (hb,cl (heV xb node life m) 110) :: CoB xb lb tb cb mb db wb sb c tv dead :: (Ls.TB lb lm c.lease les lck ++ ((mb,mpo mes mck_) :: WlB wb db w :: (SD ++ (D ++ TG))))) ?_ (fun _ _=>?_)
 ·cases hpf:placeF s m.badge with
  | none =>
   dsimp only [Option.isSome_none]
   refine zg6 ?_
   exact ze76
  | some z =>
   have hne:=hcond z hpf
   dsimp only [Option.isSome_some]
   refine zg13 ?_
   exact ze76
 subst hc4
 clear hcond hpp ht
 refine zg3 ?_
 refine zqB (chheld_spec B0 xb lb tb cb mb db wb sb c tv dead node life m s SD hS ok) hB fun v A' hR=>?_
 obtain ⟨p2,rfl,rfl,hp2⟩:=hR
 have hneg:settledQ s m.badge m.count node life ≠ 0:=by unfold settledQ;rw [if_neg hrec];split <;> decide
 by_cases hh:heldF s m.badge node life = true
 ·rw [hh]
  have hlog:p2.l.txs = logF s m.badge:=by
   obtain ⟨r,pg,tx,hpf⟩:∃ r pg tx,placeF s m.badge = some (r,pg,tx):=by
    unfold heldF at hh
    split at hh
    ·cases hh
    ·rename_i r pg tx hpf;exact ⟨r,pg,tx,hpf⟩
   have e1:=hp2.1
   rw [hpf,Option.getD_some,Pl.pure] at e1
   injection e1 with _ e1
   injection e1 with _ e1
   rw [e1]
   unfold logF
   rw [hpf]
  by_cases hln:((p2.l.txs.length:Int) = m.count)
  ·have hq:settledQ s m.badge m.count node life = 2:=by
    unfold settledQ;rw [if_neg hrec,if_pos ⟨hh,by rw [← hlog];exact hln⟩]
   have he:=henc hq
   rw [hq]
   have hmk:=fun bb:Nat=>makes_lent B0 xb lb tb cb mb db wb sb c hc dead w x len lg hroom hnum k D hD hk s SD hS ok bd tv tl TG hT htl (some ⟨bb,0,none⟩) 1 [⟨settleC m.badge m.rcode m.rbits,none,0⟩] [(bb,cl ((settleC m.badge m.rcode m.rbits).row none 0) 103)] (fun B1 e hG=>(own_one bb _).cin (fun g hg=>by rw [List.mem_singleton] at hg;subst hg;exact ⟨rfl,rfl,hrx⟩) hG) (by show 0 < 1;omega) (by show 1 ≤ 2000000;omega) he
   repeat' (first|refine zs4 ?_|refine Ops.bs1 rfl rfl rfl rfl rfl rfl rfl (noPd rfl) (fun b=>?_))
   rename Nat=>cbk
   refine zqB (hmk cbk) hB fun v A' hR=>?_
   obtain ⟨SD1,D1,tv1,TG1,k1,rfl,hS1,hD1,hk1,hT1⟩:=hR
   clear hmk
   rw [show ([⟨settleC m.badge m.rcode m.rbits,none,0⟩]:List Cg).map Cg.c = [settleC m.badge m.rcode m.rbits] from rfl] at hS1 hD1 ⊢
   refine zg0 ?_
   refine zdr [qz 0,qy 1,qz 2,qz 3,qz 4,qz 5,qy 6,qz 7,qz 8,qy 9,(10,2,[])] ?_
   refine zg5 ?_
   refine zqA (loose_spec xb lb lm tb cb mb db wb sb c tv1 dead ls les lck hL mes mck_ p2.r.job m.badge) fun v A' hR=>?_
   obtain ⟨les1,lck1,rfl,hL1⟩:=hR
   refine zg1 ?_
   exact Cd.ret (ret1 (A':=CoB xb lb tb cb mb db wb sb c tv1 dead :: (Ls.TB lb lm c.lease les1 lck1 ++ ((mb,mpo (mdel mes p2.r.job) mck_) :: WlB wb db (mkW c.every w x (bytesS s) (encodeF [settleC m.badge m.rcode m.rbits]).1).1 :: (SD1 ++ (D1 ++ TG1))))) rfl (Res.tmp rfl) (fun _ h=>h.split) (.inr ⟨rfl,rfl,p2,hp2,les1,lck1,SD1,D1,tv1,TG1,k1,rfl,hL1,hS1,hD1,hk1,hT1⟩))
  ·have hq:settledQ s m.badge m.count node life = 1:=by
    unfold settledQ;rw [if_neg hrec,if_neg (fun q=>hln (by rw [hlog];exact q.2))]
   rw [hq]
   refine zg8 ?_
   exact ze75
 ·rw [Bool.not_eq_true] at hh
  have hq:settledQ s m.badge m.count node life = 1:=by
   unfold settledQ;rw [if_neg hrec,if_neg (fun q=>by rw [hh] at q;cases q.1)]
  rw [hq,hh]
  refine zg7 ?_
  exact ze75
end Go.Proofs.YtkoelgkghijgiaaGreat
namespace Go.Proofs.YtkoelgkghijgiaaGreat
open Go Go.Sep Go.Proofs
set_option maxRecDepth 10000
structure Cq where
 st:StP
 ls:List Ls.LE
 la:Int
 ws:List (Int × Sw.Sp)
structure CqOk (c:Cf) (q:Cq):Prop where
 ok:StOk q.st
 bd:StBd q.st
 lk:Ls.LOk c.lease q.ls
 lr:∀ x ∈ q.ls,∃ r,q.st.rows[(x.job - 1).toNat]? = some r ∧ r.status = 2 ∧ r.badge = x.badge
 win:∀ t ∈ q.ws,Sw.SpOk c.window.toNat t.2 ∧ ∀ u ∈ t.2.tx,u.size ≤ 32
 hw:∀ (i:Nat) r,q.st.rows[i]? = some r → r.status = 2 → ∃ t ∈ q.ws,t.1 = (i:Int) + 1 ∧ t.2.nx = (q.st.logs.getD i []).length
 bl:∀ r ∈ q.st.rows,r.badge ≤ q.la
 l0:0 ≤ q.la ∧ q.la ≤ q.st.res
 ds:∀ (i j:Nat) r r',q.st.rows[i]? = some r → q.st.rows[j]? = some r' → r.badge = r'.badge → 0 < r.badge → i = j
def wsDel (ws:List (Int × Sw.Sp)) (job:Int):List (Int × Sw.Sp):=ws.filter fun t=>!decide (t.1 = job)
theorem wsDel_mem {ws:List (Int × Sw.Sp)} {job:Int} {t:Int × Sw.Sp}:t ∈ wsDel ws job ↔ t ∈ ws ∧ t.1 ≠ job:=by simp [wsDel]
theorem held_at {rows:List Rw} {b:Int} {i:Nat} {r:Rw} (hr:rows[i]? = some r) (h2:r.status = 2) (hb:r.badge = b) (h0:0 < b) (ds:∀ (i j:Nat) r r',rows[i]? = some r → rows[j]? = some r' → r.badge = r'.badge → 0 < r.badge → i = j):heldAt rows b = some i:=by
 unfold heldAt
 cases hf:rows.findIdx? (fun r=>decide (r.status = 2 ∧ r.badge = b)) with
 | none =>
  rw [List.findIdx?_eq_none_iff] at hf
  have:=hf r (List.mem_of_getElem? hr)
  simp [h2,hb] at this
 | some j =>
  rw [List.findIdx?_eq_some_iff_getElem] at hf
  obtain ⟨hj,h1,_⟩:=hf
  have hj2:rows[j]? = some rows[j]:=List.getElem?_eq_getElem hj
  have h3:=(of_decide_eq_true h1).2
  exact congrArg some (ds j i _ _ hj2 hr (by rw [h3,hb]) (by rw [h3];exact h0))
theorem last_at {rows:List Rw} {b:Int} {i:Nat} {r:Rw} (hr:rows[i]? = some r) (hb:r.badge = b) (h0:0 < b) (ds:∀ (i j:Nat) r r',rows[i]? = some r → rows[j]? = some r' → r.badge = r'.badge → 0 < r.badge → i = j):lastAt rows b = some i:=by
 unfold lastAt
 cases hf:rows.findIdx? (fun r=>decide (r.badge = b ∧ 0 < b)) with
 | none =>
  rw [List.findIdx?_eq_none_iff] at hf
  have:=hf r (List.mem_of_getElem? hr)
  simp [hb] at this
  omega
 | some j =>
  rw [List.findIdx?_eq_some_iff_getElem] at hf
  obtain ⟨hj,h1,_⟩:=hf
  have hj2:rows[j]? = some rows[j]:=List.getElem?_eq_getElem hj
  have h3:=(of_decide_eq_true h1).1
  exact congrArg some (ds j i _ _ hj2 hr (by rw [h3,hb]) (by rw [h3];exact h0))
theorem ds_set {rows:List Rw} {i:Nat} {f:Rw} (ds:∀ (i j:Nat) r r',rows[i]? = some r → rows[j]? = some r' → r.badge = r'.badge → 0 < r.badge → i = j) (hf:∀ (j:Nat) r',j ≠ i → rows[j]? = some r' → f.badge = r'.badge → 0 < f.badge → False) :
  ∀ (a j:Nat) r r',(rows.set i f)[a]? = some r → (rows.set i f)[j]? = some r' → r.badge = r'.badge → 0 < r.badge → a = j:=by
 intro a j r r' ha hj e h0
 by_cases hai:i = a
 ·by_cases hji:i = j
  ·omega
  ·subst hai
   rw [List.getElem?_set_ne hji] at hj
   have hlt:i < rows.length:=by
    have:=(List.getElem?_eq_some_iff.1 ha).1
    rwa [List.length_set] at this
   rw [List.getElem?_set_self hlt] at ha
   injection ha with ha
   subst ha
   exact (hf j r' (fun q=>hji q.symm) hj e h0).elim
 ·rw [List.getElem?_set_ne hai] at ha
  by_cases hji:i = j
  ·subst hji
   have hlt:i < rows.length:=by
    have:=(List.getElem?_eq_some_iff.1 hj).1
    rwa [List.length_set] at this
   rw [List.getElem?_set_self hlt] at hj
   injection hj with hj
   subst hj
   exact (hf a r (fun q=>hai q.symm) ha e.symm (by omega)).elim
  ·rw [List.getElem?_set_ne hji] at hj
   exact ds a j r r' ha hj e h0
theorem ds_same {rows:List Rw} {i:Nat} {f r0:Rw} (ds:∀ (i j:Nat) r r',rows[i]? = some r → rows[j]? = some r' → r.badge = r'.badge → 0 < r.badge → i = j) (hr:rows[i]? = some r0) (hf:f.badge = r0.badge) :
  ∀ (a j:Nat) r r',(rows.set i f)[a]? = some r → (rows.set i f)[j]? = some r' → r.badge = r'.badge → 0 < r.badge → a = j :=
 ds_set ds fun j r' hne hj e h0=>hne (ds j i r' r0 hj hr (by rw [← e,hf]) (by omega))
theorem CqOk.res {c:Cf} {q:Cq} (h:CqOk c q) {n:Int} (h1:q.st.res < n) (h2:n ≤ 1099511627776):stepF q.st (Ch.res n) = some { q.st with res:=n } ∧ CqOk c { q with st:={ q.st with res:=n } }:=by
 have hs:stepF q.st (Ch.res n) = some { q.st with res:=n }:=by
  unfold stepF
  rw [if_pos rfl,if_pos h1]
 refine ⟨hs,⟨stepF_ok h.ok hs,⟨⟨?_,h2⟩,h.bd.rb,h.bd.pz,h.bd.tz⟩,h.lk,h.lr,h.win,h.hw,h.bl,⟨h.l0.1,?_⟩,h.ds⟩⟩
 ·have:=h.bd.rs;show 0 ≤ n;omega
 ·have:=h.l0.2;show q.la ≤ n;omega
@[reducible] def subC (job:Int) (p:ByteArray):Ch:=⟨2,0,job,0,0,0,0,0,p,[]⟩
theorem CqOk.sub {c:Cf} {q:Cq} (h:CqOk c q) {p:ByteArray} (hn:q.st.rows.length < 8) (hck:checkF (subC ((q.st.rows.length:Nat) + 1) p) = 0):∃ st,stepF q.st (subC ((q.st.rows.length:Nat) + 1) p) = some st ∧ CqOk c { q with st:=st }:=by
 have hs:stepF q.st (subC ((q.st.rows.length:Nat) + 1) p) = some { q.st with rows:=q.st.rows ++ [⟨(q.st.rows.length:Nat) + 1,1,0,0,0,0,0,0⟩],progs:=q.st.progs ++ [p],logs:=q.st.logs ++ [[]] }:=by
  unfold stepF
  rw [if_neg (by show ¬ ((2:Int) = 1);decide),if_pos rfl,if_neg (by
   rintro (e|e)
   ·apply e;show ((q.st.rows.length:Nat):Int) + 1 = _;rw [h.ok.np]
   ·omega)]
 have hat:∀ (i:Nat) (r:Rw),(q.st.rows ++ [(⟨(q.st.rows.length:Nat) + 1,1,0,0,0,0,0,0⟩:Rw)])[i]? = some r → q.st.rows[i]? = some r ∨ (r.status = 1 ∧ r.badge = 0):=fun i r hr=>by
  by_cases hi:i < q.st.rows.length
  ·rw [List.getElem?_append_left hi] at hr;exact .inl hr
  ·rw [List.getElem?_append_right (by omega)] at hr
   have:i - q.st.rows.length = 0:=by
    have:=(List.getElem?_eq_some_iff.1 hr).1
    simp at this
    omega
   rw [this] at hr
   injection hr with hr
   subst hr
   exact .inr ⟨rfl,rfl⟩
 refine ⟨_,hs,⟨stepF_ok h.ok hs,stepF_bd h.ok h.bd hck ⟨Int.le_refl _,by show (0:Int) < _;omega⟩ hs,h.lk,fun x hx=>?_,h.win,fun i r hr h2=>?_,fun r hr=>?_,h.l0,fun i j r r' hr hr' e h0=>?_⟩⟩
 ·obtain ⟨r,h1,h2⟩:=h.lr x hx
  exact ⟨r,by show (q.st.rows ++ [_])[(x.job - 1).toNat]? = some r;rw [List.getElem?_append_left (List.getElem?_eq_some_iff.1 h1).1];exact h1,h2⟩
 ·rcases hat i r hr with hr|⟨hr,_⟩
  ·obtain ⟨t,ht,e1,e2⟩:=h.hw i r hr h2
   refine ⟨t,ht,e1,?_⟩
   rw [e2]
   show _ = ((q.st.logs ++ [[]]).getD i []).length
   have hil:i < q.st.logs.length:=by rw [h.ok.nl];exact (List.getElem?_eq_some_iff.1 hr).1
   rw [List.getD_eq_getElem?_getD,List.getD_eq_getElem?_getD,List.getElem?_append_left hil]
  ·omega
 ·obtain ⟨i,hi⟩:=List.getElem?_of_mem hr
  rcases hat i r hi with hi|⟨_,hi⟩
  ·exact h.bl r (List.mem_of_getElem? hi)
  ·rw [hi];exact h.l0.1
 ·rcases hat i r hr with hr|⟨_,hr⟩
  ·rcases hat j r' hr' with hr'|⟨_,hr'⟩
   ·exact h.ds i j r r' hr hr' e h0
   ·omega
  ·omega
end Go.Proofs.YtkoelgkghijgiaaGreat
namespace Go.Proofs.YtkoelgkghijgiaaGreat
open Go Go.Sep Go.Proofs Go.Proofs.Tryz
set_option maxRecDepth 10000
set_option maxHeartbeats 40000000
set_option synthInstance.maxSize 2000
@[reducible] def logC (badge:Int) (l:List ByteArray):Ch:=⟨4,0,0,badge,0,0,0,0,⟨#[]⟩,l⟩
def jobF (s:StP) (badge:Int):Int:=match placeF s badge with
 | none=>0
 | some (r,_,_)=>r.job
@[reducible] def ackM (badge:Int) (n:Int):Ms:=⟨14,0,0,0,badge,0,n,0,0,⟨#[]⟩,⟨#[]⟩⟩
theorem ackM_ok (badge n:Int):MsOk (ackM badge n):=⟨Nat.zero_le _,Nat.zero_le _,by show (0:Int) ≤ 0 ∧ (0:Int) < _;omega⟩
theorem PlR.held {s:StP} {badge node life:Int} {p:Pl} (h:PlR s badge p) (hh:heldF s badge node life = true):p.r.job = jobF s badge ∧ p.l.txs = logF s badge:=by
 obtain ⟨r,pg,tx,hpf⟩:∃ r pg tx,placeF s badge = some (r,pg,tx):=by
  unfold heldF at hh
  split at hh
  ·cases hh
  ·rename_i r pg tx hpf;exact ⟨r,pg,tx,hpf⟩
 have e1:=h.1
 rw [hpf,Option.getD_some,Pl.pure] at e1
 injection e1 with e2 e1
 injection e1 with _ e1
 exact ⟨by unfold jobF;rw [hpf,e2],by unfold logF;rw [hpf,e1]⟩
theorem chunk_no (B0:Base) (xb lb tb cb mb db wb sb:Nat) (c:Cf) (tv:Value) (dead:Bool) (node life:Int) (m:Ms) (s:StP) (SD:List Blk) (hD:StA sb s SD) (ok:StOk s) (hh:heldF s m.badge node life = false) :
  ConB prog B0 87 #[.agg (heV xb node life m).toArray] (CoB xb lb tb cb mb db wb sb c tv dead :: SD) fun v A=>v = .string ⟨#[]⟩ ∧ A = CoB xb lb tb cb mb db wb sb c tv dead :: SD:=by
 refine zqJ (vs:=[_]) func87 ntmps87 fun B hB=>?_
 repeat' (first|refine zs1 ?_|refine Ops.box rfl rfl rfl rfl (noPd rfl) (fun b=>?_))
 refine zqB (chheld_spec B0 xb lb tb cb mb db wb sb c tv dead node life m s SD hD ok) hB fun v A' hR=>?_
 obtain ⟨p,rfl,rfl,hp⟩:=hR
 rw [hh]
 repeat' (first|refine zs2 ?_|refine Ops.alloc rfl rfl rfl (noPd rfl) (fun b=>?_))
 exact Cd.ret (ret1 (A':=CoB xb lb tb cb mb db wb sb c tv dead :: SD) rfl (Res.tmp rfl) (fun _ h=>h.split) ⟨rfl,rfl⟩)
theorem one_cin {b:Nat} {badge:Int} {l:List ByteArray} {la:Option Addr} {lk:Nat} {G:List Blk} (hO:Sw.OwnT (.slice la l.length lk) l G) (hl:l.length ≤ 2000000) {B:Base} (hG:Holds B ((b,cl ((logC badge l).row la lk) 103) :: G)) :
  CIn B (some ⟨b,0,none⟩) [⟨logC badge l,la,lk⟩] :=
 ⟨Own.rin (own_one b ⟨logC badge l,la,lk⟩) (hG.sub fun p hp=>by rw [List.mem_singleton] at hp;subst hp;exact List.mem_cons_self ..),
  fun g hg=>(by rw [List.mem_singleton] at hg;subst hg;exact RIn.sin (Own.rin hO (hG.sub fun p hp=>List.mem_cons_of_mem _ hp))),
  fun g hg=>(by rw [List.mem_singleton] at hg;subst hg;exact hl),
  fun g hg=>(by rw [List.mem_singleton] at hg;subst hg;show (0:Int) ≤ 0 ∧ (0:Int) < _;omega)⟩
theorem chunk_yes (B0:Base) (xb lb tb cb mb db wb sb:Nat) (c:Cf) (hc:CfOk c) (dead:Bool) (w:Wl) (x:Dk) (len:Nat) (lg:LgOk w x len) (hroom:20480 ≤ roomF len) (hnum:w.h.number + 2 < 1099511627776) (k:Nat) (D:List Blk) (hD:DkA db x k D) (hk:k ≤ 700000000000) (s:StP) (SD:List Blk) (hS:StA sb s SD) (ok:StOk s) (bd:StBd s) (tv:Value) (tl:List Cg) (TG:List Blk) (hT:OwnC tv tl TG) (htl:tl.length ≤ 1000000000)
  (mes:List ME) (mck_:Nat) (node life:Int) (m:Ms) (hix:m.index ≤ 9223372036854775807) (hh:heldF s m.badge node life = true)
  (wn wm:Nat) (sp:Sw.Sp) (es:List ME) (ck:Nat) (hsp:Sw.SpOk c.window.toNat sp) (hes:Sw.EsOk sp es ck) (hjob:mget mes (jobF s m.badge) = some (ptr wn)) (hlen:(logF s m.badge).length ≤ 32)
  (te:Int) (l:List ByteArray) (sp1:Sw.Sp) (htk:Sw.takeF c.window.toNat sp m.index m.text = (te,l,sp1)) (henc:l ≠ [] → (encodeF [logC m.badge l]).2 = 0) :
  ConB prog B0 87 #[.agg (heV xb node life m).toArray] (CoB xb lb tb cb mb db wb sb c tv dead :: (Sw.WB wn wm c.window.toNat sp.nx es ck ++ ((mb,mpo mes mck_) :: WlB wb db w :: (SD ++ (D ++ TG)))))
   fun v A=>v = .string (encF (ackM m.badge ((logF s m.badge).length + l.length))).1 ∧ ∃ wn1 wm1 es1 ck1,Sw.EsOk sp1 es1 ck1 ∧
    ((l = [] ∧ A = CoB xb lb tb cb mb db wb sb c tv dead :: (Sw.WB wn1 wm1 c.window.toNat sp1.nx es1 ck1 ++ ((mb,mpo (mput mes mck_ (jobF s m.badge) (ptr wn1)) (mck mes mck_ (jobF s m.badge))) :: WlB wb db w :: (SD ++ (D ++ TG))))) ∨
    (l ≠ [] ∧ ∃ la lk G SD1 D1 tv1 TG1 k1,A = CoB xb lb tb cb mb db wb sb c tv1 dead :: (Sw.WB wn1 wm1 c.window.toNat sp1.nx es1 ck1 ++ ((mb,mpo (mput mes mck_ (jobF s m.badge) (ptr wn1)) (mck mes mck_ (jobF s m.badge))) :: WlB wb db (mkW c.every w x (bytesS s) (encodeF [logC m.badge l]).1).1 :: (SD1 ++ (D1 ++ (TG1 ++ G))))) ∧ Sw.OwnT (.slice la l.length lk) l G ∧
     StA sb (applyF s [logC m.badge l]).2 SD1 ∧ DkA db (mkW c.every w x (bytesS s) (encodeF [logC m.badge l]).1).2 k1 D1 ∧ k1 ≤ k + 20000 ∧ OwnC tv1 (tl ++ [⟨logC m.badge l,la,lk⟩]) TG1)):=by
 have hgr:=Sw.takeF_grow hsp m.index m.text
 have hok1:=Sw.takeF_ok hsp m.index m.text
 have hts:=fun n b=>Sw.take_spec n b c.window.toNat sp es ck m.index m.text hsp hes hix
 rw [htk] at hgr hok1
 simp only [htk] at hts
 dsimp only at hgr hok1 hts
 have hl32:l.length ≤ 32:=by have:=hok1.n;omega
 refine zqJ (vs:=[_]) func87 ntmps87 fun B hB=>?_
 repeat' (first|refine zs1 ?_|refine Ops.box rfl rfl rfl rfl (noPd rfl) (fun b=>?_))
 rename Nat=>hb
 refine zqB (chheld_spec B0 xb lb tb cb mb db wb sb c tv dead node life m s SD hS ok) hB fun v A' hR=>?_
 obtain ⟨p,rfl,rfl,hp⟩:=hR
 rw [hh]
 obtain ⟨hpj,hpl⟩:=hp.held hh
 rw [← hpj] at hjob ⊢
 rw [← hpl] at hlen ⊢
 clear hp hpl
 repeat' (first|refine zs2 ?_|refine Ops.alloc rfl rfl rfl (noPd rfl) (fun b=>?_))
 rename Nat=>pb
 refine zdr [qz 0,qy 1,qz 2,qz 3,qz 4,qy 5,qz 6,qz 7,qy 8,qy 9,(10,2,[]),qz 11] ?_
 refine zg17 ?_
 rw [hjob,Option.getD_some]
 refine zqA (Sw.clone_spec wn wm c.window.toNat sp.nx es ck) fun v A' hR=>?_
 obtain ⟨wn1,wm1,rfl,rfl⟩:=hR
 refine zg1 ?_
 refine zqA (hts wn1 wm1) fun v A' hR=>?_
 obtain ⟨sv,G,es1,ck1,rfl,hO,rfl,hes1⟩:=hR
 obtain ⟨la,lk,rfl⟩:∃ a c,sv = .slice a l.length c:=by
  obtain ⟨a,c,q⟩:=Own.form hO
  exact ⟨a,c,by rw [q,List.length_map]⟩
 by_cases hl0:l = []
 ·have hz:¬ (0:Int) < (l.length:Int):=by rw [hl0];decide
  refine zg8 ?_
  refine zdr [qz 0,qy 1,qz 2,qz 3,qz 4,qy 5,qz 6,qz 7,qy 8,qz 9,(10,2,[])] ?_
  refine zg16 ?_
  refine Ops.call (told_spec (ackM m.badge ((p.l.txs.length:Int) + l.length)) (ackM_ok _ _)) rfl (noPd rfl) rfl rfl rfl (fun v A' hR=>?_)
  obtain ⟨rfl,rfl⟩:=hR
  refine zg0 ?_
  exact Cd.ret (ret1 (A':=CoB xb lb tb cb mb db wb sb c tv dead :: (Sw.WB wn1 wm1 c.window.toNat sp1.nx es1 ck1 ++ ((mb,mpo (mput mes mck_ p.r.job (ptr wn1)) (mck mes mck_ p.r.job)) :: WlB wb db w :: (SD ++ (D ++ TG))))) rfl (Res.tmp rfl) (fun _ h=>h.split) ⟨rfl,wn1,wm1,es1,ck1,hes1,.inl ⟨hl0,rfl⟩⟩)
 ·have hpos:(0:Int) < (l.length:Int):=by have:=List.length_pos_iff.2 hl0;omega
  have hmk:=fun bb:Nat=>makes_lent B0 xb lb tb cb mb db wb sb c hc dead w x len lg hroom hnum k D hD hk s SD hS ok bd tv tl TG hT htl (some ⟨bb,0,none⟩) 1 [⟨logC m.badge l,la,lk⟩] ((bb,cl ((logC m.badge l).row la lk) 103) :: G) (fun B1 e hG=>one_cin hO (by omega) hG) (by show 0 < 1;omega) (by show 1 ≤ 2000000;omega) (henc hl0)
  repeat' (first|refine zs5 ?_|refine Ops.bs1 rfl rfl rfl rfl rfl rfl rfl (noPd rfl) (fun b=>?_))
  rename Nat=>cbk
  refine zqB (hmk cbk) hB fun v A' hR=>?_
  obtain ⟨SD1,D1,tv1,TG1,k1,rfl,hS1,hD1,hk1,hT1⟩:=hR
  clear hmk
  rw [show ([⟨logC m.badge l,la,lk⟩]:List Cg).map Cg.c = [logC m.badge l] from rfl] at hS1 hD1 ⊢
  refine zg0 ?_
  refine zdr [qz 0,qy 1,qz 2,qz 3,qz 4,qy 5,qz 6,qz 7,qy 8,qz 9,(10,2,[])] ?_
  refine zg16 ?_
  refine Ops.call (told_spec (ackM m.badge ((p.l.txs.length:Int) + l.length)) (ackM_ok _ _)) rfl (noPd rfl) rfl rfl rfl (fun v A' hR=>?_)
  obtain ⟨rfl,rfl⟩:=hR
  refine zg0 ?_
  exact Cd.ret (ret1 (A':=CoB xb lb tb cb mb db wb sb c tv1 dead :: (Sw.WB wn1 wm1 c.window.toNat sp1.nx es1 ck1 ++ ((mb,mpo (mput mes mck_ p.r.job (ptr wn1)) (mck mes mck_ p.r.job)) :: WlB wb db (mkW c.every w x (bytesS s) (encodeF [logC m.badge l]).1).1 :: (SD1 ++ (D1 ++ (TG1 ++ G)))))) rfl (Res.tmp rfl) (fun _ h=>h.split) ⟨rfl,wn1,wm1,es1,ck1,hes1,.inr ⟨hl0,la,lk,G,SD1,D1,tv1,TG1,k1,rfl,hO,hS1,hD1,hk1,hT1⟩⟩)
@[reducible] def reqM (kind session number:Int):Ms:=⟨kind,session,number,0,0,0,0,0,0,⟨#[]⟩,⟨#[]⟩⟩
theorem reqM_ok (k s n:Int):MsOk (reqM k s n):=⟨Nat.zero_le _,Nat.zero_le _,by show (0:Int) ≤ 0 ∧ (0:Int) < _;omega⟩
theorem request_old (xb lb tb cb mb db wb sb:Nat) (c:Cf) (tv:Value) (dead:Bool) (node life:Int) (hn1:2 ≤ node) (hn2:node ≤ 9) (m:Ms) (sv:Value) (rs:List Se.Dk) (G:List Blk) (hO:Se.OwnK sv rs G) (hI:Se.RowsI rs)
  (what:Int) (reply:ByteArray) (hask:Se.askV (Se.rowAt rs (node - 2)) life m.session m.number = (what,reply)) (hw:what ≠ 3) :
  Con prog 86 #[.agg (heV xb node life m).toArray] (CoB xb lb tb cb mb db wb sb c tv dead :: Se.TabB tb sv G)
   fun v A=>v = .string (if what = 1 then (encF (reqM 8 m.session m.number)).1 else if what = 2 then reply else ⟨#[]⟩) ∧ A = CoB xb lb tb cb mb db wb sb c tv dead :: Se.TabB tb sv G:=by
 have hak:=Se.ask_fun tb sv rs G (node - 2) life m.session m.number hO hI
 rw [hask] at hak
 dsimp only at hak
 refine zqI (vs:=[_]) func86 ntmps86 fun B=>?_
 repeat' (first|refine zs4 ?_|refine Ops.box rfl rfl rfl rfl (noPd rfl) (fun b=>?_)|refine Ops.alloc rfl rfl rfl (noPd rfl) (fun b=>?_))
 rename_i hb
 rename Nat=>mx
 refine zdr [qz 0,qy 1,qz 2,qz 3,qz 4,qy 5,qy 6,qz 8,qz 9,qy 10,qz 11,qy 12,qz 13,qy 14,(7,2,[1,5,10,12,14]),(15,2,[]),qz 16,qz 17,qz 18,qz 19,qz 20] ?_
 refine zg3 ?_
 refine Ops.call (slot_spec xb node life m hn1 hn2) rfl zp1 rfl rfl rfl (fun v A' hR=>?_)
 obtain ⟨rfl,rfl⟩:=hR
 refine Ops.call hak rfl (noPd rfl) rfl rfl rfl (fun v A' hR=>?_)
 obtain ⟨rfl,rfl⟩:=hR
 by_cases h1:what = 1
 ·rw [if_pos h1]
  refine zg8 ?_
  refine Ops.call (told_spec (reqM 8 m.session m.number) (reqM_ok _ _ _)) rfl (noPd rfl) rfl rfl rfl (fun v A' hR=>?_)
  obtain ⟨rfl,rfl⟩:=hR
  refine zg0 ?_
  exact ze77
 ·rw [if_neg h1]
  by_cases h2:what = 2
  ·rw [if_pos h2]
   refine zg8 ?_
   exact ze77
  ·rw [if_neg h2]
   refine zg13 ?_
   exact ze77
theorem request_new (B0:Base) (xb lb lm tb cb mb db wb sb:Nat) (c:Cf) (tv:Value) (dead:Bool) (node life:Int) (hn1:2 ≤ node) (hn2:node ≤ 9) (m:Ms) (sv:Value) (rs:List Se.Dk) (G:List Blk) (hO:Se.OwnK sv rs G) (hI:Se.RowsI rs)
  (reply:ByteArray) (hask:Se.askV (Se.rowAt rs (node - 2)) life m.session m.number = (3,reply))
  (ls:List Ls.LE) (les:List ME) (lck:Nat) (hL:Ls.TOk c.lease ls les lck) (s:StP) (SD:List Blk) (hS:StA sb s SD) (ok:StOk s) (X0:List Blk)
  (Mid:Ms → Value → List Blk → Prop) (hmid:∀ m1 tv1 X,Mid m1 tv1 X → MsOk m1)
  (hpoll:m.kind = 2 → ∀ mx,ConB prog B0 148 #[.agg (heV xb node life m).toArray,ptr mx] (CoB xb lb tb cb mb db wb sb c tv dead :: MgB mx (reqM 0 m.session m.number).row :: (Ls.TB lb lm c.lease les lck ++ (SD ++ X0))) fun v A=>∃ m1 tv1 X,A = CoB xb lb tb cb mb db wb sb c tv1 dead :: MgB mx m1.row :: X ∧ Mid m1 tv1 X)
  (hbeat0:m.kind = 3 → heldF s m.badge node life = false → Mid (reqM 12 m.session m.number) tv (Ls.TB lb lm c.lease les lck ++ (SD ++ X0)))
  (hbeat1:m.kind = 3 → heldF s m.badge node life = true → ∀ les1 lck1,Ls.TOk c.lease (Ls.renewF c.lease ls m.badge).2 les1 lck1 → Mid (reqM 11 m.session m.number) tv (Ls.TB lb lm c.lease les1 lck1 ++ (SD ++ X0)))
  (hdone:m.kind ≠ 2 → m.kind ≠ 3 → ConB prog B0 151 #[.agg (heV xb node life m).toArray] (CoB xb lb tb cb mb db wb sb c tv dead :: (Ls.TB lb lm c.lease les lck ++ (SD ++ X0))) fun v A=>∃ b tv1 X,v = .bool b ∧ A = CoB xb lb tb cb mb db wb sb c tv1 dead :: X ∧ Mid (reqM (if b then 13 else 12) m.session m.number) tv1 X) :
  ConB prog B0 86 #[.agg (heV xb node life m).toArray] (CoB xb lb tb cb mb db wb sb c tv dead :: (Se.TabB tb sv G ++ (Ls.TB lb lm c.lease les lck ++ (SD ++ X0))))
   fun v A=>∃ m1 tv1 X G1,v = .string (encF m1).1 ∧ A = CoB xb lb tb cb mb db wb sb c tv1 dead :: (Se.TabB tb sv G1 ++ X) ∧ Se.OwnK sv (Se.putRow rs (node - 2) (Se.answerV (Se.rowAt rs (node - 2)) (encF m1).1)) G1 ∧ Mid m1 tv1 X:=by
 have hak:=Se.ask_fun tb sv rs G (node - 2) life m.session m.number hO hI
 rw [hask] at hak
 dsimp only at hak
 refine zqJ (vs:=[_]) func86 ntmps86 fun B hB=>?_
 generalize hc1:Code.seq (Code.seq (Code.region 11 _ _) _) _ = c1
 repeat' (first|refine zs4 ?_|refine Ops.box rfl rfl rfl rfl (noPd rfl) (fun b=>?_)|refine Ops.alloc rfl rfl rfl (noPd rfl) (fun b=>?_))
 rename_i hb
 rename Nat=>mx
 refine zdr [qz 0,qy 1,qz 2,qz 3,qz 4,qy 5,qy 6,qz 8,qz 9,qy 10,qz 11,qy 12,qz 13,qy 14,(7,2,[1,5,10,12,14]),(15,2,[]),qz 16,qz 17,qz 18,qz 19,qz 20] ?_
 refine zg3 ?_
 refine Ops.call (slot_spec xb node life m hn1 hn2) rfl zp1 rfl rfl rfl (fun v A' hR=>?_)
 obtain ⟨rfl,rfl⟩:=hR
 refine Ops.call hak rfl (noPd rfl) rfl rfl rfl (fun v A' hR=>?_)
 obtain ⟨rfl,rfl⟩:=hR
 refine zg4 ?_
 subst hc1
 refine Cd.cut (σ:=Ms × Value × List Blk) (fun t=>Mid t.1 t.2.1 t.2.2) (fun t=>[(1,ptr hb),(3,ptr mx)]) (fun t=>MgB mx t.1.row :: (hb,cl (heV xb node life m) 110) :: CoB xb lb tb cb mb db wb sb c t.2.1 dead :: (Se.TabB tb sv G ++ t.2.2)) ?_ (fun t hM=>?_)
 ·by_cases h2:m.kind = 2
  ·refine zg15 ?_
   refine zqB (hpoll h2 mx) hB fun v A' hR=>?_
   obtain ⟨m1,tv1,X,rfl,hM⟩:=hR
   exact Ops.nilN (inB (meet_end (Q:=fun _ _ _=>True) (m1,tv1,X) hM ⟨rfl,rfl,trivial⟩ (fun w h=>h.split)))
  ·by_cases h3:m.kind = 3
   ·refine zg8 ?_
    refine zqB (chheld_spec B0 xb lb tb cb mb db wb sb c tv dead node life m s SD hS ok) hB fun v A' hR=>?_
    obtain ⟨p,rfl,rfl,hp⟩:=hR
    by_cases hh:heldF s m.badge node life = true
    ·rw [hh]
     repeat' (first|refine zs2 ?_|refine Ops.alloc rfl rfl rfl (noPd rfl) (fun b=>?_))
     refine zdr [qz 0,qy 1,qz 2,qz 3,qz 4,qy 5,qz 6,qz 7,qy 8,(9,2,[])] ?_
     refine zg5 ?_
     refine zqA (Ls.renew_spec lb lm c.lease ls les lck m.badge hL) fun v A' hR=>?_
     obtain ⟨rfl,les1,lck1,rfl,hL1⟩:=hR
     refine zg4 ?_
     exact Ops.nilN (inB (meet_end (Q:=fun _ _ _=>True) (reqM 11 m.session m.number,tv,Ls.TB lb lm c.lease les1 lck1 ++ (SD ++ X0)) (hbeat1 h3 hh les1 lck1 hL1) ⟨rfl,rfl,trivial⟩ (fun w h=>h.split)))
    ·rw [Bool.not_eq_true] at hh
     rw [hh]
     repeat' (first|refine zs2 ?_|refine Ops.alloc rfl rfl rfl (noPd rfl) (fun b=>?_))
     exact Cd.skip (inB (meet_end (Q:=fun _ _ _=>True) (reqM 12 m.session m.number,tv,Ls.TB lb lm c.lease les lck ++ (SD ++ X0)) (hbeat0 h3 hh) ⟨rfl,rfl,trivial⟩ (fun w h=>h.split)))
   ·refine zg8 ?_
    refine zqB (hdone h2 h3) hB fun v A' hR=>?_
    obtain ⟨b,tv1,X,rfl,rfl,hM⟩:=hR
    cases b
    ·refine zg4 ?_
     exact Cd.skip (inB (meet_end (Q:=fun _ _ _=>True) (reqM 12 m.session m.number,tv1,X) hM ⟨rfl,rfl,trivial⟩ (fun w h=>h.split)))
    ·refine zg4 ?_
     exact Ops.nilN (inB (meet_end (Q:=fun _ _ _=>True) (reqM 13 m.session m.number,tv1,X) hM ⟨rfl,rfl,trivial⟩ (fun w h=>h.split)))
 ·obtain ⟨m1,tv1,X⟩:=t
  dsimp only at hM ⊢
  refine zg3 ?_
  refine Ops.call (told_spec m1 (hmid _ _ _ hM)) rfl (noPd rfl) rfl rfl rfl (fun v A' hR=>?_)
  obtain ⟨rfl,rfl⟩:=hR
  refine zg0 ?_
  refine zdr [qz 0,qy 1,qz 2,qz 3,qz 4,qy 5,qy 6,qz 8,(7,2,[1,5]),(9,2,[])] ?_
  refine zg3 ?_
  refine Ops.call (slot_spec xb node life m hn1 hn2) rfl zp1 rfl rfl rfl (fun v A' hR=>?_)
  obtain ⟨rfl,rfl⟩:=hR
  refine zqA (Se.answer_fun tb sv rs G (node - 2) (encF m1).1 hO hI) fun v A' hR=>?_
  obtain ⟨⟨e,rfl⟩,G1,rfl,hO1⟩:=hR
  refine zg1 ?_
  exact Cd.ret (ret1 (A':=CoB xb lb tb cb mb db wb sb c tv1 dead :: (Se.TabB tb sv G1 ++ X)) rfl (Res.tmp rfl) (fun _ h=>h.split) ⟨m1,tv1,X,G1,rfl,rfl,hO1,hM⟩)
def mkR (every:Int) (w:Wl) (x:Dk) (s:StP) (l:List Ch):Wl × Dk:=if l = [] then (w,x) else mkW every w x (bytesS s) (encodeF l).1
theorem mkR_some {every:Int} {w:Wl} {x:Dk} {s:StP} {l:List Ch} (h:l ≠ []):mkR every w x s l = mkW every w x (bytesS s) (encodeF l).1:=if_neg h
theorem makes_any (B0:Base) (xb lb tb cb mb db wb sb:Nat) (c:Cf) (hc:CfOk c) (dead:Bool) (w:Wl) (x:Dk) (len:Nat) (lg:LgOk w x len) (hroom:20480 ≤ roomF len) (hnum:w.h.number + 2 < 1099511627776) (k:Nat) (D:List Blk) (hD:DkA db x k D) (hk:k ≤ 700000000000) (s:StP) (SD:List Blk) (hS:StA sb s SD) (ok:StOk s) (bd:StBd s) (tv:Value) (tl:List Cg) (TG:List Blk) (hT:OwnC tv tl TG) (htl:tl.length ≤ 1000000000)
  (a:Option Addr) (cp:Nat) (l:List Cg) (LB:List Blk) (hC:∀ B1,Ext B0 B1 → Holds B1 LB → CIn B1 a l) (hl:l.length ≤ 2000000) (henc:l ≠ [] → (encodeF (l.map Cg.c)).2 = 0) :
  ConB prog B0 69 #[ptr xb,.slice a l.length cp] (CoB xb lb tb cb mb db wb sb c tv dead :: WlB wb db w :: (SD ++ (D ++ (TG ++ LB))))
   fun v A=>∃ SD1 D1 tv1 TG1 k1,A = CoB xb lb tb cb mb db wb sb c tv1 dead :: WlB wb db (mkR c.every w x s (l.map Cg.c)).1 :: (SD1 ++ (D1 ++ (TG1 ++ LB))) ∧ StA sb (applyF s (l.map Cg.c)).2 SD1 ∧ DkA db (mkR c.every w x s (l.map Cg.c)).2 k1 D1 ∧ k1 ≤ k + 20000 ∧ OwnC tv1 (tl ++ l) TG1:=by
 by_cases h0:l = []
 ·subst h0
  refine ((makes_nil B0 xb a cp).beside (F:=CoB xb lb tb cb mb db wb sb c tv dead :: WlB wb db w :: (SD ++ (D ++ (TG ++ LB))))).mono fun v A hR=>?_
  obtain ⟨A',rfl,rfl⟩:=hR
  exact ⟨SD,D,tv,TG,k,rfl,hS,hD,by omega,by rw [List.append_nil];exact hT⟩
 ·have hm:l.map Cg.c ≠ []:=fun q=>h0 (List.map_eq_nil_iff.1 q)
  rw [mkR_some hm]
  exact makes_lent B0 xb lb tb cb mb db wb sb c hc dead w x len lg hroom hnum k D hD hk s SD hS ok bd tv tl TG hT htl a cp l LB hC (List.length_pos_iff.2 h0) hl (henc h0)
theorem resL_bare (rs:Int):∀ g ∈ resL rs,Bare g:=fun g hg=>by
 unfold resL at hg
 split at hg
 ·cases hg
 ·rw [List.mem_singleton] at hg
  subst hg
  exact ⟨rfl,rfl,by show (0:Int) ≤ 0 ∧ (0:Int) < _;omega⟩
@[reducible] def welM (session:Int):Ms:=⟨7,session,0,0,0,0,0,0,0,⟨#[]⟩,⟨#[]⟩⟩
theorem welM_ok (s:Int):MsOk (welM s):=⟨Nat.zero_le _,Nat.zero_le _,by show (0:Int) ≤ 0 ∧ (0:Int) < _;omega⟩
theorem hello_old (xb lb tb cb mb db wb sb:Nat) (c:Cf) (tv:Value) (dead:Bool) (node life:Int) (hn1:2 ≤ node) (hn2:node ≤ 9) (m:Ms) (sv:Value) (rs:List Se.Dk) (G:List Blk) (hO:Se.OwnK sv rs G)
  (what se:Int) (hw:Se.helloV (Se.rowAt rs (node - 2)) life = (what,se)) (h2:what ≠ 2) :
  Con prog 85 #[.agg (heV xb node life m).toArray] (CoB xb lb tb cb mb db wb sb c tv dead :: Se.TabB tb sv G)
   fun v A=>v = .string (if what = 0 then ⟨#[]⟩ else (encF (welM se)).1) ∧ A = CoB xb lb tb cb mb db wb sb c tv dead :: Se.TabB tb sv G:=by
 refine zqI (vs:=[_]) func85 ntmps85 fun B=>?_
 repeat' (first|refine zs1 ?_|refine Ops.box rfl rfl rfl rfl (noPd rfl) (fun b=>?_))
 rename Nat=>hb
 refine zdr [qz 0,qy 1,qz 2,qz 3,qz 4,qy 5,qy 6,qz 8,qz 9,qy 10,(7,2,[1,5,10]),(11,2,[]),qz 12,qz 13,qz 14,qz 15,qz 16] ?_
 refine zg3 ?_
 refine Ops.call (slot_spec xb node life m hn1 hn2) rfl zp1 rfl rfl rfl (fun v A' hR=>?_)
 obtain ⟨rfl,rfl⟩:=hR
 refine zqA (Se.hello_fun tb sv rs G (node - 2) life hO) fun v A' hR=>?_
 rw [hw] at hR
 obtain ⟨rfl,rfl⟩:=hR
 dsimp only
 by_cases h0:what = 0
 ·rw [if_pos h0]
  refine zg15 ?_
  exact ze77
 ·rw [if_neg h0]
  refine zg8 ?_
  refine Ops.call (told_spec (welM se) (welM_ok _)) rfl (noPd rfl) rfl rfl rfl (fun v A' hR=>?_)
  obtain ⟨rfl,rfl⟩:=hR
  refine zg0 ?_
  exact ze77
theorem hello_fresh (B0:Base) (xb lb tb cb mb db wb sb:Nat) (c:Cf) (hc:CfOk c) (dead:Bool) (w:Wl) (x:Dk) (len:Nat) (lg:LgOk w x len) (hroom:20480 ≤ roomF len) (hnum:w.h.number + 2 < 1099511627776) (k:Nat) (D:List Blk) (hD:DkA db x k D) (hk:k ≤ 700000000000) (s:StP) (SD:List Blk) (hS:StA sb s SD) (ok:StOk s) (bd:StBd s) (tv:Value) (tl:List Cg) (TG:List Blk) (hT:OwnC tv tl TG) (htl:tl.length ≤ 1000000000)
  (node life:Int) (hn1:2 ≤ node) (hn2:node ≤ 9) (m:Ms) (sv:Value) (rs:List Se.Dk) (G:List Blk) (hO:Se.OwnK sv rs G) (se:Int) (hw:Se.helloV (Se.rowAt rs (node - 2)) life = (2,se))
  (la re bg r la1 re1:Int) (h0:0 ≤ re) (h1:re ≤ 1099511627776) (h2:0 ≤ la) (hn:nextB c.block la re = ((bg,r,0),la1,re1)) (henc:resL r ≠ [] → (encodeF ((resL r).map Cg.c)).2 = 0) :
  ConB prog B0 85 #[.agg (heV xb node life m).toArray] (CoB xb lb tb cb mb db wb sb c tv dead :: (Se.TabB tb sv G ++ (CtB cb c.block la re :: WlB wb db w :: (SD ++ (D ++ TG)))))
   fun v A=>v = .string (encF (welM bg)).1 ∧ ∃ SD1 D1 tv1 TG1 G1 k1,A = CoB xb lb tb cb mb db wb sb c tv1 dead :: (Se.TabB tb sv G1 ++ (CtB cb c.block la1 re1 :: WlB wb db (mkR c.every w x s ((resL r).map Cg.c)).1 :: (SD1 ++ (D1 ++ TG1)))) ∧ StA sb (applyF s ((resL r).map Cg.c)).2 SD1 ∧ DkA db (mkR c.every w x s ((resL r).map Cg.c)).2 k1 D1 ∧ k1 ≤ k + 20000 ∧ OwnC tv1 (tl ++ resL r) TG1 ∧ Se.OwnK sv (Se.putRow rs (node - 2) (Se.openV (Se.rowAt rs (node - 2)) (node - 2) life bg)) G1:=by
 refine zqJ (vs:=[_]) func85 ntmps85 fun B hB=>?_
 repeat' (first|refine zs1 ?_|refine Ops.box rfl rfl rfl rfl (noPd rfl) (fun b=>?_))
 rename Nat=>hb
 refine zdr [qz 0,qy 1,qz 2,qz 3,qz 4,qy 5,qy 6,qz 8,qz 9,qy 10,(7,2,[1,5,10]),(11,2,[]),qz 12,qz 13,qz 14,qz 15,qz 16] ?_
 refine zg3 ?_
 refine Ops.call (slot_spec xb node life m hn1 hn2) rfl zp1 rfl rfl rfl (fun v A' hR=>?_)
 obtain ⟨rfl,rfl⟩:=hR
 refine zqA (Se.hello_fun tb sv rs G (node - 2) life hO) fun v A' hR=>?_
 rw [hw] at hR
 obtain ⟨rfl,rfl⟩:=hR
 dsimp only
 refine zg4 ?_
 refine zqA (draws_own xb lb tb cb mb db wb sb c hc tv dead la re bg r la1 re1 h0 h1 h2 hn) fun v A' hR=>?_
 obtain ⟨a,cp,LG,rfl,rfl,hOL⟩:=hR
 have hrl:(resL r).length ≤ 1:=by unfold resL;split <;> simp
 have hmk:=makes_any B0 xb lb tb cb mb db wb sb c hc dead w x len lg hroom hnum k D hD hk s SD hS ok bd tv tl TG hT htl a cp (resL r) LG (fun B1 e hG=>OwnC.cin hOL (resL_bare r) hG) (by omega) henc
 generalize resL r = rl at hmk hOL hrl ⊢
 refine zg4 ?_
 refine Ops.callB hmk hB rfl (noPd rfl) rfl rfl rfl (fun v A' hR=>?_)
 obtain ⟨SD1,D1,tv1,TG1,k1,rfl,hS1,hD1,hk1,hT1⟩:=hR
 clear hmk
 refine zg0 ?_
 refine zdr [qz 0,qy 1,qz 2,qz 3,qz 4,qy 5,qy 6,qz 8,qz 9,qy 10,qz 11,(7,2,[1,5,10]),(12,2,[])] ?_
 refine zg3 ?_
 refine Ops.call (slot_spec xb node life m hn1 hn2) rfl zp1 rfl rfl rfl (fun v A' hR=>?_)
 obtain ⟨rfl,rfl⟩:=hR
 refine zqA (Se.open_fun tb sv rs G (node - 2) life bg hO) fun v A' hR=>?_
 obtain ⟨⟨er,rfl⟩,G1,rfl,hO1⟩:=hR
 refine zg3 ?_
 refine Ops.call (told_spec (welM bg) (welM_ok _)) rfl (noPd rfl) rfl rfl rfl (fun v A' hR=>?_)
 obtain ⟨rfl,rfl⟩:=hR
 refine zg0 ?_
 exact Cd.ret (ret1 (A':=CoB xb lb tb cb mb db wb sb c tv1 dead :: (Se.TabB tb sv G1 ++ (CtB cb c.block la1 re1 :: WlB wb db (mkR c.every w x s (rl.map Cg.c)).1 :: (SD1 ++ (D1 ++ TG1))))) rfl (Res.tmp rfl) (fun _ h=>h.split) ⟨rfl,SD1,D1,tv1,TG1,G1,k1,rfl,hS1,hD1,hk1,hT1,hO1⟩)
theorem caught1_ret (B0:Base) (bx eb:Nat):DCon prog B0 79 #[ptr bx,ptr eb] .returning [] fun u' A=>u' = .returning ∧ A = []:=by
 refine DCon.intro (vs:=[_,_]) func79 rfl ntmps79 rfl (fun B c₀ cs hx hu=>?_)
 have hrec:recoverD (c₀ :: cs) = none:=by simp [recoverD,hu]
 have hc0:c₀ = { c₀ with mode:=.returning }:=by rw [← hu]
 refine CdS.seq ?_
 refine CdS.rec_no rfl hrec rfl rfl ?_
 refine Ops.nilN (CdS.next ?_)
 refine CdS.of rfl ?_
 rw [hc0]
 haveI:=(⟨underlying20⟩:TyD prog 20 _)
 refine zg1 ?_
 refine Ops.eqIfaceNil ⟨_,rfl⟩ rfl rfl rfl rfl ?_
 refine zg6 ?_
 exact Ops.nilN (inB (endS (A':=[]) rfl (fun _ h=>h.split) ⟨rfl,rfl⟩))
theorem caught_calm (B0:Base) (xb lb tb cb mb db wb sb:Nat) (c:Cf) (tv:Value) (x:Dk) (k:Nat) (D:List Blk) (hD:DkA db x k D) (hde:x.de = false) (F:List Blk) (f:FuncId) (ca:List Value) [FnOk prog f] (R:Value → List Blk → Prop)
  (hdo:ConB prog B0 f ca.toArray (CoB xb lb tb cb mb db wb sb c tv false :: (D ++ F)) R) :
  ConB prog B0 44 #[ptr xb,.func (.func f) #[] ca.toArray] (CoB xb lb tb cb mb db wb sb c tv false :: (D ++ F)) fun v A=>v = .int .i64 0 ∧ ∃ v0,R v0 A:=by
 refine ConX.calm (X:=fun _ _=>False) (ConX.intro (vs:=[_,_]) func44 rfl ntmps44 rfl (fun B hB=>?_)) (fun _ _ h=>h)
 repeat' (first|refine zs0 ?_|refine Ops.box rfl rfl rfl rfl (noPd rfl) (fun b=>?_)|refine Ops.alloc rfl rfl rfl (noPd rfl) (fun b=>?_))
 rename_i bx
 rename Nat=>eb
 refine zqA (lives_spec xb lb tb cb mb db wb sb c tv false x k D hD) fun v A' hR=>?_
 rw [hde,Bool.or_self] at hR
 obtain ⟨rfl,rfl⟩:=hR
 refine zg17 ?_
 refine Ops.dfr (fi:=[]) (ca:=[ptr bx,ptr eb]) (vs:=[]) rfl rfl rfl rfl ?_
 refine zg0 ?_
 refine Ops.callVB (fi:=[]) (ca:=ca) (vs:=[]) hdo hB rfl (noPd rfl) rfl rfl rfl rfl (fun v A' hR=>?_)
 rename Value=>v0
 refine zg4 ?_
 refine Cd.ret (leaveD_ret (caught1_ret B0 bx eb) hB (fun u' A2 hR2=>?_))
 obtain ⟨rfl,rfl⟩:=hR2
 exact .inl ⟨rfl,retX (ret1 (A':=A') rfl (Res.cell1 rfl rfl) (fun _ h=>h.split) ⟨rfl,v0,hR⟩)⟩
theorem runner_yes (xb lb tb cb mb db wb sb:Nat) (c:Cf) (hc:CfOk c) (tv:Value) (dead:Bool) (node life:Int) (h1:2 ≤ node) (h2:node < 2 + c.runners) (h3:1 ≤ life) (h4:life ≤ 1099511627776) :
  Con prog 47 #[ptr xb,.agg [.int .i64 node,.int .i64 life].toArray] [CoB xb lb tb cb mb db wb sb c tv dead] fun v A=>v = .bool true ∧ A = [CoB xb lb tb cb mb db wb sb c tv dead]:=by
 obtain ⟨⟨a1,a2⟩,_⟩:=id hc
 refine zqI (vs:=[_,_]) func47 ntmps47 fun B=>?_
 repeat' (first|refine zs1 ?_|refine Ops.box rfl rfl rfl rfl (noPd rfl) (fun b=>?_))
 refine zdr [qz 0,qy 1,qz 2,qz 3,qz 4,qy 5,qz 6,qz 7,qz 8,qz 9,qy 10,qz 11,qz 12,qz 13,qz 14,qz 15,qy 16,qz 17,qz 18,qz 19,qz 20,qy 21,qz 22,qz 23,qz 24] ?_
 refine zg12 ?_
 exact Cd.ret (ret1 (A':=[CoB xb lb tb cb mb db wb sb c tv dead]) rfl (Res.tmp rfl) (fun _ h=>h.split) ⟨by rw [decide_eq_true h4],rfl⟩)
theorem does_hello (xb:Nat) (node life:Int) (m:Ms) (hm:m.kind = 1):Con prog 48 #[.agg (heV xb node life m).toArray] [] fun v A=>v = .func (.func 85) [.agg (heV xb node life m).toArray].toArray #[] ∧ A = []:=by
 refine zqI (vs:=[_]) func48 ntmps48 fun B=>?_
 repeat' (first|refine zs5 ?_|refine Ops.box rfl rfl rfl rfl (noPd rfl) (fun b=>?_))
 exact ze9
@[reducible] def dgV (number fn fl tn tl:Int) (s:ByteArray):List Value:=[.int .i64 number,.int .i64 fn,.int .i64 fl,.int .i64 tn,.int .i64 tl,.string s]
theorem hear1_hello (B0:Base) (xb lb tb cb mb db wb sb:Nat) (c:Cf) (hc:CfOk c) (tv:Value) (dead:Bool) (CA:List Blk) (node life:Int) (h1:2 ≤ node) (h2:node < 2 + c.runners) (h3:1 ≤ life) (h4:life ≤ 1099511627776)
  (data:ByteArray) (hsz:data.size < 9223372036854775808) (m:Ms) (hdec:decF data = (m,0)) (hm:m.kind = 1) (reply:ByteArray) (hrep:¬ reply = ⟨#[]⟩) (R:List Blk → Prop)
  (hh:ConB prog B0 85 #[.agg (heV xb node life m).toArray] (CoB xb lb tb cb mb db wb sb c tv dead :: CA) fun v A=>v = .string reply ∧ R A) (dx xx fx sx:Nat) :
  ConB prog B0 45 #[ptr dx,ptr xx,ptr fx,ptr sx] (CoB xb lb tb cb mb db wb sb c tv dead :: (CA ++ [(dx,cl [.string data] 9),(xx,cl [ptr xb] 26),(fx,cl [.int .i64 node,.int .i64 life] 33),(sx,cl [.slice none 0 0] 44)]))
   fun v A=>∃ A1 g,R A1 ∧ A = A1 ++ [(sx,cl [.slice (some ⟨g,0,none⟩) 1 1] 44),(g,cl (dgV 0 0 0 node life reply) 101)]:=by
 refine zqJ (vs:=[_,_,_,_]) func45 ntmps45 fun B hB=>?_
 refine zg1 ?_
 refine zqB (wdecode_spec B0 data hsz) hB fun v A' hR=>?_
 rw [hdec] at hR
 obtain ⟨rfl,rfl⟩:=hR
 dsimp only
 repeat' (first|refine zs3 ?_|refine Ops.alloc rfl rfl rfl (noPd rfl) (fun b=>?_))
 rename Nat=>mx
 refine zqA (runner_yes xb lb tb cb mb db wb sb c hc tv dead node life h1 h2 h3 h4) fun v A' hR=>?_
 obtain ⟨rfl,rfl⟩:=hR
 repeat' (first|refine zs4 ?_|refine Ops.alloc rfl rfl rfl (noPd rfl) (fun b=>?_))
 rename Nat=>yx
 refine zqA (does_hello xb node life m hm) fun v A' hR=>?_
 obtain ⟨rfl,rfl⟩:=hR
 refine zg4 ?_
 refine Ops.callVB (fi:=[.agg (heV xb node life m).toArray]) (ca:=[]) (vs:=[]) hh hB rfl (noPd rfl) rfl rfl rfl rfl (fun v A' hR=>?_)
 obtain ⟨rfl,hR⟩:=hR
 repeat' (first|refine zs4 ?_|refine Ops.bs1 rfl rfl rfl rfl rfl rfl rfl (noPd rfl) (fun b=>?_))
 rename Nat=>g
 exact Ops.nilN (end0 (A':=A' ++ [(sx,cl [.slice (some ⟨g,0,none⟩) 1 1] 44),(g,cl (dgV 0 0 0 node life reply) 101)]) rfl (fun _ h=>h.split) ⟨A',g,hR,rfl⟩)
theorem hear_hello (B0:Base) (xb lb tb cb mb db wb sb:Nat) (c:Cf) (hc:CfOk c) (tv:Value) (x:Dk) (k:Nat) (D:List Blk) (hD:DkA db x k D) (hde:x.de = false) (F:List Blk) (node life:Int) (h1:2 ≤ node) (h2:node < 2 + c.runners) (h3:1 ≤ life) (h4:life ≤ 1099511627776)
  (data:ByteArray) (hsz:data.size < 9223372036854775808) (m:Ms) (hdec:decF data = (m,0)) (hm:m.kind = 1) (reply:ByteArray) (hrep:¬ reply = ⟨#[]⟩) (R:List Blk → Prop)
  (hh:ConB prog B0 85 #[.agg (heV xb node life m).toArray] (CoB xb lb tb cb mb db wb sb c tv false :: (D ++ F)) fun v A=>v = .string reply ∧ R A) :
  ConB prog B0 13 #[ptr xb,.agg [.int .i64 node,.int .i64 life].toArray,.string data] (CoB xb lb tb cb mb db wb sb c tv false :: (D ++ F))
   fun v A=>∃ A1 g,v = .tuple #[.slice (some ⟨g,0,none⟩) 1 1,.int .i64 0] ∧ R A1 ∧ A = A1 ++ [(g,cl (dgV 0 0 0 node life reply) 101)]:=by
 refine zqJ (vs:=[_,_,_]) func13 ntmps13 fun B hB=>?_
 repeat' (first|refine zs0 ?_|refine Ops.box rfl rfl rfl rfl (noPd rfl) (fun b=>?_)|refine Ops.alloc rfl rfl rfl (noPd rfl) (fun b=>?_))
 rename_i xx fx dx
 rename Nat=>sx
 have hd:=hear1_hello B0 xb lb tb cb mb db wb sb c hc tv false (D ++ F) node life h1 h2 h3 h4 data hsz m hdec hm reply hrep R hh dx xx fx sx
 rw [List.append_assoc] at hd
 refine Ops.callB (caught_calm B0 xb lb tb cb mb db wb sb c tv x k D hD hde _ 45 [ptr dx,ptr xx,ptr fx,ptr sx] _ hd) hB rfl (noPd rfl) rfl rfl rfl (fun v A' hR=>?_)
 obtain ⟨rfl,v0,A1,g,hR,rfl⟩:=hR
 refine zg7 ?_
 exact Cd.ret (ret2 (A':=A1 ++ [(g,cl (dgV 0 0 0 node life reply) 101)]) rfl (Res.tmp rfl) (Res.tmp rfl) (fun _ h=>h.split) ⟨A1,g,rfl,hR,rfl⟩)
end Go.Proofs.YtkoelgkghijgiaaGreat
namespace Go.Sep
open Go
section
variable {P:Program}
variable {N:Fi} {B:Base} {Q:Exit → Act → World → Prop} {T:Tm} {A:List Blk} {ops:Array Oper} {l:List Oper}
variable {d:Nat} {ty:TypeId} {pos:String} {af:Array Edge} {m:Md} {gd:Option (Nat × Bool)}
end
end Go.Sep
namespace Go.Sep
open Go
section
variable {P:Program}
theorem eqIn_nilNil {t:TypeId} {ps rs:Array TypeId} {vr:Bool} [h:TyD P t (.func ps rs vr)] {w:World} (d:Nat):(Op.equalIn (d + 1) t .nilFunc .nilFunc).run P w = .ok true w:=by
 simp [Op.equalIn,h.run_und]
theorem run_eqGuard_nilNil {t:TypeId} {op:BinOp} {xo yo:Operand} {w:World}:(eqGuard op t xo yo .nilFunc .nilFunc).run P w = .ok () w:=by
 unfold eqGuard;cases op <;> rfl
instance BinRun.eqNilNil {t:TypeId} {ps rs:Array TypeId} {vr:Bool} [h:TyD P t (.func ps rs vr)]:BinRun P .eql t .nilFunc .nilFunc (.bool true):=⟨fun xo yo w=>by
 rw [Sem.run_bind,run_eqGuard_nilNil,Result.andThen_ok]
 exact run_eql rfl fun d=>eqIn_nilNil d⟩
end
end Go.Sep
namespace Go.Proofs.YtkoelgkghijgiaaGreat
open Go Go.Sep Go.Proofs Go.Proofs.Tryz
set_option maxRecDepth 10000
set_option maxHeartbeats 40000000
set_option synthInstance.maxSize 2000
def runB (c:Cf) (node life:Int):Bool:=decide (2 ≤ node ∧ node < 2 + c.runners ∧ 1 ≤ life ∧ life ≤ 1099511627776)
theorem runner_no (xb lb tb cb mb db wb sb:Nat) (c:Cf) (hc:CfOk c) (tv:Value) (dead:Bool) (node life:Int) (hn:runB c node life = false) :
  Con prog 47 #[ptr xb,.agg [.int .i64 node,.int .i64 life].toArray] [CoB xb lb tb cb mb db wb sb c tv dead] fun v A=>v = .bool false ∧ A = [CoB xb lb tb cb mb db wb sb c tv dead]:=by
 obtain ⟨⟨a1,a2⟩,_⟩:=id hc
 have hn:¬ (2 ≤ node ∧ node < 2 + c.runners ∧ 1 ≤ life ∧ life ≤ 1099511627776):=of_decide_eq_false hn
 refine zqI (vs:=[_,_]) func47 ntmps47 fun B=>?_
 by_cases h1:2 ≤ node
 ·by_cases h2:node < 2 + c.runners
  ·by_cases h3:1 ≤ life
   ·have h4:¬ life ≤ 1099511627776:=fun q=>hn ⟨h1,h2,h3,q⟩
    repeat' (first|refine zs1 ?_|refine Ops.box rfl rfl rfl rfl (noPd rfl) (fun b=>?_))
    refine zdr [qz 0,qy 1,qz 2,qz 3,qz 4,qy 5,qz 6,qz 7,qz 8,qz 9,qy 10,qz 11,qz 12,qz 13,qz 14,qz 15,qy 16,qz 17,qz 18,qz 19,qz 20,qy 21,qz 22,qz 23,qz 24] ?_
    refine zg12 ?_
    exact Cd.ret (ret1 (A':=[CoB xb lb tb cb mb db wb sb c tv dead]) rfl (Res.tmp rfl) (fun _ h=>h.split) ⟨by rw [decide_eq_false h4],rfl⟩)
   ·repeat' (first|refine zs1 ?_|refine Ops.box rfl rfl rfl rfl (noPd rfl) (fun b=>?_))
    refine zdr [qz 0,qy 1,qz 2,qz 3,qz 4,qy 5,qz 6,qz 7,qz 8,qz 9,qy 10,qz 11,qz 12,qz 13,qz 14,qz 15,qy 16,qz 17,qz 18,qz 19,qz 20,qy 21,qz 22,qz 23,qz 24] ?_
    refine zg12 ?_
    exact ze78
  ·repeat' (first|refine zs1 ?_|refine Ops.box rfl rfl rfl rfl (noPd rfl) (fun b=>?_))
   refine zdr [qz 0,qy 1,qz 2,qz 3,qz 4,qy 5,qz 6,qz 7,qz 8,qz 9,qy 10,qz 11,qz 12,qz 13,qz 14,qz 15,qy 16,qz 17,qz 18,qz 19,qz 20,qy 21,qz 22,qz 23,qz 24] ?_
   refine zg12 ?_
   exact ze78
 ·repeat' (first|refine zs1 ?_|refine Ops.box rfl rfl rfl rfl (noPd rfl) (fun b=>?_))
  refine zdr [qz 0,qy 1,qz 2,qz 3,qz 4,qy 5,qz 6,qz 7,qz 8,qz 9,qy 10,qz 11,qz 12,qz 13,qz 14,qz 15,qy 16,qz 17,qz 18,qz 19,qz 20,qy 21,qz 22,qz 23,qz 24] ?_
  refine zg11 ?_
  exact ze78
theorem does_request (xb:Nat) (node life:Int) (m:Ms) (hm:m.kind = 2 ∨ m.kind = 3 ∨ m.kind = 4):Con prog 48 #[.agg (heV xb node life m).toArray] [] fun v A=>v = .func (.func 86) [.agg (heV xb node life m).toArray].toArray #[] ∧ A = []:=by
 refine zqI (vs:=[_]) func48 ntmps48 fun B=>?_
 have h1:¬ m.kind = 1:=by omega
 by_cases h2:m.kind = 2
 ·repeat' (first|refine zs5 ?_|refine Ops.box rfl rfl rfl rfl (noPd rfl) (fun b=>?_))
  exact ze9
 ·by_cases h3:m.kind = 3
  ·repeat' (first|refine zs5 ?_|refine Ops.box rfl rfl rfl rfl (noPd rfl) (fun b=>?_))
   exact ze9
  ·have h4:m.kind = 4:=by omega
   repeat' (first|refine zs5 ?_|refine Ops.box rfl rfl rfl rfl (noPd rfl) (fun b=>?_))
   exact ze9
theorem does_chunk (xb:Nat) (node life:Int) (m:Ms) (hm:m.kind = 5):Con prog 48 #[.agg (heV xb node life m).toArray] [] fun v A=>v = .func (.func 87) [.agg (heV xb node life m).toArray].toArray #[] ∧ A = []:=by
 refine zqI (vs:=[_]) func48 ntmps48 fun B=>?_
 have h1:¬ m.kind = 1:=by omega
 have h2:¬ m.kind = 2:=by omega
 have h3:¬ m.kind = 3:=by omega
 have h4:¬ m.kind = 4:=by omega
 repeat' (first|refine zs5 ?_|refine Ops.box rfl rfl rfl rfl (noPd rfl) (fun b=>?_))
 exact ze9
theorem does_none (xb:Nat) (node life:Int) (m:Ms) (hm:¬ (1 ≤ m.kind ∧ m.kind ≤ 5)):Con prog 48 #[.agg (heV xb node life m).toArray] [] fun v A=>v = .nilFunc ∧ A = []:=by
 refine zqI (vs:=[_]) func48 ntmps48 fun B=>?_
 have h1:¬ m.kind = 1:=by omega
 have h2:¬ m.kind = 2:=by omega
 have h3:¬ m.kind = 3:=by omega
 have h4:¬ m.kind = 4:=by omega
 have h5:¬ m.kind = 5:=by omega
 repeat' (first|refine zs5 ?_|refine Ops.box rfl rfl rfl rfl (noPd rfl) (fun b=>?_))
 exact ze9
@[reducible] def HrB (dx xx fx sx xb:Nat) (data:ByteArray) (node life:Int) (said:Value):List Blk:=[(dx,cl [.string data] 9),(xx,cl [ptr xb] 26),(fx,cl [.int .i64 node,.int .i64 life] 33),(sx,cl [said] 44)]
theorem hear1_no (B0:Base) (xb lb tb cb mb db wb sb:Nat) (c:Cf) (hc:CfOk c) (tv:Value) (dead:Bool) (node life:Int) (data:ByteArray) (hsz:data.size < 9223372036854775808) (m:Ms) (e:Int) (hdec:decF data = (m,e))
  (hno:e ≠ 0 ∨ runB c node life = false ∨ ¬ (1 ≤ m.kind ∧ m.kind ≤ 5)) (dx xx fx sx:Nat) :
  ConB prog B0 45 #[ptr dx,ptr xx,ptr fx,ptr sx] (CoB xb lb tb cb mb db wb sb c tv dead :: HrB dx xx fx sx xb data node life (.slice none 0 0)) fun v A=>A = CoB xb lb tb cb mb db wb sb c tv dead :: HrB dx xx fx sx xb data node life (.slice none 0 0):=by
 refine zqJ (vs:=[_,_,_,_]) func45 ntmps45 fun B hB=>?_
 refine zg1 ?_
 refine zqB (wdecode_spec B0 data hsz) hB fun v A' hR=>?_
 rw [hdec] at hR
 obtain ⟨rfl,rfl⟩:=hR
 dsimp only
 by_cases he:e = 0
 ·by_cases hr:runB c node life = true
  ·have hk:¬ (1 ≤ m.kind ∧ m.kind ≤ 5):=by
    rcases hno with q|q|q
    ·exact absurd he q
    ·rw [hr] at q;cases q
    ·exact q
   obtain ⟨r1,r2,r3,r4⟩:2 ≤ node ∧ node < 2 + c.runners ∧ 1 ≤ life ∧ life ≤ 1099511627776:=of_decide_eq_true hr
   clear hno
   repeat' (first|refine Cd.seq ?_|refine Cd.reg ?_|refine Ops.mv rfl rfl rfl rfl ?_|refine Ops.asg rfl rfl rfl rfl ?_|refine Ops.ld1 rfl rfl rfl rfl rfl ?_|refine Ops.ldN rfl rfl rfl rfl ?_|refine Ops.bin rfl rfl rfl rfl rfl ?_|refine Ops.ext rfl rfl rfl rfl rfl ?_|refine Ops.alloc rfl rfl rfl (noPd rfl) (fun b=>?_)|refine Ops.stN rfl rfl rfl rfl rfl rfl (noPd rfl) ?_|((fail_if_success refine Ops.probe rfl ?_);refine Ops.gF rfl rfl zp0 ?_))
   rename Nat=>mx
   refine zqA (runner_yes xb lb tb cb mb db wb sb c hc tv dead node life r1 r2 r3 r4) fun v A' hR=>?_
   obtain ⟨rfl,rfl⟩:=hR
   repeat' (first|refine zs4 ?_|refine Ops.alloc rfl rfl rfl (noPd rfl) (fun b=>?_))
   rename Nat=>yx
   refine zqA (does_none xb node life m hk) fun v A' hR=>?_
   obtain ⟨rfl,rfl⟩:=hR
   refine zg6 ?_
   exact ze79
  ·rw [Bool.not_eq_true] at hr
   clear hno
   repeat' (first|refine Cd.seq ?_|refine Cd.reg ?_|refine Ops.mv rfl rfl rfl rfl ?_|refine Ops.asg rfl rfl rfl rfl ?_|refine Ops.ld1 rfl rfl rfl rfl rfl ?_|refine Ops.ldN rfl rfl rfl rfl ?_|refine Ops.bin rfl rfl rfl rfl rfl ?_|refine Ops.ext rfl rfl rfl rfl rfl ?_|refine Ops.alloc rfl rfl rfl (noPd rfl) (fun b=>?_)|refine Ops.stN rfl rfl rfl rfl rfl rfl (noPd rfl) ?_|((fail_if_success refine Ops.probe rfl ?_);refine Ops.gF rfl rfl zp0 ?_))
   rename Nat=>mx
   refine zqA (runner_no xb lb tb cb mb db wb sb c hc tv dead node life hr) fun v A' hR=>?_
   obtain ⟨rfl,rfl⟩:=hR
   refine zg4 ?_
   exact ze79
 ·clear hno
  repeat' (first|refine Cd.seq ?_|refine Cd.reg ?_|refine Ops.nil ?_|refine Ops.mv rfl rfl rfl rfl ?_|refine Ops.asg rfl rfl rfl rfl ?_|refine Ops.bin rfl rfl rfl rfl rfl ?_|refine Ops.pickT rfl rfl rfl rfl rfl ?_|refine Ops.ext rfl rfl rfl rfl rfl ?_|refine Ops.alloc rfl rfl rfl (noPd rfl) (fun b=>?_)|refine Ops.stN rfl rfl rfl rfl rfl rfl (noPd rfl) ?_|refine Ops.gSkip rfl rfl rfl ?_|refine Cd.condT rfl rfl ?_|((fail_if_success refine Ops.probe rfl ?_);refine Ops.gT rfl rfl zp0 ?_))
  exact ze79
def SaidR (node life:Int) (reply:ByteArray) (said:Value) (J:List Blk):Prop:=(reply = ⟨#[]⟩ ∧ said = .slice none 0 0 ∧ J = []) ∨ (reply ≠ ⟨#[]⟩ ∧ ∃ g,said = .slice (some ⟨g,0,none⟩) 1 1 ∧ J = [(g,cl (dgV 0 0 0 node life reply) 101)])
theorem hear1_act (B0:Base) (xb lb tb cb mb db wb sb:Nat) (c:Cf) (hc:CfOk c) (tv:Value) (dead:Bool) (CA:List Blk) (node life:Int) (hr:runB c node life = true) (data:ByteArray) (hsz:data.size < 9223372036854775808) (m:Ms) (hdec:decF data = (m,0))
  (f:FuncId) [FnOk prog f] (hdoes:Con prog 48 #[.agg (heV xb node life m).toArray] [] fun v A=>v = .func (.func f) [.agg (heV xb node life m).toArray].toArray #[] ∧ A = []) (R:ByteArray → List Blk → Prop)
  (hh:ConB prog B0 f #[.agg (heV xb node life m).toArray] (CoB xb lb tb cb mb db wb sb c tv dead :: CA) fun v A=>∃ reply,v = .string reply ∧ R reply A) (dx xx fx sx:Nat) :
  ConB prog B0 45 #[ptr dx,ptr xx,ptr fx,ptr sx] (CoB xb lb tb cb mb db wb sb c tv dead :: (CA ++ HrB dx xx fx sx xb data node life (.slice none 0 0)))
   fun v A=>∃ reply A1 said J,R reply A1 ∧ SaidR node life reply said J ∧ A = A1 ++ ((sx,cl [said] 44) :: J):=by
 obtain ⟨r1,r2,r3,r4⟩:2 ≤ node ∧ node < 2 + c.runners ∧ 1 ≤ life ∧ life ≤ 1099511627776:=of_decide_eq_true hr
 refine zqJ (vs:=[_,_,_,_]) func45 ntmps45 fun B hB=>?_
 refine zg1 ?_
 refine zqB (wdecode_spec B0 data hsz) hB fun v A' hR=>?_
 rw [hdec] at hR
 obtain ⟨rfl,rfl⟩:=hR
 dsimp only
 repeat' (first|refine zs3 ?_|refine Ops.alloc rfl rfl rfl (noPd rfl) (fun b=>?_))
 rename Nat=>mx
 refine zqA (runner_yes xb lb tb cb mb db wb sb c hc tv dead node life r1 r2 r3 r4) fun v A' hR=>?_
 obtain ⟨rfl,rfl⟩:=hR
 repeat' (first|refine zs4 ?_|refine Ops.alloc rfl rfl rfl (noPd rfl) (fun b=>?_))
 rename Nat=>yx
 refine Ops.call hdoes rfl (noPd rfl) rfl rfl rfl (fun v A' hR=>?_)
 obtain ⟨rfl,rfl⟩:=hR
 refine zg4 ?_
 refine Ops.callVB (fi:=[.agg (heV xb node life m).toArray]) (ca:=[]) (vs:=[]) hh hB rfl (noPd rfl) rfl rfl rfl rfl (fun v A' hR=>?_)
 obtain ⟨reply,rfl,hR⟩:=hR
 by_cases hrep:reply = ⟨#[]⟩
 ·refine zg2 ?_
  exact Cd.ret (ret0 (A':=A' ++ ((sx,cl [.slice none 0 0] 44) :: [])) rfl (fun _ h=>h.split) ⟨reply,A',_,[],hR,.inl ⟨hrep,rfl,rfl⟩,rfl⟩)
 ·repeat' (first|refine zs4 ?_|refine Ops.bs1 rfl rfl rfl rfl rfl rfl rfl (noPd rfl) (fun b=>?_))
  rename Nat=>g
  exact Ops.nilN (end0 (A':=A' ++ ((sx,cl [.slice (some ⟨g,0,none⟩) 1 1] 44) :: [(g,cl (dgV 0 0 0 node life reply) 101)])) rfl (fun _ h=>h.split) ⟨reply,A',_,_,hR,.inr ⟨hrep,g,rfl,rfl⟩,rfl⟩)
theorem cloneT_nil:Con prog 77 #[.slice none 0 0] [] fun v A=>v = .slice none 0 0 ∧ A = []:=by
 refine zqI (vs:=[_]) func77 ntmps77 fun B=>?_
 refine zg6 ?_
 exact ze9
theorem ctold_spec (xb lb tb cb mb db wb sb:Nat) (c:Cf) (dead:Bool) (tv:Value) (tl:List Cg) (TG:List Blk) (hT:OwnC tv tl TG) (htl:tl.length ≤ 1000000000) (hnil:∀ g ∈ tl,g.a = none ∧ g.c.txs = [] ∧ g.k = 0) :
  Con prog 38 #[ptr xb] (CoB xb lb tb cb mb db wb sb c tv dead :: TG) fun v A=>∃ a,v = .slice a tl.length tl.length ∧ A = CoB xb lb tb cb mb db wb sb c (.slice none 0 0) dead :: TG ∧ Rs 103 10 (.slice a tl.length tl.length) (tl.map Cg.row) TG:=by
 obtain ⟨ta,tc,rfl⟩:=hT.form
 have hcut:=own_cut hT
 refine zqI (vs:=[_]) func38 ntmps38 fun B=>?_
 refine zg1 ?_
 refine Cd.loopK (σ:=Nat) (fun i=>i ≤ tl.length) (fun i=>[(3,.slice ta tl.length tc),(13,.int .i64 ((tl.length:Nat):Int)),(14,.int .i64 ((i:Nat):Int))]) (fun _=>CoB xb lb tb cb mb db wb sb c (.slice none 0 0) dead :: TG) (fun i=>tl.length - i) 0 (Nat.zero_le _) ⟨rfl,rfl,rfl,trivial⟩ (fun w h=>h.split) (fun i hi=>?_)
 by_cases hlt:i < tl.length
 ·have hlt':((i:Nat):Int) < ((tl.length:Nat):Int):=by omega
  obtain ⟨g,hg⟩:∃ g,tl[i]? = some g:=⟨_,List.getElem?_eq_getElem hlt⟩
  obtain ⟨e1,e2,e3⟩:=hnil g (List.mem_of_getElem? hg)
  have hok:=hT.1
  obtain ⟨gb,c',sp,hsv,rfl,hsp,hle⟩:=Own.some_ hT (by rw [List.length_map];omega)
  injection hsv with q1 q2 q3
  subst q1
  have hgr:g.row = [.int .i64 g.c.kind,.int .i64 g.c.n,.int .i64 g.c.job,.int .i64 g.c.badge,.int .i64 g.c.slot,.int .i64 g.c.life,.int .i64 g.c.rcode,.int .u64 g.c.rbits,.string g.c.prog,.slice none 0 0]:=by
   rw [show g.row = g.c.row g.a g.k from rfl,e1,e3,Ch.row,e2];rfl
  have hg1:(tl.map Cg.row)[i]? = some g.row:=by rw [List.getElem?_map,hg];rfl
  have hset:(tl.map Cg.row).set i (([.int .i64 g.c.kind,.int .i64 g.c.n,.int .i64 g.c.job,.int .i64 g.c.badge,.int .i64 g.c.slot,.int .i64 g.c.life,.int .i64 g.c.rcode,.int .u64 g.c.rbits,.string g.c.prog,.slice none 0 0]:List Value).set 9 (.slice none 0 0)) = tl.map Cg.row:=by
   rw [show ([.int .i64 g.c.kind,.int .i64 g.c.n,.int .i64 g.c.job,.int .i64 g.c.badge,.int .i64 g.c.slot,.int .i64 g.c.life,.int .i64 g.c.rcode,.int .u64 g.c.rbits,.string g.c.prog,.slice none 0 0]:List Value).set 9 (.slice none 0 0) = g.row from hgr.symm]
   obtain ⟨q4,q5⟩:=List.getElem?_eq_some_iff.1 hg1
   rw [← q5];exact List.set_getElem_self q4
  have hrow:(tl.map Cg.row)[((i:Nat):Int).toNat]? = some [.int .i64 g.c.kind,.int .i64 g.c.n,.int .i64 g.c.job,.int .i64 g.c.badge,.int .i64 g.c.slot,.int .i64 g.c.life,.int .i64 g.c.rcode,.int .u64 g.c.rbits,.string g.c.prog,.slice none 0 0]:=by rw [Int.toNat_natCast,hg1,hgr]
  refine zg10 ?_
  refine Ops.call cloneT_nil rfl (noPd rfl) rfl rfl rfl (fun v A' hR=>?_)
  obtain ⟨rfl,rfl⟩:=hR
  refine Ops.call (clipT_spec none 0 0 (Nat.le_refl _)) rfl (noPd rfl) rfl rfl rfl (fun v A' hR=>?_)
  obtain ⟨rfl,rfl⟩:=hR
  refine zg14 ?_
  refine Ops.stRow1 (i:=i) (o:=9) (r:=[.int .i64 g.c.kind,.int .i64 g.c.n,.int .i64 g.c.job,.int .i64 g.c.badge,.int .i64 g.c.slot,.int .i64 g.c.life,.int .i64 g.c.rcode,.int .u64 g.c.rbits,.string g.c.prog,.slice none 0 0]) rfl rfl rfl rfl rfl hok hrow rfl (noPd rfl) ?_
  rw [hset]
  refine zg9 ?_
  exact Ops.nilN (round_end (i + 1:Nat) (by show i + 1 ≤ tl.length;omega) (by show tl.length - (i + 1) < tl.length - i;omega) ⟨rfl,rfl,rfl,trivial⟩ (fun w h=>h.split))
 ·have hlt':¬ ((i:Nat):Int) < ((tl.length:Nat):Int):=by omega
  refine zg2 ?_
  refine Ops.slHM rfl rfl rfl rfl rfl (by omega) (by omega) (by omega) rfl ?_
  rw [Int.toNat_natCast]
  refine zg0 ?_
  exact Cd.ret (ret1 (A':=CoB xb lb tb cb mb db wb sb c (.slice none 0 0) dead :: TG) rfl (Res.tmp rfl) (fun _ h=>h.split) ⟨ta,rfl,rfl,hcut.2⟩)
theorem tick1_nil (B0:Base) (xb lb lm tb cb mb db wb sb:Nat) (c:Cf) (hc:CfOk c) (dead:Bool) (tv:Value) (bx:Nat) :
  ConB prog B0 70 #[ptr bx] (CoB xb lb tb cb mb db wb sb c tv dead :: (Ls.TB lb lm c.lease [] 0 ++ [(bx,cl [ptr xb] 26)])) fun v A=>∃ lb1 lm1 es ck,A = CoB xb lb1 tb cb mb db wb sb c tv dead :: (Ls.TB lb1 lm1 c.lease es ck ++ [(bx,cl [ptr xb] 26)]) ∧ Ls.TOk c.lease [] es ck:=by
 obtain ⟨_,⟨b1,b2⟩,_⟩:=id hc
 refine zqJ (vs:=[_]) func70 ntmps70 fun B hB=>?_
 refine zg1 ?_
 refine zqA (Ls.clone_spec lb lm c.lease [] 0) fun v A' hR=>?_
 obtain ⟨lb1,lm1,rfl,rfl⟩:=hR
 refine zg0 ?_
 refine zqA (Ls.tick_spec lb1 lm1 c.lease [] [] 0 (Ls.TOk.new b1 b2)) fun v A' hR=>?_
 obtain ⟨es,ck,G,hrs,rfl,hok⟩:=hR
 obtain ⟨ra,rc,rfl⟩:=Rs.form hrs
 rw [show (List.map Ls.LE.row (Ls.overF [])).length = 0 from rfl]
 clear hrs
 refine zg1 ?_
 refine Cd.loopK (σ:=Unit) (fun _=>True) (fun _=>[(0,ptr bx),(1,ptr lb1),(2,.slice ra 0 rc),(3,.slice none 0 0),(17,.int .i64 0),(18,.int .i64 0)]) (fun _=>CoB xb lb tb cb mb db wb sb c tv dead :: (Ls.TB lb1 lm1 c.lease es ck ++ [(bx,cl [ptr xb] 26)])) (fun _=>0) () trivial ⟨rfl,rfl,rfl,rfl,rfl,rfl,trivial⟩ (fun w h=>h.split) (fun _ _=>?_)
 refine zg7 ?_
 refine zqB (makes_nil B0 xb none 0) hB fun v A' hR=>?_
 subst hR
 refine zg1 ?_
 refine Cd.loopK (σ:=Unit) (fun _=>True) (fun _=>[(38,.int .i64 0),(39,.int .i64 0)]) (fun _=>CoB xb lb1 tb cb mb db wb sb c tv dead :: (Ls.TB lb1 lm1 c.lease es ck ++ [(bx,cl [ptr xb] 26)])) (fun _=>0) () trivial ⟨rfl,rfl,trivial⟩ (fun w h=>h.split) (fun _ _=>?_)
 refine zg7 ?_
 exact ze61
theorem tick_nil (B0:Base) (xb lb lm tb cb mb db wb sb:Nat) (c:Cf) (hc:CfOk c) (tv:Value) (x:Dk) (k:Nat) (D:List Blk) (hD:DkA db x k D) (hde:x.de = false) :
  ConB prog B0 32 #[ptr xb] (CoB xb lb tb cb mb db wb sb c tv false :: (D ++ Ls.TB lb lm c.lease [] 0)) fun v A=>v = .int .i64 0 ∧ ∃ lb1 lm1 es ck,A = CoB xb lb1 tb cb mb db wb sb c tv false :: (D ++ Ls.TB lb1 lm1 c.lease es ck) ∧ Ls.TOk c.lease [] es ck:=by
 refine zqJ (vs:=[_]) func32 ntmps32 fun B hB=>?_
 repeat' (first|refine zs0 ?_|refine Ops.box rfl rfl rfl rfl (noPd rfl) (fun b=>?_))
 rename Nat=>bx
 have hd:ConB prog B0 70 [ptr bx].toArray (CoB xb lb tb cb mb db wb sb c tv false :: (D ++ (Ls.TB lb lm c.lease [] 0 ++ [(bx,cl [ptr xb] 26)]))) fun v A=>∃ lb1 lm1 es ck,A = (CoB xb lb1 tb cb mb db wb sb c tv false :: (Ls.TB lb1 lm1 c.lease es ck ++ [(bx,cl [ptr xb] 26)])) ++ D ∧ Ls.TOk c.lease [] es ck :=
  (((tick1_nil B0 xb lb lm tb cb mb db wb sb c hc false tv bx).beside (F:=D)).mono fun v A hR=>by
   obtain ⟨A2,⟨lb1,lm1,es,ck,rfl,h2⟩,rfl⟩:=hR
   exact ⟨lb1,lm1,es,ck,rfl,h2⟩).permIn (List.Perm.cons _ List.perm_append_comm)
 refine Ops.callB (caught_calm B0 xb lb tb cb mb db wb sb c tv x k D hD hde _ 70 [ptr bx] _ hd) hB rfl (noPd rfl) rfl rfl rfl (fun v A' hR=>?_)
 obtain ⟨rfl,v0,lb1,lm1,es,ck,rfl,hok⟩:=hR
 refine zg0 ?_
 exact Cd.ret (ret1 (A':=CoB xb lb1 tb cb mb db wb sb c tv false :: (D ++ Ls.TB lb1 lm1 c.lease es ck)) rfl (Res.tmp rfl) (fun _ h=>h.split) ⟨rfl,lb1,lm1,es,ck,rfl,hok⟩)
end Go.Proofs.YtkoelgkghijgiaaGreat
namespace Go.Proofs.YtkoelgkghijgiaaGreat
open Go Go.Sep Go.Proofs
set_option maxRecDepth 10000
set_option maxHeartbeats 40000000
set_option synthInstance.maxSize 2000
end Go.Proofs.YtkoelgkghijgiaaGreat
namespace Go.Proofs.YtkoelgkghijgiaaGreat
open Go Go.Sep Go.Proofs Go.Proofs.Tryz
set_option maxRecDepth 10000
set_option maxHeartbeats 40000000
set_option synthInstance.maxSize 2000
theorem hear_no (B0:Base) (xb lb tb cb mb db wb sb:Nat) (c:Cf) (hc:CfOk c) (tv:Value) (x:Dk) (k:Nat) (D:List Blk) (hD:DkA db x k D) (hde:x.de = false) (node life:Int) (data:ByteArray) (hsz:data.size < 9223372036854775808) (m:Ms) (e:Int) (hdec:decF data = (m,e))
  (hno:e ≠ 0 ∨ runB c node life = false ∨ ¬ (1 ≤ m.kind ∧ m.kind ≤ 5)) :
  ConB prog B0 13 #[ptr xb,.agg [.int .i64 node,.int .i64 life].toArray,.string data] (CoB xb lb tb cb mb db wb sb c tv false :: D) fun v A=>v = .tuple #[.slice none 0 0,.int .i64 0] ∧ A = CoB xb lb tb cb mb db wb sb c tv false :: D:=by
 refine zqJ (vs:=[_,_,_]) func13 ntmps13 fun B hB=>?_
 repeat' (first|refine zs0 ?_|refine Ops.box rfl rfl rfl rfl (noPd rfl) (fun b=>?_)|refine Ops.alloc rfl rfl rfl (noPd rfl) (fun b=>?_))
 rename_i xx fx dx
 rename Nat=>sx
 have hd:ConB prog B0 45 [ptr dx,ptr xx,ptr fx,ptr sx].toArray (CoB xb lb tb cb mb db wb sb c tv false :: (D ++ HrB dx xx fx sx xb data node life (.slice none 0 0))) fun v A=>A = CoB xb lb tb cb mb db wb sb c tv false :: (D ++ HrB dx xx fx sx xb data node life (.slice none 0 0)):=by
  have h:=(hear1_no B0 xb lb tb cb mb db wb sb c hc tv false node life data hsz m e hdec hno dx xx fx sx).beside (F:=D)
  have hp:((CoB xb lb tb cb mb db wb sb c tv false :: (D ++ HrB dx xx fx sx xb data node life (.slice none 0 0))):List Blk).Perm ((CoB xb lb tb cb mb db wb sb c tv false :: HrB dx xx fx sx xb data node life (.slice none 0 0)) ++ D):=List.Perm.cons _ List.perm_append_comm
  refine (h.permIn hp).permOut fun v A' hR=>?_
  obtain ⟨A2,rfl,rfl⟩:=hR
  exact ⟨_,rfl,hp.symm⟩
 refine Ops.callB (caught_calm B0 xb lb tb cb mb db wb sb c tv x k D hD hde _ 45 [ptr dx,ptr xx,ptr fx,ptr sx] _ hd) hB rfl (noPd rfl) rfl rfl rfl (fun v A' hR=>?_)
 obtain ⟨rfl,v0,rfl⟩:=hR
 refine zg7 ?_
 exact Cd.ret (ret2 (A':=CoB xb lb tb cb mb db wb sb c tv false :: D) rfl (Res.tmp rfl) (Res.tmp rfl) (fun _ h=>h.split) ⟨rfl,rfl⟩)
theorem hear_act (B0:Base) (xb lb tb cb mb db wb sb:Nat) (c:Cf) (hc:CfOk c) (tv:Value) (x:Dk) (k:Nat) (D:List Blk) (hD:DkA db x k D) (hde:x.de = false) (F:List Blk) (node life:Int) (hr:runB c node life = true) (data:ByteArray) (hsz:data.size < 9223372036854775808) (m:Ms) (hdec:decF data = (m,0))
  (f:FuncId) [FnOk prog f] (hdoes:Con prog 48 #[.agg (heV xb node life m).toArray] [] fun v A=>v = .func (.func f) [.agg (heV xb node life m).toArray].toArray #[] ∧ A = []) (R:ByteArray → List Blk → Prop)
  (hh:ConB prog B0 f #[.agg (heV xb node life m).toArray] (CoB xb lb tb cb mb db wb sb c tv false :: (D ++ F)) fun v A=>∃ reply,v = .string reply ∧ R reply A) :
  ConB prog B0 13 #[ptr xb,.agg [.int .i64 node,.int .i64 life].toArray,.string data] (CoB xb lb tb cb mb db wb sb c tv false :: (D ++ F))
   fun v A=>∃ reply A1 said J,v = .tuple #[said,.int .i64 0] ∧ R reply A1 ∧ SaidR node life reply said J ∧ A = A1 ++ J:=by
 refine zqJ (vs:=[_,_,_]) func13 ntmps13 fun B hB=>?_
 repeat' (first|refine zs0 ?_|refine Ops.box rfl rfl rfl rfl (noPd rfl) (fun b=>?_)|refine Ops.alloc rfl rfl rfl (noPd rfl) (fun b=>?_))
 rename_i xx fx dx
 rename Nat=>sx
 have hd:=hear1_act B0 xb lb tb cb mb db wb sb c hc tv false (D ++ F) node life hr data hsz m hdec f hdoes R hh dx xx fx sx
 rw [List.append_assoc] at hd
 refine Ops.callB (caught_calm B0 xb lb tb cb mb db wb sb c tv x k D hD hde _ 45 [ptr dx,ptr xx,ptr fx,ptr sx] _ hd) hB rfl (noPd rfl) rfl rfl rfl (fun v A' hR=>?_)
 obtain ⟨rfl,v0,reply,A1,said,J,hR,hs,rfl⟩:=hR
 rcases hs with ⟨e1,rfl,rfl⟩|⟨e1,g,rfl,rfl⟩
 ·refine zg7 ?_
  exact Cd.ret (ret2 (A':=A1 ++ []) rfl (Res.tmp rfl) (Res.tmp rfl) (fun _ h=>h.split) ⟨reply,A1,_,[],rfl,hR,.inl ⟨e1,rfl,rfl⟩,rfl⟩)
 ·refine zg7 ?_
  exact Cd.ret (ret2 (A':=A1 ++ [(g,cl (dgV 0 0 0 node life reply) 101)]) rfl (Res.tmp rfl) (Res.tmp rfl) (fun _ h=>h.split) ⟨reply,A1,_,_,rfl,hR,.inr ⟨e1,g,rfl,rfl⟩,rfl⟩)
end Go.Proofs.YtkoelgkghijgiaaGreat
