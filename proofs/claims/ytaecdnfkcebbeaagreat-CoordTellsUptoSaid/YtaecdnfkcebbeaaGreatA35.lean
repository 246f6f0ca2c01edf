import Derived.Test.YtaecdnfkcebbeaaGreatA01
import Derived.Test.YtaecdnfkcebbeaaGreatA34
set_option linter.unusedVariables false
set_option linter.unusedSimpArgs false
namespace Go.Proofs.YtaecdnfkcebbeaaGreat
open Go Go.Sep Go.Proofs
set_option maxRecDepth 10000
set_option maxHeartbeats 40000000
set_option synthInstance.maxSize 2000
theorem draws_old (xb lb tb cb mb db wb sb:Nat) (c:Cf) (hc:CfOk c) (tv:Value) (dead:Bool) (la re b la1 re1:Int) (h0:0 ≤ re) (h1:re ≤ 1099511627776) (h2:0 ≤ la) (hn:nextB c.block la re = ((b,0,0),la1,re1)) :
  Con Tryz.prog 156 #[ptr xb] [CoB xb lb tb cb mb db wb sb c tv dead,CtB cb c.block la re] fun v A=>v = .tuple #[.int .i64 b,.slice none 0 0,.bool true] ∧ A = [CoB xb lb tb cb mb db wb sb c tv dead,CtB cb c.block la1 re1]:=by
 obtain ⟨_,_,_,_,_,_,⟨g1,g2⟩,_,_⟩:=id hc
 refine Con.intro (vs:=[_]) Tryz.func156 rfl Tryz.ntmps156 rfl (fun B=>?_)
 refine zg4 ?_
 refine Ops.call (bnext_spec cb c.block la re g1 g2 h0 h1 h2) rfl (noPd rfl) rfl rfl rfl (fun v A' hR=>?_)
 rw [hn] at hR
 obtain ⟨rfl,rfl⟩:=hR
 dsimp only
 refine zg19 ?_
 exact Cd.ret (ret3 (A':=[CoB xb lb tb cb mb db wb sb c tv dead,CtB cb c.block la1 re1]) rfl (Res.tmp rfl) (Res.tmp rfl) (Res.tmp rfl) (fun _ h=>h.split) ⟨rfl,rfl⟩)
theorem loose_spec (xb lb lm tb cb mb db wb sb:Nat) (c:Cf) (tv:Value) (dead:Bool) (ls:List Ls.LE) (les:List ME) (lck:Nat) (hL:Ls.TOk c.lease ls les lck) (mes:List ME) (mck_:Nat) (job badge:Int) :
  Con Tryz.prog 232 #[ptr xb,.int .i64 job,.int .i64 badge] (CoB xb lb tb cb mb db wb sb c tv dead :: (Ls.TB lb lm c.lease les lck ++ [(mb,mpo mes mck_)])) fun v A=>∃ les1 lck1,A = CoB xb lb tb cb mb db wb sb c tv dead :: (Ls.TB lb lm c.lease les1 lck1 ++ [(mb,mpo (mdel mes job) mck_)]) ∧ Ls.TOk c.lease (Ls.dropF ls badge).2 les1 lck1:=by
 refine Con.intro (vs:=[_,_,_]) Tryz.func232 rfl Tryz.ntmps232 rfl (fun B=>?_)
 refine zg4 ?_
 refine Ops.call (Ls.drop_spec lb lm c.lease ls les lck badge hL) rfl (noPd rfl) rfl rfl rfl (fun v A' hR=>?_)
 obtain ⟨rfl,les1,lck1,rfl,hL1⟩:=hR
 refine zg28 ?_
 exact Ops.nilN (end0 (A':=CoB xb lb tb cb mb db wb sb c tv dead :: (Ls.TB lb lm c.lease les1 lck1 ++ [(mb,mpo (mdel mes job) mck_)])) rfl (fun _ h=>h.split) ⟨les1,lck1,rfl,hL1⟩)
theorem wnew_int (w:Int) (h1:1 ≤ w) (h2:w ≤ 8) (hv:Nat) (hh:hv ≤ 32):Con Tryz.prog 135 #[.int .i64 w,.int .i64 hv] [] fun v A=>∃ n m,v = .tuple #[ptr n,.int .i64 0] ∧ A = Sw.WB n m w.toNat hv [] 0:=by
 obtain ⟨n,rfl⟩:=Int.eq_ofNat_of_zero_le (show 0 ≤ w by omega)
 exact Sw.new_yes n hv (by omega) (by omega) hh
theorem hold_spec (xb lb lm tb cb mb db wb sb:Nat) (c:Cf) (hc:CfOk c) (tv:Value) (dead:Bool) (ls:List Ls.LE) (les:List ME) (lck:Nat) (hL:Ls.TOk c.lease ls les lck) (mes:List ME) (mck_:Nat) (r:Rw) (hv:Nat) (hh:hv ≤ 32) :
  Con Tryz.prog 84 #[ptr xb,.agg c.row.toArray,.agg r.row.toArray,.int .i64 hv] (CoB xb lb tb cb mb db wb sb c tv dead :: (Ls.TB lb lm c.lease les lck ++ [(mb,mpo mes mck_)])) fun v A=>∃ les1 lck1 wn wm,A = CoB xb lb tb cb mb db wb sb c tv dead :: (Ls.TB lb lm c.lease les1 lck1 ++ (Sw.WB wn wm c.window.toNat hv [] 0 ++ [(mb,mpo (mput mes mck_ r.job (ptr wn)) (mck mes mck_ r.job))])) ∧ Ls.TOk c.lease (Ls.grantF c.lease ls r.job r.badge r.node r.life).2 les1 lck1:=by
 obtain ⟨_,_,_,_,⟨w1,w2⟩,_⟩:=id hc
 have hw:c.window = ((c.window.toNat:Nat):Int):=by omega
 refine Con.intro (vs:=[_,_,_,_]) Tryz.func84 rfl Tryz.ntmps84 rfl (fun B=>?_)
 repeat' (first|refine Cd.seq ?_|refine Cd.reg ?_|refine Ops.box rfl rfl rfl rfl (noPd rfl) (fun b=>?_))
 rename_i cx
 rename Nat=>rx
 refine Cd.draw [(0,0,[]),(1,0,[]),(2,0,[]),(3,1,[]),(4,0,[]),(5,1,[]),(6,0,[]),(7,1,[]),(8,0,[]),(9,1,[]),(10,2,[])] (by kernel_rfl) (by kernel_rfl) (by simp only [picked,nth];exact rfl) ?_
 refine zg9 ?_
 refine Ops.call (Ls.grant_spec lb lm c.lease ls les lck r.job r.badge r.node r.life hL) rfl (noPd rfl) rfl rfl rfl (fun v A' hR=>?_)
 obtain ⟨rfl,les1,lck1,rfl,hL1⟩:=hR
 refine zg7 ?_
 refine Ops.call (wnew_int c.window w1 w2 hv hh) rfl (noPd rfl) rfl rfl rfl (fun v A' hR=>?_)
 obtain ⟨wn,wm,rfl,rfl⟩:=hR
 refine zg5 ?_
 refine Cd.draw [(0,0,[]),(1,0,[]),(2,0,[]),(3,1,[]),(4,0,[]),(5,1,[]),(6,0,[]),(7,2,[])] (by kernel_rfl) (by kernel_rfl) (by simp only [picked,nth];exact rfl) ?_
 refine zg28 ?_
 exact Ops.nilN (end0 (A':=CoB xb lb tb cb mb db wb sb c tv dead :: (Ls.TB lb lm c.lease les1 lck1 ++ (Sw.WB wn wm c.window.toNat hv [] 0 ++ [(mb,mpo (mput mes mck_ r.job (ptr wn)) (mck mes mck_ r.job))]))) rfl (fun _ h=>h.split) ⟨les1,lck1,wn,wm,rfl,hL1⟩)
theorem makes_lent (B0:Base) (xb lb tb cb mb db wb sb:Nat) (c:Cf) (hc:CfOk c) (dead:Bool) (w:Wl) (x:Dk) (len:Nat) (lg:LgOk w x len) (hroom:20480 ≤ roomF len) (hnum:w.h.number + 2 < 1099511627776) (k:Nat) (D:List Blk) (hD:DkA db x k D) (hk:k ≤ 700000000000) (s:StP) (SD:List Blk) (hS:StA sb s SD) (ok:StOk s) (bd:StBd s) (tv:Value) (tl:List Cg) (TG:List Blk) (hT:OwnC tv tl TG) (htl:tl.length ≤ 1000000000)
  (a:Option Addr) (cp:Nat) (l:List Cg) (LB:List Blk) (hC:∀ B1,Ext B0 B1 → Holds B1 LB → CIn B1 a l) (h0:0 < l.length) (hl:l.length ≤ 2000000) (henc:(encodeF (l.map Cg.c)).2 = 0) :
  ConB Tryz.prog B0 45 #[ptr xb,.slice a l.length cp] (CoB xb lb tb cb mb db wb sb c tv dead :: WlB wb db w :: (SD ++ (D ++ (TG ++ LB))))
   fun v A=>∃ SD1 D1 tv1 TG1 k1,A = CoB xb lb tb cb mb db wb sb c tv1 dead :: WlB wb db (mkW c.every w x (bytesS s) (encodeF (l.map Cg.c)).1).1 :: (SD1 ++ (D1 ++ (TG1 ++ LB))) ∧ StA sb (applyF s (l.map Cg.c)).2 SD1 ∧ DkA db (mkW c.every w x (bytesS s) (encodeF (l.map Cg.c)).1).2 k1 D1 ∧ k1 ≤ k + 20000 ∧ OwnC tv1 (tl ++ l) TG1:=by
 rw [show CoB xb lb tb cb mb db wb sb c tv dead :: WlB wb db w :: (SD ++ (D ++ (TG ++ LB))) = (CoB xb lb tb cb mb db wb sb c tv dead :: WlB wb db w :: (SD ++ (D ++ TG))) ++ LB from by simp only [List.cons_append,List.append_assoc]]
 refine ConB.mono (ConB.lend (R:=fun v A=>∃ SD1 D1 tv1 TG1 k1,A = CoB xb lb tb cb mb db wb sb c tv1 dead :: WlB wb db (mkW c.every w x (bytesS s) (encodeF (l.map Cg.c)).1).1 :: (SD1 ++ (D1 ++ TG1)) ∧ StA sb (applyF s (l.map Cg.c)).2 SD1 ∧ DkA db (mkW c.every w x (bytesS s) (encodeF (l.map Cg.c)).1).2 k1 D1 ∧ k1 ≤ k + 20000 ∧ OwnC tv1 (tl ++ l) TG1) fun B1 e hG=>makes_gen B1 xb lb tb cb mb db wb sb c hc dead w x len lg hroom hnum k D hD hk s SD hS ok bd tv tl TG hT htl a cp l (hC B1 e hG) h0 hl henc) (fun v X hR=>?_)
 obtain ⟨A,⟨SD1,D1,tv1,TG1,k1,rfl,q1,q2,q3,q4⟩,rfl⟩:=hR
 exact ⟨SD1,D1,tv1,TG1,k1,by simp only [List.cons_append,List.append_assoc],q1,q2,q3,q4⟩
structure Bare (g:Cg):Prop where
 a:g.a = none
 t:g.c.txs = []
 x:0 ≤ g.c.rbits ∧ g.c.rbits < 18446744073709551616
theorem OwnC.cin {a:Option Addr} {n cp:Nat} {l:List Cg} {LG:List Blk} (h:OwnC (.slice a n cp) l LG) (hb:∀ g ∈ l,Bare g) {B:Base} (hG:Holds B LG):CIn B a l :=
 ⟨Own.rin h hG,fun g hg=>(by rw [(hb g hg).a,(hb g hg).t];exact SIn.nil),fun g hg=>(by rw [(hb g hg).t];exact Nat.zero_le _),fun g hg=>(hb g hg).x⟩
@[reducible] def expC (x:Ls.LE):Ch:=⟨5,0,0,x.badge,0,0,0,0,⟨#[]⟩,[]⟩
def expL (l:List Ls.LE):List Cg:=l.map fun x=>⟨expC x,none,0⟩
theorem expL_bare (l:List Ls.LE):∀ g ∈ expL l,Bare g:=fun g hg=>by
 obtain ⟨x,_,rfl⟩:=List.mem_map.1 hg
 exact ⟨rfl,rfl,by show (0:Int) ≤ 0 ∧ (0:Int) < _;omega⟩
theorem exp_check {x:Ls.LE} (h:1 ≤ x.badge ∧ x.badge ≤ 1099511627776):checkF (expC x) = 0:=by
 unfold checkF
 rw [if_neg (by show ¬ ¬ (1 ≤ (5:Int) ∧ (5:Int) ≤ 6);omega),if_pos]
 have e4:rg4 (expC x) = true:=by
  show rgt true _ (decide (1 ≤ x.badge ∧ x.badge ≤ 1099511627776)) = true
  rw [decide_eq_true h];rfl
 rw [show rg1 (expC x) = true from rfl,show rg2 (expC x) = true from rfl,show rg3 (expC x) = true from rfl,e4,show rg5 (expC x) = true from rfl,show rg6 (expC x) = true from rfl,show rg7 (expC x) = true from rfl]
 rfl
theorem enc_fine {l:List Ch} (h1:1 ≤ l.length) (h2:l.length ≤ 16) (hck:∀ c ∈ l,checkF c = 0) (hsz:(encN l l.length).size ≤ 2048):(encodeF l).2 = 0:=by
 unfold encodeF
 rw [if_neg (by omega)]
 have:(l.find? fun c=>decide (checkF c ≠ 0)) = none:=by
  rw [List.find?_eq_none]
  intro c hc
  simp [hck c hc]
 rw [this]
 dsimp only
 rw [if_neg (by omega)]
theorem encN_le {l:List Ch} {m:Nat} (h:∀ c ∈ l,(putB c).size ≤ m) (hl:l.length < 128):∀ i,(encN l i).size ≤ 1 + i * m
 | 0=>by rw [encN];have:=numB_le (k:=0) (n:=l.length) (by omega);omega
 | i + 1=>by
  have h1:=encN_le h hl i
  rw [encN,ByteArray.size_append,Nat.succ_mul]
  cases hg:l[i]? with
  | none=>dsimp only;rw [show (ByteArray.empty).size = 0 from rfl];omega
  | some c=>have:=h c (List.mem_of_getElem? hg);dsimp only;omega
theorem putB_exp (x:Ls.LE) (h:1 ≤ x.badge ∧ x.badge ≤ 1099511627776):(putB (expC x)).size ≤ 12:=by
 have h1:=numB_le (k:=5) (n:=x.badge.toNat) (by omega)
 have h2:=numB_le (k:=0) (n:=5) (by omega)
 show (numB (5:Int).toNat ++ numB x.badge.toNat).size ≤ 12
 rw [ByteArray.size_append]
 have h3:(numB (5:Int).toNat).size ≤ 1:=h2
 omega
theorem exp_enc {l:List Ls.LE} (h:∀ x ∈ l,1 ≤ x.badge ∧ x.badge ≤ 1099511627776) (h1:1 ≤ l.length) (h8:l.length ≤ 8):(encodeF ((expL l).map Cg.c)).2 = 0:=by
 have hm:(expL l).map Cg.c = l.map expC:=by simp [expL]
 rw [hm]
 refine enc_fine (by simpa using h1) (by simp;omega) (fun c hc=>?_) ?_
 ·obtain ⟨x,hx,rfl⟩:=List.mem_map.1 hc
  exact exp_check (h x hx)
 ·have:=encN_le (l:=l.map expC) (m:=12) (fun c hc=>by
   obtain ⟨x,hx,rfl⟩:=List.mem_map.1 hc
   exact putB_exp x (h x hx)) (by simp;omega) (l.map expC).length
  have h9:(l.map expC).length * 12 ≤ 8 * 12:=Nat.mul_le_mul_right _ (by simpa using h8)
  omega
structure TkS where
 i:Nat
 lv:Value
 LG:List Blk
structure TdS where
 i:Nat
 es:List ME
def delAll (es:List ME) (l:List Ls.LE):List ME:=l.foldl (fun e x=>mdel e x.job) es
theorem tick1_gen (B0:Base) (xb lb lm tb cb mb db wb sb:Nat) (c:Cf) (hc:CfOk c) (dead:Bool) (w:Wl) (x:Dk) (len:Nat) (lg:LgOk w x len) (hroom:20480 ≤ roomF len) (hnum:w.h.number + 2 < 1099511627776) (k:Nat) (D:List Blk) (hD:DkA db x k D) (hk:k ≤ 700000000000) (s:StP) (SD:List Blk) (hS:StA sb s SD) (ok:StOk s) (bd:StBd s) (tv:Value) (tl:List Cg) (TG:List Blk) (hT:OwnC tv tl TG) (htl:tl.length ≤ 1000000000)
  (ls:List Ls.LE) (les:List ME) (lck:Nat) (hL:Ls.TOk c.lease ls les lck) (mes:List ME) (mck_:Nat) (bx:Nat) (hov:Ls.overF ls ≠ []) (hov8:(Ls.overF ls).length ≤ 8) (henc:(encodeF ((expL (Ls.overF ls)).map Cg.c)).2 = 0) :
  ConB Tryz.prog B0 42 #[ptr bx] (CoB xb lb tb cb mb db wb sb c tv dead :: (Ls.TB lb lm c.lease les lck ++ ((mb,mpo mes mck_) :: (bx,cl [ptr xb] 26) :: WlB wb db w :: (SD ++ (D ++ TG)))))
   fun v A=>∃ lb1 lm1 les1 lck1 SD1 D1 tv1 TG1 k1,A = CoB xb lb1 tb cb mb db wb sb c tv1 dead :: (Ls.TB lb1 lm1 c.lease les1 lck1 ++ ((mb,mpo (delAll mes (Ls.overF ls)) mck_) :: (bx,cl [ptr xb] 26) :: WlB wb db (mkW c.every w x (bytesS s) (encodeF ((expL (Ls.overF ls)).map Cg.c)).1).1 :: (SD1 ++ (D1 ++ TG1)))) ∧ Ls.TOk c.lease (Ls.restF ls) les1 lck1 ∧
    StA sb (applyF s ((expL (Ls.overF ls)).map Cg.c)).2 SD1 ∧ DkA db (mkW c.every w x (bytesS s) (encodeF ((expL (Ls.overF ls)).map Cg.c)).1).2 k1 D1 ∧ k1 ≤ k + 20000 ∧ OwnC tv1 (tl ++ expL (Ls.overF ls)) TG1:=by
 refine ConB.intro (vs:=[_]) Tryz.func42 rfl Tryz.ntmps42 rfl (fun B hB=>?_)
 refine zg4 ?_
 refine Ops.call (Ls.clone_spec lb lm c.lease les lck) rfl (noPd rfl) rfl rfl rfl (fun v A' hR=>?_)
 obtain ⟨lb1,lm1,rfl,rfl⟩:=hR
 refine zg0 ?_
 refine Ops.call (Ls.tick_spec lb1 lm1 c.lease ls les lck hL) rfl (noPd rfl) rfl rfl rfl (fun v A' hR=>?_)
 obtain ⟨es1,ck1,G,hrs,rfl,hok⟩:=hR
 generalize hovg:Ls.overF ls = ov at hrs hov hov8 henc ⊢
 obtain ⟨og,oc,osp,rfl,rfl⟩:∃ g c sp,v = .slice (some ⟨g,0,none⟩) ov.length c ∧ G = [(g,cl ((ov.map Ls.LE.row).flatten ++ sp) 122)]:=by
  rcases hrs.2 with ⟨_,q,_⟩|⟨g,c,sp,q1,q2⟩
  ·exact absurd (List.map_eq_nil_iff.1 q) hov
  ·exact ⟨g,c,sp,by rw [q1,List.length_map],q2⟩
 have hokO:=Ls.lrows_ok ov
 clear hrs
 refine zg3 ?_
 refine Cd.loopK (σ:=TkS) (fun t=>t.i ≤ ov.length ∧ OwnC t.lv (expL (ov.take t.i)) t.LG) (fun t=>[(0,ptr bx),(1,ptr lb1),(2,.slice (some ⟨og,0,none⟩) ov.length oc),(3,t.lv),(16,.slice (some ⟨og,0,none⟩) ov.length oc),(17,.int .i64 ov.length),(18,.int .i64 ((t.i:Nat):Int))])
  (fun t=>t.LG ++ (CoB xb lb tb cb mb db wb sb c tv dead :: (Ls.TB lb1 lm1 c.lease es1 ck1 ++ ((og,cl ((ov.map Ls.LE.row).flatten ++ osp) 122) :: (mb,mpo mes mck_) :: (bx,cl [ptr xb] 26) :: WlB wb db w :: (SD ++ (D ++ TG)))))) (fun t=>ov.length - t.i) ⟨0,.slice none 0 0,[]⟩ ⟨Nat.zero_le _,Own.none⟩ ⟨rfl,rfl,rfl,rfl,rfl,rfl,rfl,trivial⟩ (fun w h=>h.split) (fun t ht=>?_)
 obtain ⟨i,lv,LG⟩:=t
 obtain ⟨hi,hO⟩:=ht
 dsimp only at hi hO ⊢
 have hln:(expL (ov.take i)).length = i:=by simp [expL];omega
 obtain ⟨la,lc,rfl⟩:=hO.form
 rw [hln] at hO ⊢
 by_cases hlt:i < ov.length
 ·have hlt':((i:Nat):Int) < ((ov.length:Nat):Int):=by omega
  obtain ⟨y,hy⟩:∃ y,ov[i]? = some y:=⟨_,List.getElem?_eq_getElem hlt⟩
  have hyr:(ov.map Ls.LE.row)[((i:Nat):Int).toNat]? = some y.row:=by rw [Int.toNat_natCast,List.getElem?_map,hy];rfl
  repeat' (first|refine Cd.seq ?_|refine Cd.reg ?_|refine Ops.mv rfl rfl rfl rfl ?_|refine Ops.fa0 rfl rfl rfl rfl ?_|refine Ops.ld1 rfl rfl rfl rfl rfl ?_|refine Ops.bin rfl rfl rfl rfl rfl ?_|refine Ops.bld rfl rfl rfl rfl ?_|refine Ops.alloc rfl rfl rfl (noPd rfl) (fun b=>?_)|refine Ops.bs1 rfl rfl rfl rfl rfl rfl rfl (noPd rfl) (fun b=>?_)|refine Ops.stN rfl rfl rfl rfl rfl rfl (noPd rfl) ?_|refine Cd.block ?_|refine Cd.skip (Cd.next ?_)|refine Ops.ixa0 rfl rfl rfl rfl (by omega) (by omega) rfl ?_|refine Ops.ldRow rfl rfl rfl (by assumption) (by assumption) rfl ?_|refine Cd.condT rfl zp0 ?_)
  refine Ops.app1 (rows:=(expL (ov.take i)).map Cg.row) hO (by rw [List.length_map,hln];omega) (by rw [List.length_map,hln];omega) rfl rfl rfl rfl (by rfl) (by rfl) rfl (noPd rfl) rfl (fun v G' hG'=>?_)
  have hO1:OwnC v (expL (ov.take (i + 1))) G':=by
   unfold OwnC
   rw [show expL (ov.take (i + 1)) = expL (ov.take i) ++ [⟨expC y,none,0⟩] from by rw [List.take_add_one,hy];simp [expL],List.map_append]
   exact hG'
  clear hG'
  obtain ⟨la1,lc1,rfl⟩:=hO1.form
  refine zg18 ?_
  exact Ops.nilN (round_end (⟨i + 1,_,G'⟩:TkS) ⟨by show i + 1 ≤ ov.length;omega,hO1⟩ (by show ov.length - (i + 1) < ov.length - i;omega) ⟨rfl,rfl,rfl,rfl,rfl,rfl,rfl,trivial⟩ (fun w h=>h.split))
 have hlt':¬ ((i:Nat):Int) < ((ov.length:Nat):Int):=by omega
 have he:i = ov.length:=by omega
 subst he
 rw [List.take_length] at hO hln
 have hov0:0 < ov.length:=List.length_pos_iff.2 hov
 have hmk:=makes_lent B0 xb lb tb cb mb db wb sb c hc dead w x len lg hroom hnum k D hD hk s SD hS ok bd tv tl TG hT htl la lc (expL ov) LG (fun B1 e hG=>hO.cin (expL_bare ov) hG) (by rw [hln];omega) (by rw [hln];omega) henc
 rw [hln] at hmk
 refine zg17 ?_
 refine Ops.callB hmk hB rfl (noPd rfl) rfl rfl rfl (fun v A' hR=>?_)
 obtain ⟨SD1,D1,tv1,TG1,k1,rfl,hS1,hD1,hk1,hT1⟩:=hR
 clear hmk
 refine zg7 ?_
 refine Cd.loopK (σ:=Nat) (fun j=>j ≤ ov.length) (fun j=>[(0,ptr bx),(37,.slice (some ⟨og,0,none⟩) ov.length oc),(38,.int .i64 ov.length),(39,.int .i64 ((j:Nat):Int))])
  (fun j=>CoB xb lb1 tb cb mb db wb sb c tv1 dead :: (Ls.TB lb1 lm1 c.lease es1 ck1 ++ ((mb,mpo (delAll mes (ov.take j)) mck_) :: (bx,cl [ptr xb] 26) :: (og,cl ((ov.map Ls.LE.row).flatten ++ osp) 122) :: WlB wb db (mkW c.every w x (bytesS s) (encodeF ((expL ov).map Cg.c)).1).1 :: (SD1 ++ (D1 ++ TG1))))) (fun j=>ov.length - j) 0 (Nat.zero_le _) ⟨rfl,rfl,rfl,rfl,trivial⟩ (fun w_ h=>(h.split:Sat _ (CoB xb lb1 tb cb mb db wb sb c tv1 dead :: (Ls.TB lb1 lm1 c.lease es1 ck1 ++ ((mb,mpo mes mck_) :: (bx,cl [ptr xb] 26) :: (og,cl ((ov.map Ls.LE.row).flatten ++ osp) 122) :: WlB wb db (mkW c.every w x (bytesS s) (encodeF ((expL ov).map Cg.c)).1).1 :: (SD1 ++ (D1 ++ TG1))))) w_)) (fun j hj=>?_)
 by_cases hjl:j < ov.length
 ·have hjl':((j:Nat):Int) < ((ov.length:Nat):Int):=by omega
  obtain ⟨y,hy⟩:∃ y,ov[j]? = some y:=⟨_,List.getElem?_eq_getElem hjl⟩
  have hyr:(ov.map Ls.LE.row)[((j:Nat):Int).toNat]? = some y.row:=by rw [Int.toNat_natCast,List.getElem?_map,hy];rfl
  have hdl:delAll mes (ov.take (j + 1)) = mdel (delAll mes (ov.take j)) y.job:=by
   unfold delAll
   rw [List.take_add_one,hy]
   simp
  repeat' (first|refine Cd.seq ?_|refine Cd.reg ?_|refine Ops.nil ?_|refine Ops.bin rfl rfl rfl rfl rfl ?_|refine Ops.alloc rfl rfl rfl (noPd rfl) (fun b=>?_)|refine Ops.stN rfl rfl rfl rfl rfl rfl (noPd rfl) ?_|refine Cd.block ?_|refine Cd.skip (Cd.next ?_)|refine Ops.ixa0 rfl rfl rfl rfl (by omega) (by omega) rfl ?_|refine Ops.ldRow rfl rfl rfl (by assumption) (by assumption) rfl ?_|refine Cd.condT rfl zp0 ?_)
  refine Cd.draw [(0,1,[]),(1,0,[]),(2,0,[]),(3,0,[]),(4,1,[]),(5,0,[]),(6,1,[]),(7,2,[])] (by kernel_rfl) (by kernel_rfl) (by simp only [picked,nth];exact rfl) ?_
  refine zg23 ?_
  exact Ops.nilN (round_end (j + 1:Nat) (by show j + 1 ≤ ov.length;omega) (by show ov.length - (j + 1) < ov.length - j;omega) ⟨rfl,rfl,rfl,rfl,trivial⟩ (fun w_ h=>by rw [hdl];exact h.split))
 have hjl':¬ ((j:Nat):Int) < ((ov.length:Nat):Int):=by omega
 have hje:j = ov.length:=by omega
 subst hje
 rw [List.take_length]
 refine zg17 ?_
 exact Cd.exit (inTx (roundX (inBs (end0 (A':=CoB xb lb1 tb cb mb db wb sb c tv1 dead :: (Ls.TB lb1 lm1 c.lease es1 ck1 ++ ((mb,mpo (delAll mes ov) mck_) :: (bx,cl [ptr xb] 26) :: WlB wb db (mkW c.every w x (bytesS s) (encodeF ((expL ov).map Cg.c)).1).1 :: (SD1 ++ (D1 ++ TG1))))) rfl (fun _ h=>h.split) ⟨lb1,lm1,es1,ck1,SD1,D1,tv1,TG1,k1,rfl,hok,hS1,hD1,hk1,hT1⟩))))
theorem poll_none (B0:Base) (xb lb tb cb mb db wb sb:Nat) (c:Cf) (tv:Value) (dead:Bool) (node life:Int) (m:Ms) (mx:Nat) (q:Ms) (s:StP) (SD:List Blk) (hD:StA sb s SD) (ok:StOk s) (hh:headF18 s.rows = 0) :
  ConB Tryz.prog B0 160 #[.agg (heV xb node life m).toArray,ptr mx] (CoB xb lb tb cb mb db wb sb c tv dead :: MgB mx q.row :: SD) fun v A=>A = CoB xb lb tb cb mb db wb sb c tv dead :: MgB mx ({ q with kind:=10 }:Ms).row :: SD:=by
 obtain ⟨qb,rv,RG,pv,PG,lv,LG,ls,rfl,y1,y2,y3,y4,y5⟩:=hD
 obtain ⟨ra,rc,rfl⟩:=y1.form
 refine ConB.intro (vs:=[_,_]) Tryz.func160 rfl Tryz.ntmps160 rfl (fun B hB=>?_)
 repeat' (first|refine Cd.seq ?_|refine Cd.reg ?_|refine Ops.mv rfl rfl rfl rfl ?_|refine Ops.nilP rfl rfl rfl rfl ?_|refine Ops.fa0 rfl rfl rfl rfl ?_|refine Ops.ld1 rfl rfl rfl rfl rfl ?_|refine Ops.box rfl rfl rfl rfl (noPd rfl) (fun b=>?_)|refine Ops.st1 rfl rfl rfl rfl rfl (noPd rfl) ?_)
 refine Ops.callB (qhead_spec B0 qb s.att ra rc s.rows RG y1 ok.nr) hB rfl (noPd rfl) rfl rfl rfl (fun v A' hR=>?_)
 rw [hh] at hR
 obtain ⟨rfl,rfl⟩:=hR
 refine zg5 ?_
 exact Cd.ret (ret0 (A':=CoB xb lb tb cb mb db wb sb c tv dead :: MgB mx ({ q with kind:=10 }:Ms).row :: StB sb qb s.res pv lv :: QuB qb s.att (.slice ra s.rows.length rc) :: (RG ++ (PG ++ (LG ++ ls.flatMap Lg.G)))) rfl (fun _ h=>h.split) rfl)
@[reducible] def grantC (job bg slot life:Int):Ch:=⟨3,0,job,bg,slot,life,0,0,⟨#[]⟩,[]⟩
def resL (rs:Int):List Cg:=if rs = 0 then [] else [⟨Ch.res rs,none,0⟩]
def pollL (rs job bg slot life:Int):List Cg:=resL rs ++ [⟨grantC job bg slot life,none,0⟩]
theorem pollL_bare (rs job bg slot life:Int):∀ g ∈ pollL rs job bg slot life,Bare g:=fun g hg=>by
 unfold pollL resL at hg
 split at hg
 ·rw [List.nil_append,List.mem_singleton] at hg
  subst hg
  exact ⟨rfl,rfl,by show (0:Int) ≤ 0 ∧ (0:Int) < _;omega⟩
 ·simp only [List.cons_append,List.nil_append,List.mem_cons,List.not_mem_nil,or_false] at hg
  rcases hg with rfl|rfl <;> exact ⟨rfl,rfl,by show (0:Int) ≤ 0 ∧ (0:Int) < _;omega⟩
theorem draws_own (xb lb tb cb mb db wb sb:Nat) (c:Cf) (hc:CfOk c) (tv:Value) (dead:Bool) (la re bg rs la1 re1:Int) (h0:0 ≤ re) (h1:re ≤ 1099511627776) (h2:0 ≤ la) (hn:nextB c.block la re = ((bg,rs,0),la1,re1)) :
  Con Tryz.prog 156 #[ptr xb] [CoB xb lb tb cb mb db wb sb c tv dead,CtB cb c.block la re] fun v A=>∃ a cp LG,v = .tuple #[.int .i64 bg,.slice a (resL rs).length cp,.bool true] ∧ A = [CoB xb lb tb cb mb db wb sb c tv dead,CtB cb c.block la1 re1] ++ LG ∧ OwnC (.slice a (resL rs).length cp) (resL rs) LG:=by
 by_cases hr:rs = 0
 ·subst hr
  refine (draws_old xb lb tb cb mb db wb sb c hc tv dead la re bg la1 re1 h0 h1 h2 hn).mono fun v A hR=>?_
  obtain ⟨rfl,rfl⟩:=hR
  exact ⟨none,0,[],rfl,rfl,Own.none⟩
 ·refine (draws_new xb lb tb cb mb db wb sb c hc tv dead la re bg rs la1 re1 h0 h1 h2 hn hr).mono fun v A hR=>?_
  obtain ⟨g,rfl,rfl⟩:=hR
  have e:resL rs = [⟨Ch.res rs,none,0⟩]:=if_neg hr
  rw [e]
  exact ⟨some ⟨g,0,none⟩,1,_,rfl,rfl,⟨RowsOk.one rfl rfl,.inr ⟨g,1,[],rfl,rfl,rfl,Nat.le_refl _⟩⟩⟩
theorem poll_offer (B0:Base) (xb lb lm tb cb mb db wb sb:Nat) (c:Cf) (hc:CfOk c) (dead:Bool) (w:Wl) (x:Dk) (len:Nat) (lg:LgOk w x len) (hroom:20480 ≤ roomF len) (hnum:w.h.number + 2 < 1099511627776) (k:Nat) (D:List Blk) (hD:DkA db x k D) (hk:k ≤ 700000000000) (s:StP) (SD:List Blk) (hS:StA sb s SD) (ok:StOk s) (bd:StBd s) (tv:Value) (tl:List Cg) (TG:List Blk) (hT:OwnC tv tl TG) (htl:tl.length ≤ 1000000000)
  (ls:List Ls.LE) (les:List ME) (lck:Nat) (hL:Ls.TOk c.lease ls les lck) (mes:List ME) (mck_:Nat) (la re bg rs la1 re1:Int) (h0:0 ≤ re) (h1:re ≤ 1099511627776) (h2:0 ≤ la) (hn:nextB c.block la re = ((bg,rs,0),la1,re1))
  (node life:Int) (hn1:2 ≤ node) (hn2:node ≤ 9) (m:Ms) (mx:Nat) (q:Ms) (hh:headF18 s.rows ≠ 0) (henc:(encodeF ((pollL rs (headF18 s.rows) bg (node - 2) life).map Cg.c)).2 = 0) :
  ConB Tryz.prog B0 160 #[.agg (heV xb node life m).toArray,ptr mx] (CoB xb lb tb cb mb db wb sb c tv dead :: MgB mx q.row :: (Ls.TB lb lm c.lease les lck ++ ((mb,mpo mes mck_) :: CtB cb c.block la re :: WlB wb db w :: (SD ++ (D ++ TG)))))
   fun v A=>∃ p:Pl,∃ les1 lck1 wn wm SD1 D1 tv1 TG1 k1,A = CoB xb lb tb cb mb db wb sb c tv1 dead :: MgB mx (⟨9,q.session,q.number,headF18 s.rows,bg,0,0,0,0,⟨#[]⟩,p.prog⟩:Ms).row :: (Ls.TB lb lm c.lease les1 lck1 ++ (Sw.WB wn wm c.window.toNat 0 [] 0 ++ ((mb,mpo (mput mes mck_ p.r.job (ptr wn)) (mck mes mck_ p.r.job)) :: CtB cb c.block la1 re1 :: WlB wb db (mkW c.every w x (bytesS s) (encodeF ((pollL rs (headF18 s.rows) bg (node - 2) life).map Cg.c)).1).1 :: (SD1 ++ (D1 ++ TG1))))) ∧
    PlR (applyF s ((pollL rs (headF18 s.rows) bg (node - 2) life).map Cg.c)).2 bg p ∧ Ls.TOk c.lease (Ls.grantF c.lease ls p.r.job p.r.badge p.r.node p.r.life).2 les1 lck1 ∧ StA sb (applyF s ((pollL rs (headF18 s.rows) bg (node - 2) life).map Cg.c)).2 SD1 ∧
    DkA db (mkW c.every w x (bytesS s) (encodeF ((pollL rs (headF18 s.rows) bg (node - 2) life).map Cg.c)).1).2 k1 D1 ∧ k1 ≤ k + 20000 ∧ OwnC tv1 (tl ++ pollL rs (headF18 s.rows) bg (node - 2) life) TG1:=by
 have hbare:=pollL_bare rs (headF18 s.rows) bg (node - 2) life
 have hrl:(resL rs).length ≤ 1:=by unfold resL;split <;> simp
 have hpl:(pollL rs (headF18 s.rows) bg (node - 2) life).length = (resL rs).length + 1:=by unfold pollL;simp
 have hgood:=(applyG_good ok bd ((pollL rs (headF18 s.rows) bg (node - 2) life).map Cg.c) s 0 ok bd (fun c hc=>by
  obtain ⟨g,hg,rfl⟩:=List.mem_map.1 hc
  exact (hbare g hg).x)).1
 have hS0:=hS
 obtain ⟨qb,rv,RG,pv,PG,lv,LG,lgs,hSD,y1,y2,y3,y4,y5⟩:=hS
 obtain ⟨ra,rc,rfl⟩:=y1.form
 have hhead:ConB Tryz.prog B0 230 #[ptr qb] (QuB qb s.att (.slice ra s.rows.length rc) :: RG) fun v A=>v = .int .i64 (headF18 s.rows) ∧ A = QuB qb s.att (.slice ra s.rows.length rc) :: RG:=qhead_spec B0 qb s.att ra rc s.rows RG y1 ok.nr
 refine ConB.intro (vs:=[_,_]) Tryz.func160 rfl Tryz.ntmps160 rfl (fun B hB=>?_)
 generalize hc4:Code.seq (Code.region 4 _ _) _ = c4
 rw [hSD]
 generalize headF18 s.rows = job at hh henc hbare hpl hgood hhead ⊢
 repeat' (first|refine Cd.seq ?_|refine Cd.reg ?_|refine Ops.mv rfl rfl rfl rfl ?_|refine Ops.nilP rfl rfl rfl rfl ?_|refine Ops.fa0 rfl rfl rfl rfl ?_|refine Ops.ld1 rfl rfl rfl rfl rfl ?_|refine Ops.box rfl rfl rfl rfl (noPd rfl) (fun b=>?_)|refine Ops.st1 rfl rfl rfl rfl rfl (noPd rfl) ?_)
 rename Nat=>hb
 refine Ops.callB hhead hB rfl (noPd rfl) rfl rfl rfl (fun v A' hR=>?_)
 obtain ⟨rfl,rfl⟩:=hR
 refine zg17 ?_
 subst hc4
 refine Cd.blk (A':=(hb,cl (heV xb node life m) 116) :: CoB xb lb tb cb mb db wb sb c tv dead :: MgB mx ({ q with kind:=10 }:Ms).row :: (Ls.TB lb lm c.lease les lck ++ ((mb,mpo mes mck_) :: CtB cb c.block la re :: WlB wb db w :: (SD ++ (D ++ TG))))) ?_ (fun w_ h_=>by
  have h2:Sat _ ((hb,cl (heV xb node life m) 116) :: CoB xb lb tb cb mb db wb sb c tv dead :: MgB mx ({ q with kind:=10 }:Ms).row :: (Ls.TB lb lm c.lease les lck ++ ((mb,mpo mes mck_) :: CtB cb c.block la re :: WlB wb db w :: StB sb qb s.res pv lv :: QuB qb s.att (.slice ra s.rows.length rc) :: (RG ++ (PG ++ (LG ++ (lgs.flatMap Lg.G ++ (D ++ TG)))))))) w_:=h_.split
  rw [hSD]
  simpa only [List.cons_append,List.append_assoc,List.nil_append] using h2)
 clear hSD y1 y2 y3 y4 y5 hhead
 refine zg4 ?_
 refine Ops.call (draws_own xb lb tb cb mb db wb sb c hc tv dead la re bg rs la1 re1 h0 h1 h2 hn) rfl (noPd rfl) rfl rfl rfl (fun v A' hR=>?_)
 obtain ⟨da,dc,DG,rfl,rfl,hDO⟩:=hR
 refine zg7 ?_
 refine Cd.draw [(0,0,[]),(1,1,[]),(2,0,[]),(3,0,[]),(4,0,[]),(5,1,[]),(7,0,[]),(8,0,[]),(9,1,[]),(6,2,[1,9]),(10,0,[]),(11,2,[1]),(12,2,[1]),(13,2,[])] (by kernel_rfl) (by kernel_rfl) (by simp only [picked,nth];exact rfl) ?_
 refine zg9 ?_
 refine Ops.call (slot_spec xb node life m hn1 hn2) rfl zp1 rfl rfl rfl (fun v A' hR=>?_)
 obtain ⟨rfl,rfl⟩:=hR
 repeat' (first|refine Ops.bld rfl rfl rfl rfl ?_|refine Ops.bs1 rfl rfl rfl rfl rfl rfl rfl zp3 (fun b=>?_))
 refine Ops.app1 (rows:=(resL rs).map Cg.row) hDO (by rw [List.length_map];omega) (by rw [List.length_map];omega) rfl rfl rfl rfl (by rfl) (by rfl) rfl zp10 rfl (fun v G' hG'=>?_)
 have hO1:OwnC v (pollL rs job bg (node - 2) life) G':=by
  unfold OwnC pollL
  rw [List.map_append]
  exact hG'
 clear hG'
 obtain ⟨la2,lc2,rfl⟩:=hO1.form
 have hmk:=makes_lent B0 xb lb tb cb mb db wb sb c hc dead w x len lg hroom hnum k D hD hk s SD hS0 ok bd tv tl TG hT htl la2 lc2 (pollL rs job bg (node - 2) life) G' (fun B1 e hG=>hO1.cin hbare hG) (by omega) (by omega) henc
 skip
 refine Ops.callB hmk hB rfl (noPd rfl) rfl rfl rfl (fun v A' hR=>?_)
 obtain ⟨SD1,D1,tv1,TG1,k1,rfl,hS1,hD1,hk1,hT1⟩:=hR
 clear hmk
 refine zg4 ?_
 refine Ops.callB (sfind_own B0 sb _ SD1 hS1 hgood bg) hB rfl (noPd rfl) rfl rfl rfl (fun v A' hR=>?_)
 obtain ⟨p,rfl,rfl,hp⟩:=hR
 repeat' (first|refine Cd.seq ?_|refine Ops.mv rfl rfl rfl rfl ?_|refine Ops.asg rfl rfl rfl rfl ?_|refine Ops.ext rfl rfl rfl rfl rfl ?_|refine Ops.alloc rfl rfl rfl (noPd rfl) (fun b=>?_)|refine Ops.stN rfl rfl rfl rfl rfl rfl (noPd rfl) ?_)
 rename Nat=>pb
 refine Cd.draw [(0,0,[]),(1,1,[]),(2,0,[]),(3,0,[]),(4,0,[]),(5,1,[]),(6,0,[]),(7,0,[]),(8,1,[]),(9,0,[]),(10,1,[]),(11,2,[])] (by kernel_rfl) (by kernel_rfl) (by simp only [picked,nth];exact rfl) ?_
 refine zg9 ?_
 refine Ops.call (hold_spec xb lb lm tb cb mb db wb sb c hc tv1 dead ls les lck hL mes mck_ p.r 0 (by decide)) rfl (noPd rfl) rfl rfl rfl (fun v A' hR=>?_)
 obtain ⟨les1,lck1,wn,wm,rfl,hL1⟩:=hR
 refine zg1 ?_
 refine Cd.draw [(0,0,[]),(1,0,[]),(2,0,[]),(3,0,[]),(4,1,[]),(5,0,[]),(6,0,[]),(7,0,[]),(8,1,[]),(9,0,[]),(10,0,[]),(11,0,[]),(12,1,[]),(13,0,[]),(14,0,[]),(15,2,[])] (by kernel_rfl) (by kernel_rfl) (by simp only [picked,nth];exact rfl) ?_
 refine zg42 ?_
 dsimp only
 exact Ops.nilN (end0 (A':=CoB xb lb tb cb mb db wb sb c tv1 dead :: MgB mx (⟨9,q.session,q.number,job,bg,0,0,0,0,⟨#[]⟩,p.prog⟩:Ms).row :: (Ls.TB lb lm c.lease les1 lck1 ++ (Sw.WB wn wm c.window.toNat 0 [] 0 ++ ((mb,mpo (mput mes mck_ p.r.job (ptr wn)) (mck mes mck_ p.r.job)) :: CtB cb c.block la1 re1 :: WlB wb db (mkW c.every w x (bytesS s) (encodeF ((pollL rs job bg (node - 2) life).map Cg.c)).1).1 :: (SD1 ++ (D1 ++ TG1)))))) rfl (fun _ h=>h.split) ⟨p,les1,lck1,wn,wm,SD1,D1,tv1,TG1,k1,rfl,hp,hL1,hS1,hD1,hk1,hT1⟩)
def recF (s:StP) (badge:Int):Bool:=match placeF s badge with
 | none=>false
 | some (r,_,_)=>decide (r.status = 3)
def logF (s:StP) (badge:Int):List ByteArray:=match placeF s badge with
 | none=>[]
 | some (_,_,t)=>t
def settledQ (s:StP) (badge count node life:Int):Nat:=if recF s badge then 0 else if heldF s badge node life = true ∧ ((logF s badge).length:Int) = count then 2 else 1
@[reducible] def settleC (badge code bits:Int):Ch:=⟨6,0,0,badge,0,0,code,bits,⟨#[]⟩,[]⟩
theorem own_one (b:Nat) (g:Cg):OwnC (.slice (some ⟨b,0,none⟩) 1 1) [g] [(b,cl g.row 69)] :=
 ⟨rows_map (f:=Cg.row) (fun _=>⟨rfl,rfl⟩) [g],.inr ⟨b,1,[],rfl,by simp,by rfl,Nat.le_refl _⟩⟩
theorem settled_spec (B0:Base) (xb lb lm tb cb mb db wb sb:Nat) (c:Cf) (hc:CfOk c) (dead:Bool) (w:Wl) (x:Dk) (len:Nat) (lg:LgOk w x len) (hroom:20480 ≤ roomF len) (hnum:w.h.number + 2 < 1099511627776) (k:Nat) (D:List Blk) (hD:DkA db x k D) (hk:k ≤ 700000000000) (s:StP) (SD:List Blk) (hS:StA sb s SD) (ok:StOk s) (bd:StBd s) (tv:Value) (tl:List Cg) (TG:List Blk) (hT:OwnC tv tl TG) (htl:tl.length ≤ 1000000000)
  (ls:List Ls.LE) (les:List ME) (lck:Nat) (hL:Ls.TOk c.lease ls les lck) (mes:List ME) (mck_:Nat) (node life:Int) (m:Ms) (hrx:0 ≤ m.rbits ∧ m.rbits < 18446744073709551616) (henc:settledQ s m.badge m.count node life = 2 → (encodeF [settleC m.badge m.rcode m.rbits]).2 = 0) :
  ConB Tryz.prog B0 163 #[.agg (heV xb node life m).toArray] (CoB xb lb tb cb mb db wb sb c tv dead :: (Ls.TB lb lm c.lease les lck ++ ((mb,mpo mes mck_) :: WlB wb db w :: (SD ++ (D ++ TG)))))
   fun v A=>(settledQ s m.badge m.count node life ≠ 2 ∧ v = .bool (decide (settledQ s m.badge m.count node life = 0)) ∧ A = CoB xb lb tb cb mb db wb sb c tv dead :: (Ls.TB lb lm c.lease les lck ++ ((mb,mpo mes mck_) :: WlB wb db w :: (SD ++ (D ++ TG))))) ∨
    (settledQ s m.badge m.count node life = 2 ∧ v = .bool true ∧ ∃ p:Pl,PlR s m.badge p ∧ ∃ les1 lck1 SD1 D1 tv1 TG1 k1,A = CoB xb lb tb cb mb db wb sb c tv1 dead :: (Ls.TB lb lm c.lease les1 lck1 ++ ((mb,mpo (mdel mes p.r.job) mck_) :: WlB wb db (mkW c.every w x (bytesS s) (encodeF [settleC m.badge m.rcode m.rbits]).1).1 :: (SD1 ++ (D1 ++ TG1)))) ∧
     Ls.TOk c.lease (Ls.dropF ls m.badge).2 les1 lck1 ∧ StA sb (applyF s [settleC m.badge m.rcode m.rbits]).2 SD1 ∧ DkA db (mkW c.every w x (bytesS s) (encodeF [settleC m.badge m.rcode m.rbits]).1).2 k1 D1 ∧ k1 ≤ k + 20000 ∧ OwnC tv1 (tl ++ [⟨settleC m.badge m.rcode m.rbits,none,0⟩]) TG1):=by
 refine ConB.intro (vs:=[_]) Tryz.func163 rfl Tryz.ntmps163 rfl (fun B hB=>?_)
 generalize hc1:Code.seq (Code.region 1 _ _) _ = c1
 repeat' (first|refine Cd.seq ?_|refine Cd.reg ?_|refine Ops.nil ?_|refine Ops.asg rfl rfl rfl rfl ?_|refine Ops.box rfl rfl rfl rfl (noPd rfl) (fun b=>?_))
 rename Nat=>hb
 subst hc1
 refine Cd.cut (σ:=Nat × Pl) (fun t=>PlR s m.badge t.2) (fun t=>[(1,ptr hb),(2,.bool false),(3,ptr t.1),(4,.bool (placeF s m.badge).isSome)]) (fun t=>(t.1,cl t.2.row 100) :: (hb,cl (heV xb node life m) 116) :: CoB xb lb tb cb mb db wb sb c tv dead :: (Ls.TB lb lm c.lease les lck ++ ((mb,mpo mes mck_) :: WlB wb db w :: (SD ++ (D ++ TG))))) ?_ (fun t ht=>?_)
 ·refine Cd.draw [(0,0,[]),(1,1,[]),(2,0,[]),(3,0,[]),(4,1,[]),(5,0,[]),(6,0,[]),(7,1,[]),(8,4,[]),(9,0,[]),(10,0,[]),(11,0,[]),(12,2,[]),(13,2,[]),(14,0,[])] (by kernel_rfl) (by kernel_rfl) (by simp only [picked,nth];exact rfl) ?_
  refine zg2 ?_
  refine Ops.fork' [(0,0,[]),(1,1,[]),(2,0,[]),(3,0,[]),(4,1,[]),(5,0,[]),(6,0,[]),(7,1,[]),(12,4,[1,4,7]),(8,2,[]),(9,0,[]),(10,0,[]),(11,0,[]),(13,2,[]),(14,0,[])] (by kernel_rfl) rfl (by simp only [picked,nth];exact rfl) ?_ ?_
  ·skip
   refine Ops.callB (sfind_own B0 sb s SD hS ok m.badge) hB rfl (noPd rfl) rfl rfl rfl (fun v A' hR=>?_)
   obtain ⟨p,rfl,rfl,hp⟩:=hR
   repeat' (first|refine Ops.mv rfl rfl rfl rfl ?_|refine Ops.asg rfl rfl rfl rfl ?_|refine Ops.ext rfl rfl rfl rfl rfl ?_|refine Ops.alloc rfl rfl rfl zp3 (fun b=>?_)|refine Ops.stN rfl rfl rfl rfl rfl rfl zp4 ?_)
   rename Nat=>pb
   exact ze58
  ·repeat' (first|refine Ops.alloc rfl rfl rfl zp3 (fun b=>?_))
   rename Nat=>pb
   refine Ops.callB (sfind_own B0 sb s SD hS ok m.badge) hB rfl (noPd rfl) rfl rfl rfl (fun v A' hR=>?_)
   obtain ⟨p,rfl,rfl,hp⟩:=hR
   refine zg34 ?_
   exact ze58
 obtain ⟨pb,p⟩:=t
 dsimp only at ht ⊢
 have hpp:=ht.1
 by_cases hrec:recF s m.badge = true
 ·have hq:settledQ s m.badge m.count node life = 0:=if_pos hrec
  rw [hq]
  obtain ⟨r,pg,tx,hpf,hst⟩:∃ r pg tx,placeF s m.badge = some (r,pg,tx) ∧ r.status = 3:=by
   unfold recF at hrec
   split at hrec
   ·cases hrec
   ·rename_i r pg tx hpf;exact ⟨r,pg,tx,hpf,by simpa using hrec⟩
  rw [hpf,Option.getD_some,Pl.pure] at hpp
  injection hpp with e1 _
  have hst2:p.r.status = 3:=by rw [e1];exact hst
  rw [hpf]
  dsimp only [Option.isSome_some]
  refine zg29 ?_
  exact ze59
 have hcond:∀ z,placeF s m.badge = some z → p.r.status ≠ 3:=fun z hz=>by
  obtain ⟨r,pg,tx⟩:=z
  rw [hz,Option.getD_some,Pl.pure] at hpp
  injection hpp with e1 _
  intro q
  apply hrec
  unfold recF
  rw [hz]
  simp [← e1,q]
 generalize hc4:Code.seq (Code.seq (Code.region 4 _ _) _) _ = c4
 refine Cd.cut (σ:=Unit) (fun _=>True) (fun _=>[(1,ptr hb),(2,.bool false),(3,ptr pb)]) (fun _=>(pb,cl p.row 100) :: (hb,cl (heV xb node life m) 116) :: CoB xb lb tb cb mb db wb sb c tv dead :: (Ls.TB lb lm c.lease les lck ++ ((mb,mpo mes mck_) :: WlB wb db w :: (SD ++ (D ++ TG))))) ?_ (fun _ _=>?_)
 ·cases hpf:placeF s m.badge with
  | none =>
   dsimp only [Option.isSome_none]
   refine zg6 ?_
   exact ze60
  | some z =>
   have hne:=hcond z hpf
   dsimp only [Option.isSome_some]
   refine zg17 ?_
   exact ze60
 subst hc4
 clear hcond hpp ht
 refine zg8 ?_
 refine Ops.callB (chheld_spec B0 xb lb tb cb mb db wb sb c tv dead node life m s SD hS ok) hB rfl (noPd rfl) rfl rfl rfl (fun v A' hR=>?_)
 obtain ⟨p2,rfl,rfl,hp2⟩:=hR
 have hneg:settledQ s m.badge m.count node life ≠ 0:=by unfold settledQ;rw [if_neg hrec];split <;> decide
 by_cases hh:heldF s m.badge node life = true
 ·rw [hh]
  have hlog:p2.l.txs = logF s m.badge:=by
   obtain ⟨r,pg,tx,hpf⟩:∃ r pg tx,placeF s m.badge = some (r,pg,tx):=by
    unfold heldF at hh
    split at hh
    ·cases hh
    ·rename_i r pg tx hpf;exact ⟨r,pg,tx,hpf⟩
   have e1:=hp2.1
   rw [hpf,Option.getD_some,Pl.pure] at e1
   injection e1 with _ e1
   injection e1 with _ e1
   rw [e1]
   unfold logF
   rw [hpf]
  by_cases hln:((p2.l.txs.length:Int) = m.count)
  ·have hq:settledQ s m.badge m.count node life = 2:=by
    unfold settledQ;rw [if_neg hrec,if_pos ⟨hh,by rw [← hlog];exact hln⟩]
   have he:=henc hq
   rw [hq]
   have hmk:=fun bb:Nat=>makes_lent B0 xb lb tb cb mb db wb sb c hc dead w x len lg hroom hnum k D hD hk s SD hS ok bd tv tl TG hT htl (some ⟨bb,0,none⟩) 1 [⟨settleC m.badge m.rcode m.rbits,none,0⟩] [(bb,cl ((settleC m.badge m.rcode m.rbits).row none 0) 69)] (fun B1 e hG=>(own_one bb _).cin (fun g hg=>by rw [List.mem_singleton] at hg;subst hg;exact ⟨rfl,rfl,hrx⟩) hG) (by show 0 < 1;omega) (by show 1 ≤ 2000000;omega) he
   repeat' (first|refine Cd.seq ?_|refine Cd.reg ?_|refine Ops.nil ?_|refine Ops.mv rfl rfl rfl rfl ?_|refine Ops.asg rfl rfl rfl rfl ?_|refine Ops.fa0 rfl rfl rfl rfl ?_|refine Ops.fa rfl rfl rfl rfl ?_|refine Ops.ld1 rfl rfl rfl rfl rfl ?_|refine Ops.ldN rfl rfl rfl rfl ?_|refine Ops.lenS rfl rfl rfl rfl ?_|refine Ops.bin rfl rfl rfl rfl rfl ?_|refine Ops.un rfl rfl rfl rfl ?_|refine Ops.pickF rfl rfl rfl rfl rfl ?_|refine Ops.ext rfl rfl rfl rfl rfl ?_|refine Ops.bld rfl rfl rfl rfl ?_|refine Ops.bs1 rfl rfl rfl rfl rfl rfl rfl (noPd rfl) (fun b=>?_)|refine Ops.stN rfl rfl rfl rfl rfl rfl (noPd rfl) ?_|refine Cd.skip (Cd.next ?_)|refine Cd.condF rfl zp0 ?_)
   rename Nat=>cbk
   refine Ops.callB (hmk cbk) hB rfl (noPd rfl) rfl rfl rfl (fun v A' hR=>?_)
   obtain ⟨SD1,D1,tv1,TG1,k1,rfl,hS1,hD1,hk1,hT1⟩:=hR
   clear hmk
   rw [show ([⟨settleC m.badge m.rcode m.rbits,none,0⟩]:List Cg).map Cg.c = [settleC m.badge m.rcode m.rbits] from rfl] at hS1 hD1 ⊢
   refine zg0 ?_
   refine Cd.draw [(0,0,[]),(1,1,[]),(2,0,[]),(3,0,[]),(4,0,[]),(5,0,[]),(6,1,[]),(7,0,[]),(8,0,[]),(9,1,[]),(10,2,[])] (by kernel_rfl) (by kernel_rfl) (by simp only [picked,nth];exact rfl) ?_
   refine zg2 ?_
   refine Ops.call (loose_spec xb lb lm tb cb mb db wb sb c tv1 dead ls les lck hL mes mck_ p2.r.job m.badge) rfl (noPd rfl) rfl rfl rfl (fun v A' hR=>?_)
   obtain ⟨les1,lck1,rfl,hL1⟩:=hR
   refine zg3 ?_
   exact Cd.ret (ret1 (A':=CoB xb lb tb cb mb db wb sb c tv1 dead :: (Ls.TB lb lm c.lease les1 lck1 ++ ((mb,mpo (mdel mes p2.r.job) mck_) :: WlB wb db (mkW c.every w x (bytesS s) (encodeF [settleC m.badge m.rcode m.rbits]).1).1 :: (SD1 ++ (D1 ++ TG1))))) rfl (Res.tmp rfl) (fun _ h=>h.split) (.inr ⟨rfl,rfl,p2,hp2,les1,lck1,SD1,D1,tv1,TG1,k1,rfl,hL1,hS1,hD1,hk1,hT1⟩))
  ·have hq:settledQ s m.badge m.count node life = 1:=by
    unfold settledQ;rw [if_neg hrec,if_neg (fun q=>hln (by rw [hlog];exact q.2))]
   rw [hq]
   refine zg33 ?_
   exact ze59
 ·rw [Bool.not_eq_true] at hh
  have hq:settledQ s m.badge m.count node life = 1:=by
   unfold settledQ;rw [if_neg hrec,if_neg (fun q=>by rw [hh] at q;cases q.1)]
  rw [hq,hh]
  refine zg20 ?_
  exact ze59
end Go.Proofs.YtaecdnfkcebbeaaGreat
