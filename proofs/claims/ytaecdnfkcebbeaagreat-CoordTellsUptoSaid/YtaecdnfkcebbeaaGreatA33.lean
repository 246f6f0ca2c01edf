import Derived.Test.YtaecdnfkcebbeaaGreatA01
import Derived.Test.YtaecdnfkcebbeaaGreatA29
import Derived.Test.YtaecdnfkcebbeaaGreatA20
import Derived.Test.YtaecdnfkcebbeaaGreatA31
import Derived.Test.YtaecdnfkcebbeaaGreatA32
import Derived.Test.YtaecdnfkcebbeaaGreatA26
import Derived.Test.YtaecdnfkcebbeaaGreatA24
set_option linter.unusedVariables false
set_option linter.unusedSimpArgs false
namespace Go.Proofs.YtaecdnfkcebbeaaGreat
open Go Go.Sep Go.Proofs
set_option maxRecDepth 10000
set_option maxHeartbeats 40000000
set_option synthInstance.maxSize 2000
@[reducible] def CoB (xb lb tb cb mb db wb sb:Nat) (c:Cf) (tv:Value) (dead:Bool):Blk :=
 (xb,cl [ptr lb,ptr tb,ptr cb,.map (some mb),.int .i64 c.runners,.int .i64 c.lease,.int .i64 c.resend,.int .i64 c.attempts,.int .i64 c.window,.int .i64 c.quantum,.int .i64 c.block,.int .i64 c.every,.int .i64 c.half,ptr db,ptr wb,ptr sb,tv,.bool dead] 94)
theorem newt_int (r:Int) (h1:1 ≤ r) (h2:r ≤ 8):Con Tryz.prog 132 #[.int .i64 r] [] fun v A=>∃ b sv G,v = .tuple #[ptr b,.int .i64 0] ∧ A = Se.TabB b sv G ∧ Se.OwnK sv (Se.fresh r.toNat) G:=by
 obtain ⟨n,rfl⟩:=Int.eq_ofNat_of_zero_le (show 0 ≤ r by omega)
 exact Se.newt_yes n (by omega) (by omega)
theorem begun_spec (c:Cf) (hc:CfOk c) (r:Int) (h0:0 ≤ r) (h1:r ≤ 1099511627776):Con Tryz.prog 82 #[.agg c.row.toArray,.int .i64 r] [] fun v A=>∃ lb lm tb sv G cb mb,v = .agg [ptr lb,ptr tb,ptr cb,.map (some mb)].toArray ∧ A = Ls.TB lb lm c.lease [] 0 ++ (Se.TabB tb sv G ++ [CtB cb c.block r r,(mb,mpo [] 0)]) ∧ Se.OwnK sv (Se.fresh c.runners.toNat) G:=by
 obtain ⟨⟨a1,a2⟩,⟨b1,b2⟩,_,_,_,_,⟨g1,g2⟩,_,_⟩:=hc
 refine Con.intro (vs:=[_,_]) Tryz.func82 rfl Tryz.ntmps82 rfl (fun B=>?_)
 repeat' (first|refine Cd.seq ?_|refine Cd.reg ?_|refine Ops.fa0 rfl rfl rfl rfl ?_|refine Ops.ld1 rfl rfl rfl rfl rfl ?_|refine Ops.box rfl rfl rfl rfl (noPd rfl) (fun b=>?_)|refine Ops.alloc rfl rfl rfl (noPd rfl) (fun b=>?_))
 refine Ops.call (Ls.new_yes c.lease b1 b2) rfl (noPd rfl) rfl rfl rfl (fun v A' hR=>?_)
 obtain ⟨lb,lm,rfl,rfl⟩:=hR
 refine zg7 ?_
 refine Ops.call (newt_int c.runners a1 a2) rfl (noPd rfl) rfl rfl rfl (fun v A' hR=>?_)
 obtain ⟨tb,sv,G,rfl,rfl,hO⟩:=hR
 refine zg7 ?_
 refine Ops.call (bnew_yes c.block r g1 g2 h0 h1) rfl (noPd rfl) rfl rfl rfl (fun v A' hR=>?_)
 obtain ⟨cb,rfl,rfl⟩:=hR
 repeat' (first|refine Ops.mkM rfl rfl rfl (noPd rfl) (fun b=>?_)|refine Cd.seq ?_|refine Cd.reg ?_|refine Ops.nil ?_|refine Ops.mv rfl rfl rfl rfl ?_|refine Ops.fa0 rfl rfl rfl rfl ?_|refine Ops.ldN rfl rfl rfl rfl ?_|refine Ops.ext rfl rfl rfl rfl rfl ?_|refine Ops.st1 rfl rfl rfl rfl rfl (noPd rfl) ?_|refine Ops.stN rfl rfl rfl rfl rfl rfl (noPd rfl) ?_)
 rename Nat=>mb
 exact Cd.ret (ret1 (A':=Ls.TB lb lm c.lease [] 0 ++ (Se.TabB tb sv G ++ [CtB cb c.block r r,(mb,mpo [] 0)])) rfl (Res.cellN rfl) (fun _ h=>h.split) ⟨lb,lm,tb,sv,G,cb,mb,rfl,rfl,hO⟩)
theorem loaded_new (B0:Base) (n:Int) (h1:1 ≤ n) (h2:n ≤ 8) (a:Option Addr) (c:Nat):ConB Tryz.prog B0 79 #[.int .i64 n,.string ⟨#[]⟩,.slice a 0 c] [] fun v A=>∃ sb,v = ptr sb ∧ StA sb ⟨n,[],0,[],[]⟩ A:=by
 refine ConB.intro (vs:=[_,_,_]) Tryz.func79 rfl Tryz.ntmps79 rfl (fun B hB=>?_)
 refine zg0 ?_
 refine Ops.call (snew_yes n h1 h2) rfl (noPd rfl) rfl rfl rfl (fun v A' hR=>?_)
 obtain ⟨sb,qb,rfl,rfl⟩:=hR
 refine zg7 ?_
 refine Cd.loopK (σ:=Unit) (fun _=>True) (fun _=>[(7,ptr sb),(31,.int .i64 0),(32,.int .i64 0)]) (fun _=>[StB sb qb 0 (.slice none 0 0) (.slice none 0 0),QuB qb n (.slice none 0 0)]) (fun _=>0) () trivial ⟨rfl,rfl,rfl,trivial⟩ (fun w h=>h.split) (fun _ _=>?_)
 refine zg10 ?_
 exact Cd.ret (ret1 (A':=[StB sb qb 0 (.slice none 0 0) (.slice none 0 0),QuB qb n (.slice none 0 0)]) rfl (Res.tmp rfl) (fun _ h=>h.split) ⟨sb,rfl,qb,.slice none 0 0,[],.slice none 0 0,[],.slice none 0 0,[],[],rfl,Own.none,Own.none,Own.none,fun x hx=>(by cases hx),rfl⟩)
theorem stOk_new {n:Int} (h1:1 ≤ n) (h2:n ≤ 8):StOk ⟨n,[],0,[],[]⟩:=⟨h1,h2,by simp,rfl,rfl,fun l h=>(by cases h),fun i r h=>(by cases h),fun r h=>(by cases h)⟩
theorem view_own (B0:Base) (sb:Nat) (s:StP) (D:List Blk) (hD:StA sb s D) (ok:StOk s):ConB Tryz.prog B0 12 #[ptr sb] D fun v X=>∃ A',ViewA v s A' ∧ X = A' ++ D :=
 ConB.lend (A1:=[]) fun B1 e hG=>view_spec B1 sb s (hD.in_ hG) ok
theorem res_own (sb:Nat) (s:StP) (D:List Blk) (hD:StA sb s D):Con Tryz.prog 83 #[ptr sb] D fun v A=>v = .int .i64 s.res ∧ A = D:=by
 obtain ⟨qb,rv,RG,pv,PG,lv,LG,ls,rfl,h⟩:=hD
 refine ((reserved_spec sb qb s.res pv lv).beside (F:=QuB qb s.att rv :: (RG ++ (PG ++ (LG ++ ls.flatMap Lg.G))))).mono fun v A hR=>?_
 obtain ⟨A',⟨rfl,rfl⟩,rfl⟩:=hR
 exact ⟨rfl,rfl⟩
@[reducible] def CoN (xb lb lm tb cb mb db wb sb:Nat) (c:Cf) (sv:Value) (G SD D:List Blk) (h:Hd):List Blk :=
 CoB xb lb tb cb mb db wb sb c (.slice none 0 0) false :: (Ls.TB lb lm c.lease [] 0 ++ (Se.TabB tb sv G ++ (CtB cb c.block 0 0 :: (mb,mpo [] 0) :: WlB wb db ⟨h,0,false⟩ :: (SD ++ D))))
def OpenN (c:Cf) (db:Nat) (D:List Blk) (h:Hd) (v:Value) (A:List Blk):Prop :=
 ∃ xb lb lm tb cb mb wb sb sv G SD,v = .tuple #[ptr xb,.int .i64 0] ∧ A = CoN xb lb lm tb cb mb db wb sb c sv G SD D h ∧ Se.OwnK sv (Se.fresh c.runners.toNat) G ∧ StA sb ⟨c.attempts,[],0,[],[]⟩ SD
theorem open_new (B0:Base) (c:Cf) (hc:CfOk c) (db:Nat) (x:Dk) (k:Nat) (D:List Blk) (hD:DkA db x k D) (hf:(x.S.length:Int) = 2 + 2 * c.half) (h:Hd) (how:openW x = (some (h,⟨#[]⟩,[]),0)) :
  ConB Tryz.prog B0 36 #[.agg c.row.toArray,ptr db] D (OpenN c db D h):=by
 refine ConB.intro (vs:=[_,_]) Tryz.func36 rfl Tryz.ntmps36 rfl (fun B hB=>?_)
 have hfit:fitsF c x = true:=by unfold fitsF;rw [show checkC c = 0 from if_pos hc];simp [hf]
 repeat' (first|refine Cd.seq ?_|refine Cd.reg ?_|refine Ops.mv rfl rfl rfl rfl ?_|refine Ops.asg rfl rfl rfl rfl ?_|refine Ops.ldN rfl rfl rfl rfl ?_|refine Ops.box rfl rfl rfl rfl (noPd rfl) (fun b=>?_))
 rename Nat=>bc
 refine Ops.call (fits_spec c db x k D hD) rfl (noPd rfl) rfl rfl rfl (fun v A' hR=>?_)
 obtain ⟨rfl,e⟩:=hR
 subst A'
 rw [hfit]
 refine zg6 ?_
 refine Ops.callB (wopen_spec B0 db x k D hD) hB rfl (noPd rfl) rfl rfl rfl (fun v A' hR=>?_)
 rcases hR with ⟨hn,_⟩|⟨h2,s2,l2,wb,rv,RG,ho2,rfl,rfl,hrs⟩
 ·rw [how] at hn;cases hn
 rw [how] at ho2
 injection ho2 with ho2 _
 injection ho2 with ho2
 injection ho2 with e1 ho2
 injection ho2 with e2 e3
 subst e1
 subst e2
 subst e3
 obtain ⟨ra,rc,rfl⟩:=hrs.form
 refine zg7 ?_
 rw [show ([]:List ByteArray).length = 0 from rfl,show (((0:Nat):Int)) = 0 from rfl]
 obtain ⟨⟨a1,a2⟩,⟨b1,b2⟩,_,⟨c1,c2⟩,_⟩:=id hc
 refine Ops.callB (loaded_new B0 c.attempts c1 c2 ra rc) hB rfl (noPd rfl) rfl rfl rfl (fun v A' hR=>?_)
 obtain ⟨sb,rfl,hS⟩:=hR
 rename List Blk=>SD
 refine zg19 ?_
 refine Cd.draw [(0,1,[]),(1,0,[]),(4,1,[]),(5,0,[]),(6,0,[]),(7,0,[]),(2,2,[0,4]),(3,2,[4]),(8,0,[]),(9,2,[]),(10,0,[])] (by kernel_rfl) (by kernel_rfl) (by simp only [picked,nth];exact rfl) ?_
 refine zg9 ?_
 refine Ops.call (res_own sb _ SD hS) rfl zp1 rfl rfl rfl (fun v A' hR=>?_)
 obtain ⟨rfl,e⟩:=hR
 subst A'
 skip
 refine Ops.call (begun_spec c hc 0 (by omega) (by omega)) rfl (by intro v A' hR i hi;obtain ⟨A2,hR,rfl⟩:=hR;obtain ⟨lb,lm,tb,sv,G,cb,mb,rfl,rfl,hO⟩:=hR;(repeat (rcases List.mem_cons.1 hi with rfl|hi;· (first|exact Still.ld1 rfl rfl rfl rfl rfl|exact Still.ldN rfl rfl rfl rfl|exact Still.len rfl rfl rfl rfl rfl|exact Still.skip rfl rfl rfl|exact Still.ldRow1 rfl rfl rfl (by assumption) (by assumption) rfl rfl|exact Still.ldR rfl rfl rfl (by apply_assumption) rfl)));cases hi) rfl rfl rfl (fun v A' hR=>?_)
 obtain ⟨lb,lm,tb,sv,G,cb,mb,rfl,rfl,hO⟩:=hR
 repeat' (first|refine Cd.seq ?_|refine Cd.reg ?_|refine Ops.nil ?_|refine Ops.mv rfl rfl rfl rfl ?_|refine Ops.asg rfl rfl rfl rfl ?_|refine Ops.bld rfl rfl rfl rfl ?_|refine Ops.box rfl rfl rfl rfl zp3 (fun b=>?_))
 rename Nat=>xb
 refine Ops.callB (view_own B0 sb _ SD hS (stOk_new c1 c2)) hB rfl (noPd rfl) rfl rfl rfl (fun v A' hR=>?_)
 obtain ⟨VG,⟨va,ps,JG,rfl,rfl,hJ,hT,hps⟩,rfl⟩:=hR
 dsimp only [List.length_nil]
 refine Ops.fld ⟨_,_,_,Tryz.underlying52,rfl,Tryz.underlying50,rfl,rfl⟩ rfl rfl rfl rfl rfl ?_
 refine zg3 ?_
 refine Cd.loopK (σ:=Unit) (fun _=>True) (fun _=>[(11,ptr xb),(60,.int .i64 0),(61,.int .i64 0)]) (fun _=>CoN xb lb lm tb cb mb db wb sb c sv G SD D h) (fun _=>0) () trivial ⟨rfl,rfl,rfl,trivial⟩ (fun w h=>h.split) (fun _ _=>?_)
 refine zg10 ?_
 exact Cd.ret (ret2 (A':=CoN xb lb lm tb cb mb db wb sb c sv G SD D h) rfl (Res.tmp rfl) (Res.tmp rfl) (fun _ h=>h.split) ⟨xb,lb,lm,tb,cb,mb,wb,sb,sv,G,SD,rfl,rfl,hO,hS⟩)
theorem new_new (B0:Base) (c:Cf) (hc:CfOk c) (db:Nat) (x x1:Dk) (k:Nat) (D:List Blk) (hD:DkA db x k D) (hk:k < 900000000000) (hf:(x.S.length:Int) = 2 + 2 * c.half) (hfm:formatF x = (x1,0)) (hf1:(x1.S.length:Int) = 2 + 2 * c.half) (h:Hd) (how:openW x1 = (some (h,⟨#[]⟩,[]),0)) :
  ConB Tryz.prog B0 15 #[.agg c.row.toArray,ptr db] D (fun v A=>∃ D',DkA db x1 (k + 1) D' ∧ OpenN c db D' h v A):=by
 refine ConB.intro (vs:=[_,_]) Tryz.func15 rfl Tryz.ntmps15 rfl (fun B hB=>?_)
 have hfit:fitsF c x = true:=by unfold fitsF;rw [show checkC c = 0 from if_pos hc];simp [hf]
 repeat' (first|refine Cd.seq ?_|refine Cd.reg ?_|refine Ops.mv rfl rfl rfl rfl ?_|refine Ops.asg rfl rfl rfl rfl ?_|refine Ops.ldN rfl rfl rfl rfl ?_|refine Ops.box rfl rfl rfl rfl (noPd rfl) (fun b=>?_))
 rename Nat=>bc
 refine Ops.call (fits_spec c db x k D hD) rfl (noPd rfl) rfl rfl rfl (fun v A' hR=>?_)
 obtain ⟨rfl,e⟩:=hR
 subst A'
 rw [hfit]
 refine zg6 ?_
 refine Ops.callB (format_spec B0 db x k D hD hk) hB rfl (noPd rfl) rfl rfl rfl (fun v A' hR=>?_)
 rw [hfm] at hR
 obtain ⟨rfl,hD1⟩:=hR
 rename List Blk=>D1
 refine zg19 ?_
 refine Ops.callB (open_new B0 c hc db x1 (k + 1) D1 hD1 hf1 h how) hB rfl (noPd rfl) rfl rfl rfl (fun v A' hR=>?_)
 obtain ⟨xb,lb,lm,tb,cb,mb,wb,sb,sv,G,SD,rfl,rfl,hO,hS⟩:=hR
 refine zg5 ?_
 exact Cd.ret (ret2 (A':=CoN xb lb lm tb cb mb db wb sb c sv G SD D1 h) rfl (Res.tmp rfl) (Res.tmp rfl) (fun _ h=>h.split) ⟨D1,hD1,xb,lb,lm,tb,cb,mb,wb,sb,sv,G,SD,rfl,rfl,hO,hS⟩)
theorem lives_spec (xb lb tb cb mb db wb sb:Nat) (c:Cf) (tv:Value) (dead:Bool) (x:Dk) (k:Nat) (D:List Blk) (hD:DkA db x k D) :
  Con Tryz.prog 46 #[ptr xb] (CoB xb lb tb cb mb db wb sb c tv dead :: D) fun v A=>v = .bool (!(dead || x.de)) ∧ A = CoB xb lb tb cb mb db wb sb c tv (dead || x.de) :: D:=by
 refine Con.intro (vs:=[_]) Tryz.func46 rfl Tryz.ntmps46 rfl (fun B=>?_)
 cases dead with
 | true =>
  refine zg26 ?_
  exact Cd.ret (ret1 (A':=CoB xb lb tb cb mb db wb sb c tv true :: D) rfl (Res.tmp rfl) (fun _ h=>h.split) ⟨rfl,rfl⟩)
 | false =>
  refine zg4 ?_
  refine Ops.call (ddead_spec db x.S x.ar x.bd x.de k D hD.a) rfl (noPd rfl) rfl rfl rfl (fun v A' hR=>?_)
  obtain ⟨rfl,e⟩:=hR
  subst A'
  refine zg26 ?_
  exact Cd.ret (ret1 (A':=CoB xb lb tb cb mb db wb sb c tv x.de :: D) rfl (Res.tmp rfl) (fun _ h=>h.split) ⟨by rw [Bool.false_or],by rw [Bool.false_or]⟩)
theorem records_spec (wb db:Nat) (w:Wl):Con Tryz.prog 98 #[ptr wb] [WlB wb db w] fun v A=>v = .int .i64 w.recs ∧ A = [WlB wb db w]:=by
 refine Con.intro (vs:=[_]) Tryz.func98 rfl Tryz.ntmps98 rfl (fun B=>?_)
 refine zg4 ?_
 exact Cd.ret (ret1 (A':=[WlB wb db w]) rfl (Res.tmp rfl) (fun _ h=>h.split) ⟨rfl,rfl⟩)
def OwnC (sv:Value) (l:List Cg) (G:List Blk):Prop:=Own 69 10 sv (l.map Cg.row) G
theorem OwnC.form {sv:Value} {l:List Cg} {G:List Blk} (h:OwnC sv l G):∃ a c,sv = .slice a l.length c:=by
 obtain ⟨a,c,h⟩:=Own.form h
 exact ⟨a,c,by rw [h,List.length_map]⟩
theorem makes_nil (B0:Base) (xb:Nat) (a:Option Addr) (cp:Nat):ConB Tryz.prog B0 45 #[ptr xb,.slice a 0 cp] [] fun v A=>A = []:=by
 refine ConB.intro (vs:=[_,_]) Tryz.func45 rfl Tryz.ntmps45 rfl (fun B hB=>?_)
 refine zg19 ?_
 exact Cd.ret (ret0 (A':=[]) rfl (fun _ h=>h.split) rfl)
theorem makes_spec (B0:Base) (xb lb tb cb mb db wb sb:Nat) (c:Cf) (dead:Bool) (w w1:Wl) (x x1:Dk) (k:Nat) (D:List Blk) (hD:DkA db x k D) (s:StP) (SD:List Blk) (hS:StA sb s SD) (ok:StOk s) (tv:Value) (tl:List Cg) (TG:List Blk) (hT:OwnC tv tl TG) (htl:tl.length ≤ 1000000000)
  (a:Option Addr) (cp:Nat) (l:List Cg) (hC:CIn B0 a l) (h0:0 < l.length) (hl:l.length ≤ 2000000) (hst:∀ g ∈ l,checkF g.c = 0 → StepOk B0 g.c) (wok:WlOk w x.S.length) (hk:k ≤ 800000000000)
  (hz:(encodeF (l.map Cg.c)).1.size ≤ 900000) (hev:w.recs < c.every) (hrm:(encodeF (l.map Cg.c)).1.size ≤ roomW w x.S.length) (hap:appendF w x (encodeF (l.map Cg.c)).1 = ((w1,x1),0)) :
  ConB Tryz.prog B0 45 #[ptr xb,.slice a l.length cp] (CoB xb lb tb cb mb db wb sb c tv dead :: WlB wb db w :: (SD ++ (D ++ TG)))
   fun v A=>∃ SD1 D1 tv1 TG1,A = CoB xb lb tb cb mb db wb sb c tv1 dead :: WlB wb db w1 :: (SD1 ++ (D1 ++ TG1)) ∧ StA sb (applyF s (l.map Cg.c)).2 SD1 ∧ DkA db x1 (k + (encodeF (l.map Cg.c)).1.size + 20) D1 ∧ OwnC tv1 (tl ++ l) TG1:=by
 obtain ⟨ta,tc,rfl⟩:=hT.form
 refine ConB.intro (vs:=[_,_]) Tryz.func45 rfl Tryz.ntmps45 rfl (fun B hB=>?_)
 have h0':¬ ((l.length:Nat):Int) = 0:=by omega
 refine zg12 ?_
 refine Ops.callB (encode_spec B0 a cp l hC hl) hB rfl (noPd rfl) rfl rfl rfl (fun v A' hR=>?_)
 obtain ⟨rfl,rfl⟩:=hR
 generalize encodeF (l.map Cg.c) = en at hz hrm hap ⊢
 obtain ⟨r,er⟩:=en
 dsimp only at hz hrm hap ⊢
 have hev':¬ c.every ≤ w.recs:=by omega
 have hrm':¬ ((roomW w x.S.length:Nat):Int) < (r.size:Int):=by omega
 refine zg5 ?_
 refine Cd.draw [(0,0,[]),(1,0,[]),(2,0,[]),(3,1,[]),(5,0,[]),(6,0,[]),(7,0,[]),(8,0,[]),(9,1,[]),(4,2,[9]),(10,0,[]),(11,0,[]),(12,0,[]),(13,0,[]),(14,0,[]),(15,1,[]),(17,0,[]),(18,0,[]),(16,2,[]),(19,0,[]),(20,0,[])] (by kernel_rfl) (by kernel_rfl) (by simp only [picked,nth];exact rfl) ?_
 refine zg2 ?_
 refine Ops.call (records_spec wb db w) rfl zp1 rfl rfl rfl (fun v A' hR=>?_)
 obtain ⟨rfl,rfl⟩:=hR
 refine zg11 ?_
 refine Ops.callB (roomw_spec B0 wb db w x k D hD wok) hB rfl zp1 rfl rfl rfl (fun v A' hR=>?_)
 obtain ⟨rfl,rfl⟩:=hR
 refine zg21 ?_
 refine Ops.callB (append_spec B0 wb db w x k D hD r wok hz hk) hB rfl (noPd rfl) rfl rfl rfl (fun v A' hR=>?_)
 rw [hap] at hR
 obtain ⟨rfl,D1,rfl,hD1⟩:=hR
 dsimp only at hD1 ⊢
 refine zg7 ?_
 refine Ops.callB (apply_spec B0 sb s SD hS ok a cp l hC (by omega) hst) hB rfl (noPd rfl) rfl rfl rfl (fun v A' hR=>?_)
 obtain ⟨rfl,hS1⟩:=hR
 rename List Blk=>SD1
 refine zg28 ?_
 refine Ops.appS (rows:=tl.map Cg.row) (news:=l.map Cg.row) hT ((by simpa using (hC.ext hB).r.reads (cgs_ok l) (by decide) cp _):Reads _ _ _ 10 (.slice a l.length cp) _) (by simp only [List.length_map];omega) (by simp only [List.length_map];omega) rfl rfl rfl rfl rfl (noPd rfl) rfl (fun v G' hG'=>?_)
 rw [← List.map_append] at hG'
 have hG2:OwnC v (tl ++ l) G':=hG'
 obtain ⟨ta1,tc1,rfl⟩:=hG2.form
 refine zg4 ?_
 exact Ops.nilN (end0 (A':=CoB xb lb tb cb mb db wb sb c (.slice ta1 (tl ++ l).length tc1) dead :: WlB wb db w1 :: (SD1 ++ (D1 ++ G'))) rfl (fun _ h=>h.split) ⟨SD1,D1,_,G',rfl,hS1,hD1,hG2⟩)
theorem ConB.insert2 {P:Program} {B0:Base} {f:FuncId} {args:Array Value} {x y x' y':Blk} {H:List Blk} (G0:List Blk) (h:ConB P B0 f args (x :: y :: H) fun v A=>A = x' :: y' :: H):ConB P B0 f args (x :: y :: (G0 ++ H)) fun v A=>A = x' :: y' :: (G0 ++ H) :=
 ((h.beside (F:=G0)).permIn (List.Perm.cons x (List.Perm.cons y List.perm_append_comm))).permOut fun v A' hR=>by
  obtain ⟨A2,rfl,rfl⟩:=hR
  exact ⟨_,rfl,List.Perm.cons x' (List.Perm.cons y' List.perm_append_comm)⟩
theorem ConB.append2 {P:Program} {B0:Base} {f:FuncId} {args:Array Value} {x y x' y':Blk} {H:List Blk} (G0:List Blk) (h:ConB P B0 f args (x :: y :: H) fun v A=>A = x' :: y' :: H):ConB P B0 f args (x :: y :: (H ++ G0)) fun v A=>A = x' :: y' :: (H ++ G0) :=
 (h.beside (F:=G0)).mono fun v A' hR=>by
  obtain ⟨A2,rfl,rfl⟩:=hR
  rfl
theorem FdsA.read {fds:List Fd} {rows:List (List Value)} {G:List Blk} (h:FdsA fds rows G):∀ {i:Nat} {fd:Fd},fds[i]? = some fd → ∃ f1 c1 f2 c2 f3 c3,rows[i]? = some [.func (.func f1) #[] (c1:List Value).toArray,.func (.func f2) #[] (c2:List Value).toArray,.func (.func f3) #[] (c3:List Value).toArray] ∧ FnOk Tryz.prog f3 ∧
  (∀ B0 mb m rb (bs:ByteArray) (p:Nat) (e:Int),p ≤ bs.size → bs.size ≤ 1000000 → ConB Tryz.prog B0 f3 ([ptr mb,ptr rb] ++ c3).toArray (MgB mb m.row :: RdB rb bs p e :: G) fun v A=>A = MgB mb (fd.read bs (m,p,e)).1.row :: RdB rb bs ((fd.read bs (m,p,e)).2.1:Nat) (fd.read bs (m,p,e)).2.2 :: G):=by
 induction h with
 | nil=>intro i fd hi;simp at hi
 | @cons fd0 fds v1 v2 v3 rows G0 H h1 h2 ih =>
  intro i fd hi
  cases i with
  | zero =>
   simp only [List.getElem?_cons_zero,Option.some.injEq] at hi
   subst hi
   obtain ⟨⟨f1,c1,rfl,_⟩,⟨f2,c2,rfl,_⟩,⟨f3,c3,rfl,k3,q3⟩⟩:=h1
   exact ⟨f1,c1,f2,c2,f3,c3,rfl,k3,fun B0 mb m rb bs p e hp hb=>ConB.append2 H (q3 B0 mb m rb bs p e hp hb)⟩
  | succ i =>
   simp only [List.getElem?_cons_succ] at hi
   obtain ⟨f1,c1,f2,c2,f3,c3,hr,k3,q3⟩:=ih hi
   exact ⟨f1,c1,f2,c2,f3,c3,by simpa using hr,k3,fun B0 mb m rb bs p e hp hb=>ConB.insert2 G0 (q3 B0 mb m rb bs p e hp hb)⟩
theorem rdBits_at {b:ByteArray} {p:Nat} {e:Int} (hp:p ≤ b.size):(rdBits b p e).2.1 ≤ b.size:=by
 unfold rdBits
 split
 ·exact hp
 ·split
  ·assumption
  ·exact hp
theorem Fd.read_at (fd:Fd) {b:ByteArray} {m:Ms} {p:Nat} {e:Int} (hp:p ≤ b.size):(fd.read b (m,p,e)).2.1 ≤ b.size:=by
 cases fd with
 | whole w lo hi=>exact rdNum_at hp
 | text t lo hi=>exact rdText_at hp
 | result=>exact rdBits_at (rdNum_at hp)
theorem rdText_size (b:ByteArray) (most p:Nat) (e:Int):(rdText b most p e).1.size ≤ b.size:=by
 unfold rdText txR
 split
 ·exact Nat.zero_le _
 ·split
  ·exact Nat.zero_le _
  ·rename_i u q h
   split at h
   ·cases h
   ·split at h
    ·rename_i n q2 _ hle
     injection h with h
     injection h with h1 h2
     rw [← h1,ByteArray.size_extract]
     omega
    ·cases h
theorem rdBits_lt (b:ByteArray) (p:Nat) (e:Int):(rdBits b p e).1 < 18446744073709551616:=by
 unfold rdBits
 split
 ·show (0:Nat) < _;omega
 ·split
  ·exact ofn_lt _ 8
  ·show (0:Nat) < _;omega
theorem MsOk.read {m:Ms} (h:MsOk m) (fd:Fd) {b:ByteArray} (hb:b.size ≤ 100000) (p:Nat) (e:Int):MsOk (fd.read b (m,p,e)).1:=by
 obtain ⟨h1,h2,h3⟩:=h
 cases fd with
 | whole w lo hi=>cases w <;> exact ⟨h1,h2,h3⟩
 | text t lo hi =>
  have h4:=rdText_size b hi p e
  cases t
  ·exact ⟨by show (rdText b hi p e).1.size ≤ _;omega,h2,h3⟩
  ·exact ⟨h1,by show (rdText b hi p e).1.size ≤ _;omega,h3⟩
 | result =>
  have h4:=rdBits_lt b (rdNum b 7 p e).2.1 (rdNum b 7 p e).2.2
  exact ⟨h1,h2,by show 0 ≤ (((rdBits b (rdNum b 7 p e).2.1 (rdNum b 7 p e).2.2).1:Nat):Int) ∧ (((rdBits b (rdNum b 7 p e).2.1 (rdNum b 7 p e).2.2).1:Nat):Int) < _;omega⟩
def readG (b:ByteArray) (fds:List Fd) (s:Ms × Nat × Int):Nat → Ms × Nat × Int
 | 0=>s
 | i + 1=>match fds[i]? with
  | none=>readG b fds s i
  | some fd=>fd.read b (readG b fds s i)
theorem readG_at {b:ByteArray} {fds:List Fd} {s:Ms × Nat × Int} (h:s.2.1 ≤ b.size) (hb:b.size ≤ 100000) (ho:MsOk s.1):∀ i,(readG b fds s i).2.1 ≤ b.size ∧ MsOk (readG b fds s i).1
 | 0=>⟨h,ho⟩
 | i + 1=>by
  obtain ⟨h1,h2⟩:=readG_at (fds:=fds) h hb ho i
  unfold readG
  split
  ·exact ⟨h1,h2⟩
  ·rename_i fd _
   exact ⟨Fd.read_at fd (m:=(readG b fds s i).1) (e:=(readG b fds s i).2.2) h1,h2.read fd hb _ _⟩
@[reducible] def Ms.of (k:Int):Ms:=⟨k,0,0,0,0,0,0,0,0,⟨#[]⟩,⟨#[]⟩⟩
def readK (b:ByteArray):Ms × Nat × Int:=(Ms.of ((rdNum b 16 0 0).1:Nat),(rdNum b 16 0 0).2)
def readM (b:ByteArray):Ms × Nat × Int:=readG b (fieldsF ((rdNum b 16 0 0).1:Nat)) (readK b) (fieldsF ((rdNum b 16 0 0).1:Nat)).length
def decF (b:ByteArray):Ms × Int:=if 2048 < b.size then (Ms.zero,73) else if (endF b (readM b).2.1 (readM b).2.2).1 = 0 ∧ wcheckF (readM b).1 = 0 then ((readM b).1,0) else (Ms.zero,72)
theorem wdecode_spec (B0:Base) (bs:ByteArray) (hb0:bs.size < 9223372036854775808):ConB Tryz.prog B0 39 #[.string bs] [] fun v A=>v = .tuple #[.agg (decF bs).1.row.toArray,.int .i64 (decF bs).2] ∧ A = []:=by
 refine ConB.intro (vs:=[_]) Tryz.func39 rfl Tryz.ntmps39 rfl (fun B hB=>?_)
 by_cases hb:2048 < bs.size
 ·rw [show decF bs = (Ms.zero,73) from if_pos hb]
  have hb':(2048:Int) < (bs.size:Int):=by omega
  repeat' (first|refine Cd.seq ?_|refine Cd.reg ?_|refine Ops.nil ?_|refine Ops.mv rfl rfl rfl rfl ?_|refine Ops.asg rfl rfl rfl rfl ?_|refine Ops.lenStr rfl rfl rfl rfl ?_|refine Ops.bin rfl rfl rfl rfl rfl ?_|refine Ops.bld rfl rfl rfl rfl ?_|refine Ops.alloc rfl rfl rfl (noPd rfl) (fun b=>?_)|refine Ops.stN rfl rfl rfl rfl rfl rfl (noPd rfl) ?_|refine Cd.condT rfl zp0 ?_)
  exact ze41
 have hb':¬ (2048:Int) < (bs.size:Int):=by omega
 rw [show decF bs = if (endF bs (readM bs).2.1 (readM bs).2.2).1 = 0 ∧ wcheckF (readM bs).1 = 0 then ((readM bs).1,0) else (Ms.zero,72) from if_neg hb]
 repeat' (first|refine Cd.seq ?_|refine Cd.reg ?_|refine Ops.nil ?_|refine Ops.mv rfl rfl rfl rfl ?_|refine Ops.asg rfl rfl rfl rfl ?_|refine Ops.lenStr rfl rfl rfl rfl ?_|refine Ops.bin rfl rfl rfl rfl rfl ?_|refine Ops.alloc rfl rfl rfl (noPd rfl) (fun b=>?_)|refine Cd.skip (Cd.next ?_)|refine Cd.condF rfl zp0 ?_)
 rename Nat=>zb
 refine Ops.call (read_spec bs) rfl (noPd rfl) rfl rfl rfl (fun v A' hR=>?_)
 obtain ⟨rb,rfl,rfl⟩:=hR
 refine zg0 ?_
 refine Ops.callB (rnum_spec B0 rb bs 0 16 0 (Nat.zero_le _) (by omega) (by omega)) hB rfl (noPd rfl) rfl rfl rfl (fun v A' hR=>?_)
 obtain ⟨rfl,rfl⟩:=hR
 have hk:(rdNum bs 16 0 0).1 ≤ 16:=rdNum_le
 have hkp:(rdNum bs 16 0 0).2.1 ≤ bs.size:=rdNum_at (Nat.zero_le _)
 have hsp:readM bs = readG bs (fieldsF ((rdNum bs 16 0 0).1:Nat)) (Ms.of ((rdNum bs 16 0 0).1:Nat),(rdNum bs 16 0 0).2) (fieldsF ((rdNum bs 16 0 0).1:Nat)).length:=rfl
 generalize readM bs = rm at hsp ⊢
 generalize rdNum bs 16 0 0 = r0 at hsp hk hkp ⊢
 obtain ⟨kd,p0,e0⟩:=r0
 dsimp only at hsp hk hkp ⊢
 skip
 refine Ops.cvI rfl rfl rfl rfl ?_
 rw [show IntKind.wrap .i64 ((kd:Nat):Int) = ((kd:Nat):Int) from by simp [IntKind.wrap,IntKind.bits,IntKind.signed];omega]
 generalize hc5:Code.seq (Code.seq (Code.region 5 _ _) _) _ = c5
 repeat' (first|refine Ops.nil ?_|refine Ops.bld rfl rfl rfl rfl ?_|refine Ops.alloc rfl rfl rfl (noPd rfl) (fun b=>?_)|refine Ops.stN rfl rfl rfl rfl rfl rfl (noPd rfl) ?_)
 rename Nat=>mb
 subst hc5
 have hlen:(fieldsF (kd:Int)).length ≤ 5:=by
  unfold fieldsF
  (repeat' split)
  all_goals simp
 have hat:=readG_at (b:=bs) (fds:=fieldsF (kd:Int)) (s:=(Ms.of (kd:Int),p0,e0)) hkp (by omega) ⟨Nat.zero_le _,Nat.zero_le _,by show (0:Int) ≤ 0 ∧ (0:Int) < _;omega⟩
 have hat1:=hat (fieldsF (kd:Int)).length
 rw [← hsp] at hat1
 refine Cd.cut (σ:=Unit) (fun _=>True) (fun _=>[(2,ptr zb),(4,ptr rb),(5,ptr mb)]) (fun _=>[MgB mb rm.1.row,RdB rb bs (rm.2.1:Nat) rm.2.2,(zb,cl Ms.zero.row 42)]) ?_ (fun _ _=>?_)
 ·refine zg4 ?_
  refine Ops.call (fields_spec (kd:Int)) rfl (noPd rfl) rfl rfl rfl (fun v A' hR=>?_)
  generalize fieldsF (kd:Int) = fds at hR hlen hat hsp ⊢
  rcases hR with ⟨rfl,rfl,rfl⟩|⟨sb,rows,G,rfl,rfl,hF⟩
  ·have e:rm = (Ms.of (kd:Int),p0,e0):=hsp
   subst e
   refine zg3 ?_
   refine Cd.loopK (σ:=Unit) (fun _=>True) (fun _=>[(2,ptr zb),(4,ptr rb),(5,ptr mb),(23,.int .i64 0),(24,.int .i64 0)]) (fun _=>[MgB mb (Ms.of (kd:Int)).row,RdB rb bs (p0:Nat) e0,(zb,cl Ms.zero.row 42)]) (fun _=>0) () trivial ⟨rfl,rfl,rfl,rfl,rfl,trivial⟩ (fun w h=>h.split) (fun _ _=>?_)
   refine zg13 ?_
   exact ze42
  ·refine zg3 ?_
   refine Cd.loopK (σ:=Nat) (fun i=>i ≤ fds.length) (fun i=>[(2,ptr zb),(4,ptr rb),(5,ptr mb),(22,.slice (some ⟨sb,0,none⟩) fds.length fds.length),(23,.int .i64 ((fds.length:Nat):Int)),(24,.int .i64 ((i:Nat):Int))]) (fun i=>MgB mb (readG bs fds (Ms.of (kd:Int),p0,e0) i).1.row :: RdB rb bs ((readG bs fds (Ms.of (kd:Int),p0,e0) i).2.1:Nat) (readG bs fds (Ms.of (kd:Int),p0,e0) i).2.2 :: (zb,cl Ms.zero.row 42) :: (sb,cl (rows.flatten ++ []) 169) :: G) (fun i=>fds.length - i) 0 (Nat.zero_le _) ⟨rfl,rfl,rfl,rfl,rfl,rfl,trivial⟩ (fun w h=>(h.split:Sat _ (MgB mb (Ms.of (kd:Int)).row :: RdB rb bs (p0:Nat) e0 :: (zb,cl Ms.zero.row 42) :: (sb,cl (rows.flatten ++ []) 169) :: G) w)) (fun i hi=>?_)
   by_cases hlt:i < fds.length
   ·have hlt':((i:Nat):Int) < ((fds.length:Nat):Int):=by omega
    obtain ⟨fd,hfd⟩:∃ fd,fds[i]? = some fd:=⟨_,List.getElem?_eq_getElem hlt⟩
    obtain ⟨f1,c1,f2,c2,f3,c3,hr,k3,q3⟩:=hF.read hfd
    haveI:=k3
    have hr2:rows[((i:Nat):Int).toNat]? = some [.func (.func f1) #[] c1.toArray,.func (.func f2) #[] c2.toArray,.func (.func f3) #[] c3.toArray]:=by rw [Int.toNat_natCast];exact hr
    have hs:readG bs fds (Ms.of (kd:Int),p0,e0) (i + 1) = fd.read bs (readG bs fds (Ms.of (kd:Int),p0,e0) i):=by rw [readG,hfd]
    have hz1:=hat i
    clear hsp hat
    generalize readG bs fds (Ms.of (kd:Int),p0,e0) i = ri at hs hz1 ⊢
    obtain ⟨mi,pi,ei⟩:=ri
    dsimp only at hz1 ⊢
    refine zg35 ?_
    refine Ops.ldRowN (sz:=3) (o:=0) rfl rfl rfl hF.ok hr2 rfl ?_
    repeat' (first|refine Cd.reg ?_|refine Ops.mv rfl rfl rfl rfl ?_|refine Ops.fa0 rfl rfl rfl rfl ?_|refine Ops.ld1 rfl rfl rfl rfl rfl ?_|refine Ops.alloc rfl rfl rfl (noPd rfl) (fun b=>?_)|refine Ops.stN rfl rfl rfl rfl rfl rfl (noPd rfl) ?_)
    refine Ops.callVB (fi:=[]) (ca:=c3) (vs:=[ptr mb,ptr rb]) (q3 B0 mb mi rb bs pi ei hz1.1 (by omega)) hB rfl (noPd rfl) rfl rfl rfl rfl (fun v A' hR=>?_)
    subst hR
    refine zg18 ?_
    exact Ops.nilN (round_end (i + 1:Nat) (by show i + 1 ≤ fds.length;omega) zp17 ⟨rfl,rfl,rfl,rfl,rfl,rfl,trivial⟩ (fun w h=>by rw [hs];exact h.split))
   ·have hlt':¬ ((i:Nat):Int) < ((fds.length:Nat):Int):=by omega
    have he:i = fds.length:=by omega
    subst he
    rw [← hsp]
    refine zg17 ?_
    exact ze42
 clear hsp hat
 obtain ⟨m,p,e⟩:=rm
 dsimp only at hat1 ⊢
 refine zg0 ?_
 refine Ops.call (end_spec rb bs p e) rfl (noPd rfl) rfl rfl rfl (fun v A' hR=>?_)
 obtain ⟨rfl,rfl⟩:=hR
 generalize endF bs p e = en
 obtain ⟨en,ep⟩:=en
 dsimp only
 by_cases he:en = 0
 case neg =>
  rw [if_neg (fun q=>he q.1)]
  refine zg20 ?_
  exact ze41
 subst he
 refine zg19 ?_
 refine Ops.call (wcheck_spec m hat1.2) rfl (noPd rfl) rfl rfl rfl (fun v A' hR=>?_)
 obtain ⟨rfl,rfl⟩:=hR
 generalize wcheckF m = we
 by_cases hw:we = 0
 ·subst hw
  rw [if_pos ⟨rfl,rfl⟩]
  refine zg19 ?_
  exact ze41
 ·rw [if_neg (fun q=>hw q.2)]
  refine zg29 ?_
  exact ze41
@[reducible] def Ch.res (n:Int):Ch:=⟨1,n,0,0,0,0,0,0,⟨#[]⟩,[]⟩
theorem draws_new (xb lb tb cb mb db wb sb:Nat) (c:Cf) (hc:CfOk c) (tv:Value) (dead:Bool) (la re b rs la1 re1:Int) (h0:0 ≤ re) (h1:re ≤ 1099511627776) (h2:0 ≤ la) (hn:nextB c.block la re = ((b,rs,0),la1,re1)) (hrs:rs ≠ 0) :
  Con Tryz.prog 156 #[ptr xb] [CoB xb lb tb cb mb db wb sb c tv dead,CtB cb c.block la re] fun v A=>∃ g,v = .tuple #[.int .i64 b,.slice (some ⟨g,0,none⟩) 1 1,.bool true] ∧ A = [CoB xb lb tb cb mb db wb sb c tv dead,CtB cb c.block la1 re1,(g,cl ((Ch.res rs).row none 0) 69)]:=by
 obtain ⟨_,_,_,_,_,_,⟨g1,g2⟩,_,_⟩:=id hc
 refine Con.intro (vs:=[_]) Tryz.func156 rfl Tryz.ntmps156 rfl (fun B=>?_)
 refine zg4 ?_
 refine Ops.call (bnext_spec cb c.block la re g1 g2 h0 h1 h2) rfl (noPd rfl) rfl rfl rfl (fun v A' hR=>?_)
 rw [hn] at hR
 obtain ⟨rfl,rfl⟩:=hR
 dsimp only
 repeat' (first|refine Cd.seq ?_|refine Cd.reg ?_|refine Ops.nil ?_|refine Ops.mv rfl rfl rfl rfl ?_|refine Ops.asg rfl rfl rfl rfl ?_|refine Ops.bin rfl rfl rfl rfl rfl ?_|refine Ops.ext rfl rfl rfl rfl rfl ?_|refine Ops.bld rfl rfl rfl rfl ?_|refine Ops.bs1 rfl rfl rfl rfl rfl rfl rfl (noPd rfl) (fun b=>?_)|refine Cd.condF rfl rfl ?_|refine Cd.skip (Cd.next ?_)|refine Cd.condF rfl zp0 ?_)
 rename Nat=>g
 exact Cd.ret (ret3 (A':=[CoB xb lb tb cb mb db wb sb c tv dead,CtB cb c.block la1 re1,(g,cl ((Ch.res rs).row none 0) 69)]) rfl (Res.tmp rfl) (Res.tmp rfl) (Res.tmp rfl) (fun _ h=>h.split) ⟨g,rfl,rfl⟩)
@[reducible] def heV (xb:Nat) (node life:Int) (m:Ms):List Value:=[ptr xb,.int .i64 node,.int .i64 life,.int .i64 m.kind,.int .i64 m.session,.int .i64 m.number,.int .i64 m.job,.int .i64 m.badge,.int .i64 m.index,.int .i64 m.count,.int .i64 m.rcode,.int .u64 m.rbits,.string m.text,.string m.prog]
theorem slot_spec (xb:Nat) (node life:Int) (m:Ms) (h1:2 ≤ node) (h2:node ≤ 9):Con Tryz.prog 155 #[.agg (heV xb node life m).toArray] [] fun v A=>v = .int .i64 (node - 2) ∧ A = []:=by
 refine Con.intro (vs:=[_]) Tryz.func155 rfl Tryz.ntmps155 rfl (fun B=>?_)
 repeat' (first|refine Cd.seq ?_|refine Cd.reg ?_|refine Ops.nil ?_|refine Ops.asg rfl rfl rfl rfl ?_|refine Ops.fa0 rfl rfl rfl rfl ?_|refine Ops.fa rfl rfl rfl rfl ?_|refine Ops.ld1 rfl rfl rfl rfl rfl ?_|refine Ops.subI rfl rfl rfl rfl (by omega) (by omega) rfl ?_|refine Ops.box rfl rfl rfl rfl (noPd rfl) (fun b=>?_))
 exact ze8
theorem told_spec (m:Ms) (hok:MsOk m):Con Tryz.prog 158 #[.agg m.row.toArray] [] fun v A=>v = .string (encF m).1 ∧ A = []:=by
 refine Con.intro (vs:=[_]) Tryz.func158 rfl Tryz.ntmps158 rfl (fun B=>?_)
 repeat' (first|refine Cd.seq ?_|refine Cd.reg ?_|refine Ops.asg rfl rfl rfl rfl ?_|refine Ops.ldN rfl rfl rfl rfl ?_|refine Ops.box rfl rfl rfl rfl (noPd rfl) (fun b=>?_))
 refine Ops.call (wencode_spec m hok) rfl (noPd rfl) rfl rfl rfl (fun v A' hR=>?_)
 obtain ⟨rfl,rfl⟩:=hR
 refine zg5 ?_
 exact ze8
theorem makes_own (B0:Base) (xb lb tb cb mb db wb sb:Nat) (c:Cf) (dead:Bool) (w w1:Wl) (x x1:Dk) (k:Nat) (D:List Blk) (hD:DkA db x k D) (s:StP) (SD:List Blk) (hS:StA sb s SD) (ok:StOk s) (tv:Value) (tl:List Cg) (TG:List Blk) (hT:OwnC tv tl TG) (htl:tl.length ≤ 1000000000)
  (g:Nat) (r:Int) (wok:WlOk w x.S.length) (hk:k ≤ 800000000000)
  (hz:(encodeF [Ch.res r]).1.size ≤ 900000) (hev:w.recs < c.every) (hrm:(encodeF [Ch.res r]).1.size ≤ roomW w x.S.length) (hap:appendF w x (encodeF [Ch.res r]).1 = ((w1,x1),0)) :
  ConB Tryz.prog B0 45 #[ptr xb,.slice (some ⟨g,0,none⟩) 1 1] (CoB xb lb tb cb mb db wb sb c tv dead :: WlB wb db w :: (SD ++ (D ++ (TG ++ [(g,cl ((Ch.res r).row none 0) 69)]))))
   fun v X=>∃ SD1 D1 tv1 TG1,X = CoB xb lb tb cb mb db wb sb c tv1 dead :: WlB wb db w1 :: (SD1 ++ (D1 ++ (TG1 ++ [(g,cl ((Ch.res r).row none 0) 69)]))) ∧ StA sb (applyF s [Ch.res r]).2 SD1 ∧ DkA db x1 (k + (encodeF [Ch.res r]).1.size + 20) D1 ∧ OwnC tv1 (tl ++ [⟨Ch.res r,none,0⟩]) TG1:=by
 rw [show CoB xb lb tb cb mb db wb sb c tv dead :: WlB wb db w :: (SD ++ (D ++ (TG ++ [(g,cl ((Ch.res r).row none 0) 69)]))) = (CoB xb lb tb cb mb db wb sb c tv dead :: WlB wb db w :: (SD ++ (D ++ TG))) ++ [(g,cl ((Ch.res r).row none 0) 69)] from by simp only [List.cons_append,List.append_assoc]]
 refine ConB.mono (ConB.lend (R:=fun v A=>∃ SD1 D1 tv1 TG1,A = CoB xb lb tb cb mb db wb sb c tv1 dead :: WlB wb db w1 :: (SD1 ++ (D1 ++ TG1)) ∧ StA sb (applyF s [Ch.res r]).2 SD1 ∧ DkA db x1 (k + (encodeF [Ch.res r]).1.size + 20) D1 ∧ OwnC tv1 (tl ++ [⟨Ch.res r,none,0⟩]) TG1) fun B1 e hG=>?_) (fun v X hR=>by
  obtain ⟨A,⟨SD1,D1,tv1,TG1,rfl,q1,q2,q3⟩,rfl⟩:=hR
  exact ⟨SD1,D1,tv1,TG1,by simp only [List.cons_append,List.append_assoc],q1,q2,q3⟩)
 ·skip
  have hO:Own 69 10 (.slice (some ⟨g,0,none⟩) 1 1) [(Ch.res r).row none 0] [(g,cl ((Ch.res r).row none 0) 69)]:=⟨RowsOk.one rfl rfl,.inr ⟨g,1,[],rfl,rfl,rfl,Nat.le_refl _⟩⟩
  have hr:RIn 10 B1 (some ⟨g,0,none⟩) [(Ch.res r).row none 0]:=Own.rin hO hG
  have hC:CIn B1 (some ⟨g,0,none⟩) [⟨Ch.res r,none,0⟩]:=⟨hr,fun q hq=>(by
   rw [List.mem_singleton] at hq;subst hq
   intro i t ht;cases ht),fun q hq=>(by rw [List.mem_singleton] at hq;subst hq;exact Nat.zero_le _),fun q hq=>(by rw [List.mem_singleton] at hq;subst hq;show (0:Int) ≤ 0 ∧ (0:Int) < _;omega)⟩
  exact makes_spec B1 xb lb tb cb mb db wb sb c dead w w1 x x1 k D hD s SD hS ok tv tl TG hT htl (some ⟨g,0,none⟩) 1 [⟨Ch.res r,none,0⟩] hC (by show (0:Nat) < 1;omega) (by show (1:Nat) ≤ 2000000;omega) (fun q hq _=>(by rw [List.mem_singleton] at hq;subst hq;exact step_reserve B1 _ rfl)) wok hk hz hev hrm hap
theorem hello_new (B0:Base) (xb lb tb cb mb db wb sb:Nat) (c:Cf) (hc:CfOk c) (dead:Bool) (w w1:Wl) (x x1:Dk) (k:Nat) (D:List Blk) (hD:DkA db x k D) (s:StP) (SD:List Blk) (hS:StA sb s SD) (ok:StOk s) (tv:Value) (tl:List Cg) (TG:List Blk) (hT:OwnC tv tl TG) (htl:tl.length ≤ 1000000000)
  (sv:Value) (rs:List Se.Dk) (G:List Blk) (hO:Se.OwnK sv rs G) (la re bg r la1 re1:Int) (h0:0 ≤ re) (h1:re ≤ 1099511627776) (h2:0 ≤ la) (hn:nextB c.block la re = ((bg,r,0),la1,re1)) (hr0:r ≠ 0) (hbg:0 ≤ bg ∧ bg ≤ 1099511627776)
  (wok:WlOk w x.S.length) (hk:k ≤ 800000000000)
  (hz:(encodeF [Ch.res r]).1.size ≤ 900000) (hev:w.recs < c.every) (hrm:(encodeF [Ch.res r]).1.size ≤ roomW w x.S.length) (hap:appendF w x (encodeF [Ch.res r]).1 = ((w1,x1),0))
  (node life:Int) (m:Ms) (hn1:2 ≤ node) (hn2:node ≤ 9) (hfr:Se.helloV (Se.rowAt rs (node - 2)) life = (2,0)) :
  ConB Tryz.prog B0 91 #[.agg (heV xb node life m).toArray] (CoB xb lb tb cb mb db wb sb c tv dead :: (Se.TabB tb sv G ++ (CtB cb c.block la re :: WlB wb db w :: (SD ++ (D ++ TG)))))
   fun v A=>v = .string (encF ⟨7,bg,0,0,0,0,0,0,0,⟨#[]⟩,⟨#[]⟩⟩).1 ∧ ∃ SD1 D1 tv1 TG1 G1,A = CoB xb lb tb cb mb db wb sb c tv1 dead :: (Se.TabB tb sv G1 ++ (CtB cb c.block la1 re1 :: WlB wb db w1 :: (SD1 ++ (D1 ++ TG1)))) ∧ StA sb (applyF s [Ch.res r]).2 SD1 ∧ DkA db x1 (k + (encodeF [Ch.res r]).1.size + 20) D1 ∧ OwnC tv1 (tl ++ [⟨Ch.res r,none,0⟩]) TG1 ∧ Se.OwnK sv (Se.putRow rs (node - 2) (Se.openV (Se.rowAt rs (node - 2)) (node - 2) life bg)) G1:=by
 refine ConB.intro (vs:=[_]) Tryz.func91 rfl Tryz.ntmps91 rfl (fun B hB=>?_)
 repeat' (first|refine Cd.seq ?_|refine Cd.reg ?_|refine Ops.asg rfl rfl rfl rfl ?_|refine Ops.box rfl rfl rfl rfl (noPd rfl) (fun b=>?_))
 rename Nat=>hb
 refine Cd.draw [(0,0,[]),(1,1,[]),(2,0,[]),(3,0,[]),(4,0,[]),(5,1,[]),(6,1,[]),(8,0,[]),(9,0,[]),(10,1,[]),(7,2,[1,5,10]),(11,2,[]),(12,0,[]),(13,0,[]),(14,0,[]),(15,0,[]),(16,0,[])] (by kernel_rfl) (by kernel_rfl) (by simp only [picked,nth];exact rfl) ?_
 refine zg9 ?_
 refine Ops.call (slot_spec xb node life m hn1 hn2) rfl zp1 rfl rfl rfl (fun v A' hR=>?_)
 obtain ⟨rfl,rfl⟩:=hR
 skip
 refine Ops.call (Se.hello_fun tb sv rs G (node - 2) life hO) rfl zp1 rfl rfl rfl (fun v A' hR=>?_)
 rw [hfr] at hR
 obtain ⟨rfl,rfl⟩:=hR
 dsimp only
 refine zg7 ?_
 refine Ops.call (draws_new xb lb tb cb mb db wb sb c hc tv dead la re bg r la1 re1 h0 h1 h2 hn hr0) rfl (noPd rfl) rfl rfl rfl (fun v A' hR=>?_)
 obtain ⟨g,rfl,rfl⟩:=hR
 refine zg7 ?_
 refine Ops.callB (makes_own B0 xb lb tb cb mb db wb sb c dead w w1 x x1 k D hD s SD hS ok tv tl TG hT htl g r wok hk hz hev hrm hap) hB rfl (noPd rfl) rfl rfl rfl (fun v A' hR=>?_)
 obtain ⟨SD1,D1,tv1,TG1,rfl,hS1,hD1,hT1⟩:=hR
 refine zg0 ?_
 refine Cd.draw [(0,0,[]),(1,1,[]),(2,0,[]),(3,0,[]),(4,0,[]),(5,1,[]),(6,1,[]),(8,0,[]),(9,0,[]),(10,1,[]),(11,0,[]),(7,2,[1,5,10]),(12,2,[])] (by kernel_rfl) (by kernel_rfl) (by simp only [picked,nth];exact rfl) ?_
 refine zg9 ?_
 refine Ops.call (slot_spec xb node life m hn1 hn2) rfl zp1 rfl rfl rfl (fun v A' hR=>?_)
 obtain ⟨rfl,rfl⟩:=hR
 skip
 refine Ops.call (Se.open_fun tb sv rs G (node - 2) life bg hO) rfl (noPd rfl) rfl rfl rfl (fun v A' hR=>?_)
 obtain ⟨⟨er,rfl⟩,G1,rfl,hO1⟩:=hR
 refine zg8 ?_
 refine Ops.call (told_spec ⟨7,bg,0,0,0,0,0,0,0,⟨#[]⟩,⟨#[]⟩⟩ ⟨Nat.zero_le _,Nat.zero_le _,by show (0:Int) ≤ 0 ∧ (0:Int) < _;omega⟩) rfl (noPd rfl) rfl rfl rfl (fun v A' hR=>?_)
 obtain ⟨rfl,rfl⟩:=hR
 refine zg1 ?_
 exact Cd.ret (ret1 (A':=CoB xb lb tb cb mb db wb sb c tv1 dead :: (Se.TabB tb sv G1 ++ (CtB cb c.block la1 re1 :: WlB wb db w1 :: (SD1 ++ (D1 ++ TG1))))) rfl (Res.tmp rfl) (fun _ h=>h.split) ⟨rfl,SD1,D1,tv1,TG1,G1,rfl,hS1,hD1,hT1,hO1⟩)
end Go.Proofs.YtaecdnfkcebbeaaGreat
