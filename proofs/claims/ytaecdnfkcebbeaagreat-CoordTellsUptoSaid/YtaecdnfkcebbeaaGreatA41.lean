import Derived.Test.YtaecdnfkcebbeaaGreatA01
import Derived.Test.YtaecdnfkcebbeaaGreatA40
import Derived.Test.YtaecdnfkcebbeaaGreatA22
import Derived.Test.YtaecdnfkcebbeaaGreatA37
import Derived.Test.YtaecdnfkcebbeaaGreatA09
set_option linter.unusedVariables false
set_option linter.unusedSimpArgs false
namespace Go.Proofs.YtaecdnfkcebbeaaGreat
open Go Go.Sep Go.Proofs
set_option maxRecDepth 10000
set_option maxHeartbeats 40000000
set_option synthInstance.maxSize 2000
theorem submit_over (B0:Base) (xb lb tb cb mb db wb sb:Nat) (c:Cf) (tv:Value) (x:Dk) (k:Nat) (D:List Blk) (hD:DkA db x k D) (hde:x.de = false) (F:List Blk) (p:ByteArray) (R:Int → Int → List Blk → Prop)
  (hd:∀ px bx xx jx,ConB Tryz.prog B0 47 #[ptr px,ptr bx,ptr xx,ptr jx] (CoB xb lb tb cb mb db wb sb c tv false :: (D ++ (F ++ SmB px bx xx jx xb p 0 0))) fun v A=>∃ bad job A1,R bad job A1 ∧ A = A1 ++ SmB px bx xx jx xb p bad job) :
  ConB Tryz.prog B0 23 #[ptr xb,.string p] (CoB xb lb tb cb mb db wb sb c tv false :: (D ++ F)) fun v A=>∃ bad job,v = .tuple #[.int .i64 job,.int .i64 bad] ∧ R bad job A:=by
 refine ConB.intro (vs:=[_,_]) Tryz.func23 rfl Tryz.ntmps23 rfl (fun B hB=>?_)
 repeat' (first|refine Ops.mkF rfl rfl rfl rfl rfl ?_|refine Cd.seq ?_|refine Cd.reg ?_|refine Ops.asg rfl rfl rfl rfl ?_|refine Ops.ld1 rfl rfl rfl rfl rfl ?_|refine Ops.box rfl rfl rfl rfl (noPd rfl) (fun b=>?_)|refine Ops.alloc rfl rfl rfl (noPd rfl) (fun b=>?_)|refine Ops.st1 rfl rfl rfl rfl rfl (noPd rfl) ?_)
 rename_i xx px jx
 rename Nat=>bx
 refine Ops.callB (caught_calm B0 xb lb tb cb mb db wb sb c tv x k D hD hde _ 47 [ptr px,ptr bx,ptr xx,ptr jx] _ (hd px bx xx jx)) hB rfl (noPd rfl) rfl rfl rfl (fun v A' hR=>?_)
 obtain ⟨rfl,v0,bad,job,A1,hR,rfl⟩:=hR
 refine zg13 ?_
 refine Cd.draw [(0,1,[]),(1,1,[]),(2,0,[]),(3,0,[])] (by kernel_rfl) (by kernel_rfl) (by simp only [picked,nth];exact rfl) ?_
 refine zg7 ?_
 exact Cd.ret (ret2 (A':=A1) rfl (Res.tmp rfl) (Res.tmp rfl) (fun _ h=>h.split) ⟨bad,job,rfl,hR⟩)
def submitO (c:Cf) (o:Co) (p:ByteArray) (e:Int):Co :=
 if e = 0 ∧ o.q.st.rows.length < 8 then o.mk_ c [subC ((o.q.st.rows.length:Nat) + 1) p] o.q.ls o.q.la o.q.ws o.rs else o
theorem sub_fine {c:Cf} {q:Cq} (h:CqOk c q) {p:ByteArray} (hn:q.st.rows.length < 8) (hp:1 ≤ p.size ∧ p.size ≤ 1024) :
  (encodeF [subC ((q.st.rows.length:Nat) + 1) p]).2 = 0 ∧ ∃ st,applyF q.st [subC ((q.st.rows.length:Nat) + 1) p] = ((0,0),st) ∧ st.res = q.st.res ∧ CqOk c { q with st:=st }:=by
 have hck:checkF (subC ((q.st.rows.length:Nat) + 1) p) = 0:=sub_check (by omega) hp
 obtain ⟨st,h1,h2⟩:=h.sub hn hck
 refine ⟨enc_one hck (by have:=put_sub ((q.st.rows.length:Nat) + 1) p (by omega) hp.2;omega),st,by show applyG q.st q.st 0 [_] = _;rw [applyG_cons hck h1];rfl,?_,h2⟩
 unfold stepF at h1
 rw [if_neg (by show ¬ ((2:Int) = 1);decide),if_pos rfl] at h1
 split at h1
 ·cases h1
 ·injection h1 with h1;rw [← h1]
theorem CoOk.submit {c:Cf} {len n:Nat} {o:Co} (h:CoOk c len n o) (hc:CfOk c) (hlen:20480 ≤ roomF len) (hn:n ≤ 2000000) {p:ByteArray} {e:Int} (hp:e = 0 → 1 ≤ p.size ∧ p.size ≤ 1024) :
  CoOk c len (n + 1) (submitO c o p e) ∧ ∃ cs,(submitO c o p e).tl = o.tl ++ cs ∧ applyF o.q.st cs = ((0,0),(submitO c o p e).q.st):=by
 unfold submitO
 split
 ·rename_i hq
  obtain ⟨h1,st,h2,_,h3⟩:=sub_fine h.cq hq.2 (hp hq.1)
  have hl:=h.ln
  refine ⟨h.mk_ hc hlen hn h2 h3 (fun _=>h1) (by simp) (fun ch hch=>by rw [List.mem_singleton] at hch;subst hch;exact ⟨Nat.zero_le _,by show (0:Int) ≤ 0 ∧ (0:Int) < _;omega⟩) h.rsI (by omega),_,rfl,?_⟩
  show applyF _ _ = ((0,0),(applyF _ _).2)
  rw [h2]
 ·exact ⟨h.later,[],by rw [List.append_nil],rfl⟩
theorem co_submit (B0:Base) (xb db:Nat) (c:Cf) (hc:CfOk c) (len n:Nat) (hlen:20480 ≤ roomF len) (hn:n ≤ 2000000) (o:Co) (h:CoOk c len n o) (A:List Blk) (hA:CoP xb db c n o A) (p:ByteArray) (hup:UnpackW B0 p) :
  ConB Tryz.prog B0 23 #[ptr xb,.string p] A fun v A'=>∃ bad job:Int,v = .tuple #[.int .i64 job,.int .i64 bad] ∧ bad ≠ 2 ∧ ∃ e:Int,(e = 0 → 1 ≤ p.size ∧ p.size ≤ 1024) ∧ CoP xb db c (n + 1) (submitO c o p e) A':=by
 obtain ⟨A0,hp1,hA⟩:=hA
 have hAA:=hA
 obtain ⟨lb,lm,tb,cb,mb,wb,sb,tv,les,lck,sv,G,mes,mck_,SD,k,D,TG,TX,WG,rfl,hL,hO,hW,hS,hD,hk,hT⟩:=hA
 have hde:=h.lg.cm.de
 have hnm:=h.nm
 have htn:=h.tn
 obtain ⟨cgs,hcg,hcm,hct⟩:=hT
 have hcl:cgs.length ≤ 1000000000:=by
  have:cgs.length = o.tl.length:=by rw [← hcm,List.length_map]
  omega
 have hperm:(CoL xb lb lm tb cb mb db wb sb c o.q.la o.q.st.res tv les lck sv G mes mck_ o.w SD D TG TX WG).Perm (CoB xb lb tb cb mb db wb sb c tv false :: (D ++ (Ls.TB lb lm c.lease les lck ++ (Se.TabB tb sv G ++ (CtB cb c.block o.q.la o.q.st.res :: (mb,mpo mes mck_) :: WlB wb db o.w :: (SD ++ (TG ++ (TX ++ WG)))))))):=by
  refine perm_of fun c g ha hc' hp h0=>?_
  simp only [CoL,List.cons_append,List.append_assoc,List.nil_append,ha,hc',h0];omega
 refine ConB.permIn ?_ (hp1.trans hperm)
 refine (submit_over B0 xb lb tb cb mb db wb sb c tv o.x k D hD hde _ p (fun bad job A=>bad ≠ 2 ∧ ∃ e:Int,(e = 0 → 1 ≤ p.size ∧ p.size ≤ 1024) ∧ CoP xb db c (n + 1) (submitO c o p e) A) fun px bx xx jx=>?_).mono fun v A' hR=>hR
 have hne:([subC ((o.q.st.rows.length:Nat) + 1) p]:List Ch) ≠ []:=by simp
 have hg:=(sub1_spec B0 xb lb tb cb mb db wb sb px bx xx jx c hc false o.w o.x len h.lg hlen (by omega) k D hD (by omega) o.q.st SD hS h.cq.ok h.cq.bd tv cgs TG hcg hcl p hup (fun hf q1 q2=>(sub_fine h.cq hf ⟨q1,q2⟩).1)).beside (F:=Ls.TB lb lm c.lease les lck ++ (Se.TabB tb sv G ++ (CtB cb c.block o.q.la o.q.st.res :: (mb,mpo mes mck_) :: (TX ++ WG))))
 refine (hg.permIn ?_).permOut fun v A' hR=>?_
 ·refine perm_of fun c g ha hc' hp h0=>?_
  simp only [List.cons_append,List.append_assoc,List.nil_append,ha,hc',h0];omega
 ·obtain ⟨A2,⟨bad,job,A1,hR,rfl⟩,rfl⟩:=hR
  rcases hR with ⟨hb0,hb2,rfl,rfl⟩|⟨rfl,rfl,hf,hps,SD1,D1,tv1,TG1,k1,rfl,hS1,hD1,hk1,hT1⟩
  ·have hh:submitO c o p 1 = o:=if_neg (fun q=>by have:=q.1;omega)
   refine ⟨_,⟨bad,0,CoL xb lb lm tb cb mb db wb sb c o.q.la o.q.st.res tv les lck sv G mes mck_ o.w SD D TG TX WG,⟨hb2,1,fun q=>absurd q (by decide),?_⟩,rfl⟩,?_⟩
   ·rw [hh]
    exact ⟨_,List.Perm.refl _,hAA.later⟩
   ·refine perm_of fun c g ha hc' hp h0=>?_
    simp only [CoL,List.cons_append,List.append_assoc,List.nil_append,ha,hc',h0];omega
  ·obtain ⟨h1,st,h2,hres,h3⟩:=sub_fine h.cq hf hps
   rw [← mkR_some (s:=o.q.st) hne] at hD1 ⊢
   have hh:submitO c o p 0 = o.mk_ c [subC ((o.q.st.rows.length:Nat) + 1) p] o.q.ls o.q.la o.q.ws o.rs:=if_pos ⟨rfl,hf⟩
   refine ⟨_,⟨0,((o.q.st.rows.length:Nat):Int) + 1,CoL xb lb lm tb cb mb db wb sb c o.q.la o.q.st.res tv1 les lck sv G mes mck_ (mkR c.every o.w o.x o.q.st [subC ((o.q.st.rows.length:Nat) + 1) p]).1 SD1 D1 TG1 TX WG,⟨by decide,0,fun _=>hps,?_⟩,rfl⟩,?_⟩
   ·rw [hh]
    refine ⟨_,List.Perm.refl _,lb,lm,tb,cb,mb,wb,sb,tv1,les,lck,sv,G,mes,mck_,SD1,k1,D1,TG1,TX,WG,?_,hL,hO,hW,hS1,hD1,by omega,?_⟩
    ·show _ = CoL xb lb lm tb cb mb db wb sb c o.q.la (applyF o.q.st [subC ((o.q.st.rows.length:Nat) + 1) p]).2.res _ _ _ _ _ _ _ _ _ _ _ _ _
     rw [h2,hres];rfl
    ·show ToldA tv1 (o.tl ++ _) TG1 TX
     rw [← hcm]
     exact ToldA.bare (l:=[⟨subC ((o.q.st.rows.length:Nat) + 1) p,none,0⟩]) hT1 hct (fun g hg=>by rw [List.mem_singleton] at hg;subst hg;exact ⟨rfl,rfl,by show (0:Int) ≤ 0 ∧ (0:Int) < _;omega⟩)
   ·refine perm_of fun c g ha hc' hp h0=>?_
    simp only [CoL,List.cons_append,List.append_assoc,List.nil_append,ha,hc',h0];omega
def FormsOk (rows:List (List Value)):Prop:=rows.length = 25 ∧ ∀ r ∈ rows,∃ w n b1 b2,r = [.string w,.int .i64 n,.bool b1,.bool b2] ∧ 0 ≤ n ∧ n ≤ 3
theorem forms_spec:Con Tryz.prog 102 #[] [] fun v A=>∃ g rows,v = .slice (some ⟨g,0,none⟩) 25 25 ∧ A = [(g,cl (rows.flatten ++ []) 186)] ∧ FormsOk rows ∧ RowsOk 4 rows:=by
 refine Con.intro (vs:=[]) Tryz.func102 rfl Tryz.ntmps102 rfl (fun B=>?_)
 refine zg8 ?_
 refine Ops.bsN _ rfl rfl rfl rfl rfl rfl rfl rfl rfl rfl (noPd rfl) (fun g=>?_)
 refine zg1 ?_
 refine Cd.ret (ret1 rfl (Res.tmp rfl) (fun _ h=>h) ⟨g,_,rfl,rfl,⟨rfl,?_⟩,?_⟩)
 ·repeat (first|exact List.forall_mem_nil _|refine List.forall_mem_cons.2 ⟨⟨_,_,_,_,rfl,by decide,by decide⟩,?_⟩)
 ·intro r hr
  revert r
  repeat (first|exact List.forall_mem_nil _|refine List.forall_mem_cons.2 ⟨⟨rfl,rfl⟩,?_⟩)
end Go.Proofs.YtaecdnfkcebbeaaGreat
namespace Go.Sep
open Go
section
variable {P:Program} {N:Fi} {B:Base} {T:Tm} {A:List Blk} {ops:Array Oper}
variable {ty:TypeId} {pos:String} {af:Array Edge} {gd:Option (Nat × Bool)}
theorem Still.ldRowA {i' dd t:Nat} {x:Operand} {b i:Nat} {sz bs:Nat} {zc r:List Value} {rows:List (List Value)} {spare:List Value} {E:TypeId} (ho:ops[i']? = some ⟨some dd,.load t x,ty,pos,af,gd⟩) (hg:gst ops T gd = some true) [ht:Ty P t true sz bs zc]
  (hx:ev T x = some (.pointer (some ⟨b,i * sz,none⟩))) [hb:Has A b (cl (rows.flatten ++ spare) E)] (hr:RowsOk sz rows) (hi:rows[i]? = some r) (hl:look T dd = some (.agg r.toArray)):Still P N B ops T A i' :=
 ⟨_,dd,.agg r.toArray,ho,rfl,hl,fun a w hF hS=>.inl ⟨gst_wanted (o:=⟨some dd,.load t x,ty,pos,af,gd⟩) hF hg,by
  have hl:=(hr r (List.mem_of_getElem? hi)).1
  simp [execOp,hF.eval hx,run_loadAtN ht hl (fun j u hu=>by
   have hj:j < sz:=by rw [← hl];exact (List.getElem?_eq_some_iff.1 hu).1
   have h1:=hr.at_ hi hj
   rw [cell_of (hS.here _ hb.mem),List.getElem?_append_left (List.getElem?_eq_some_iff.1 (h1.trans hu)).1,h1,hu])]⟩⟩
end
end Go.Sep
namespace Go.Proofs.YtaecdnfkcebbeaaGreat
open Go Go.Sep Go.Proofs
set_option maxRecDepth 10000
set_option maxHeartbeats 40000000
set_option synthInstance.maxSize 2000
structure Fm where
 w:ByteArray
 n:Int
 b1:Bool
 b2:Bool
@[reducible] def insR (op a b c n k:Int):List Value:=[.int .i64 op,.int .i64 a,.int .i64 b,.int .i64 c,.int .i64 n,.int .u64 k]
theorem FormsOk.at_ {rows:List (List Value)} (h:FormsOk rows) {i:Int} (h0:0 ≤ i) (h1:i < 25):∃ f:Fm,rows[i.toNat]? = some [.string f.w,.int .i64 f.n,.bool f.b1,.bool f.b2] ∧ 0 ≤ f.n ∧ f.n ≤ 3:=by
 have hl:i.toNat < rows.length:=by rw [h.1];omega
 have hg:=List.getElem?_eq_getElem hl
 obtain ⟨w,n,b1,b2,e,q1,q2⟩:=h.2 _ (List.getElem_mem hl)
 exact ⟨⟨w,n,b1,b2⟩,by rw [hg,e],q1,q2⟩
theorem wrong_spec (op a b c n k many:Int) (hk:0 ≤ k ∧ k < 18446744073709551616):Con Tryz.prog 179 #[.agg (insR op a b c n k).toArray,.int .i64 many] [] fun v A=>(∃ e,v = .int .i64 e) ∧ A = []:=by
 obtain ⟨kn,rfl⟩:∃ m:Nat,k = m:=⟨k.toNat,by omega⟩
 refine Con.intro (vs:=[_,_]) Tryz.func179 rfl Tryz.ntmps179 rfl (fun B=>?_)
 generalize hc3:Code.seq (Code.region 3 _ _) _ = c3
 by_cases h1:op < 1
 ·repeat' (first|refine Cd.seq ?_|refine Cd.reg ?_|refine Ops.nil ?_|refine Ops.mv rfl rfl rfl rfl ?_|refine Ops.asg rfl rfl rfl rfl ?_|refine Ops.fa0 rfl rfl rfl rfl ?_|refine Ops.ld1 rfl rfl rfl rfl rfl ?_|refine Ops.bin rfl rfl rfl rfl rfl ?_|refine Ops.pickT rfl rfl rfl rfl rfl ?_|refine Ops.box rfl rfl rfl rfl (noPd rfl) (fun b=>?_)|refine Ops.gSkip rfl rfl rfl ?_|refine Cd.condT rfl rfl ?_|((fail_if_success refine Ops.probe rfl ?_);refine Ops.gT rfl rfl zp0 ?_))
  exact ze2
 by_cases h2:25 ≤ op
 ·repeat' (first|refine Cd.seq ?_|refine Cd.reg ?_|refine Ops.nil ?_|refine Ops.mv rfl rfl rfl rfl ?_|refine Ops.asg rfl rfl rfl rfl ?_|refine Ops.fa0 rfl rfl rfl rfl ?_|refine Ops.ld1 rfl rfl rfl rfl rfl ?_|refine Ops.bin rfl rfl rfl rfl rfl ?_|refine Ops.pickF rfl rfl rfl rfl rfl ?_|refine Ops.box rfl rfl rfl rfl (noPd rfl) (fun b=>?_)|refine Cd.condT rfl zp0 ?_|((fail_if_success refine Ops.probe rfl ?_);refine Ops.gF rfl rfl zp0 ?_))
  exact ze2
 repeat' (first|refine Cd.seq ?_|refine Cd.reg ?_|refine Ops.nil ?_|refine Ops.mv rfl rfl rfl rfl ?_|refine Ops.asg rfl rfl rfl rfl ?_|refine Ops.fa0 rfl rfl rfl rfl ?_|refine Ops.ld1 rfl rfl rfl rfl rfl ?_|refine Ops.bin rfl rfl rfl rfl rfl ?_|refine Ops.pickF rfl rfl rfl rfl rfl ?_|refine Ops.box rfl rfl rfl rfl (noPd rfl) (fun b=>?_)|refine Cd.skip (Cd.next ?_)|refine Cd.condF rfl zp0 ?_|((fail_if_success refine Ops.probe rfl ?_);refine Ops.gF rfl rfl zp0 ?_))
 rename Nat=>ib
 subst hc3
 refine Cd.cut (σ:=Nat × Fm) (fun t=>0 ≤ t.2.n ∧ t.2.n ≤ 3) (fun t=>[(1,.int .i64 many),(2,ptr ib),(5,ptr t.1)]) (fun t=>[(t.1,cl [.string t.2.w,.int .i64 t.2.n,.bool t.2.b1,.bool t.2.b2] 186),(ib,cl (insR op a b c n kn) 184)]) ?_ (fun t ht=>?_)
 ·refine Cd.draw [(1,0,[]),(2,1,[]),(0,4,[2]),(3,0,[]),(4,1,[]),(5,2,[2,4]),(6,2,[])] (by kernel_rfl) (by kernel_rfl) (by simp only [picked,nth];exact rfl) ?_
  refine zg2 ?_
  refine Ops.fork' [(1,0,[]),(2,1,[]),(5,4,[2]),(0,2,[2]),(3,0,[]),(4,1,[]),(6,2,[])] (by kernel_rfl) rfl (by simp only [picked,nth];exact rfl) ?_ ?_
  ·skip
   refine Ops.call forms_spec rfl zp7 rfl rfl rfl (fun v A' hR=>?_)
   obtain ⟨g,rows,rfl,rfl,hf,hok⟩:=hR
   obtain ⟨f,hx,hf0,hf3⟩:=hf.at_ (i:=op) (by omega) (by omega)
   refine Ops.ixa0 rfl rfl rfl rfl (by omega) (by omega) rfl ?_
   refine Ops.ldRow rfl rfl rfl hok hx rfl ?_
   refine Ops.alloc rfl rfl rfl zp14 (fun fb=>?_)
   refine zg34 ?_
   exact ze3
  ·skip
   repeat' (first|refine Ops.alloc rfl rfl rfl zp3 (fun b=>?_))
   rename Nat=>fb
   refine Ops.call forms_spec rfl zp7 rfl rfl rfl (fun v A' hR=>?_)
   obtain ⟨g,rows,rfl,rfl,hf,hok⟩:=hR
   obtain ⟨f,hx,hf0,hf3⟩:=hf.at_ (i:=op) (by omega) (by omega)
   refine zg42 ?_
   exact ze3
 ·obtain ⟨fb,fw,fn,b1,b2⟩:=t
  dsimp only at ht ⊢
  obtain ⟨hf0,hf3⟩:=ht
  generalize hc16:Code.seq (Code.region 16 _ _) _ = c16
  refine zg4 ?_
  refine Ops.bsN [[.int .i64 a],[.int .i64 b],[.int .i64 c]] rfl rfl rfl rfl rfl rfl rfl rfl rfl rfl (noPd rfl) (fun sb=>?_)
  refine zg3 ?_
  have hok:RowsOk 1 [[Value.int .i64 a],[Value.int .i64 b],[Value.int .i64 c]]:=by
   refine List.forall_mem_cons.2 ⟨⟨rfl,rfl⟩,List.forall_mem_cons.2 ⟨⟨rfl,rfl⟩,List.forall_mem_cons.2 ⟨⟨rfl,rfl⟩,List.forall_mem_nil _⟩⟩⟩
  have hat:∀ i:Int,0 ≤ i → i < 3 → ∃ g:Int,[[Value.int .i64 a],[Value.int .i64 b],[Value.int .i64 c]][i.toNat]? = some [.int .i64 g]:=fun i h0 h3=>by
   obtain rfl|rfl|rfl:i = 0 ∨ i = 1 ∨ i = 2:=by omega
   ·exact ⟨a,rfl⟩
   ·exact ⟨b,rfl⟩
   ·exact ⟨c,rfl⟩
  generalize hrs:[[Value.int .i64 a],[Value.int .i64 b],[Value.int .i64 c]] = rs at hok hat ⊢
  refine Cd.loopK (σ:=Int) (fun i=>0 ≤ i ∧ i ≤ 3) (fun i=>[(1,.int .i64 many),(2,ptr ib),(5,ptr fb),(27,.slice (some ⟨sb,0,none⟩) 3 3),(28,.int .i64 3),(29,.int .i64 i)]) (fun _=>(sb,cl (rs.flatten ++ []) 3) :: [(fb,cl [.string fw,.int .i64 fn,.bool b1,.bool b2] 186),(ib,cl (insR op a b c n kn) 184)]) (fun i=>(3 - i).toNat) 0 ⟨by omega,by omega⟩ ⟨rfl,rfl,rfl,rfl,rfl,rfl,trivial⟩ (fun w h=>h.split) (fun i hI=>?_)
  obtain ⟨hi0,hi3⟩:=hI
  by_cases hil:i < 3
  ·obtain ⟨g,hx⟩:=hat i hi0 hil
   by_cases c1:fn ≤ i
   ·by_cases c2:g = 0
    ·refine zg41 ?_
     exact ze4
    ·refine zg41 ?_
     exact ze2
   ·by_cases c3:g < 0
    ·refine zg41 ?_
     exact ze2
    ·by_cases c4:8 ≤ g
     ·refine zg41 ?_
      exact ze2
     ·refine zg41 ?_
      exact ze4
  ·obtain rfl:i = 3:=by omega
   clear hi0 hi3 hil
   cases b1
   ·by_cases g0:n = 0
    ·by_cases g3:many < n
     ·refine zg36 ?_
      exact ze2
     ·refine zg21 ?_
      subst hc16
      refine Cd.seq ?_
      cases b2
      ·by_cases gk:(kn:Int) = 0
       ·skip
        refine Cd.draw [(0,0,[]),(1,1,[]),(2,0,[]),(3,0,[]),(4,0,[]),(5,1,[]),(6,0,[]),(7,0,[]),(8,0,[]),(9,0,[]),(10,1,[]),(12,0,[]),(13,1,[]),(11,2,[13]),(14,0,[]),(15,0,[]),(16,0,[])] (by kernel_rfl) (by kernel_rfl) (by simp only [picked,nth];exact rfl) ?_
        refine zg11 ?_
        refine Ops.call (canon_spec kn) rfl zp1 rfl rfl rfl (fun v A' hR=>?_)
        obtain ⟨rfl,rfl⟩:=hR
        repeat' (first|refine Cd.seq ?_|refine Cd.reg ?_|refine Ops.nil ?_|refine Ops.asg rfl rfl rfl rfl ?_|refine Ops.bin rfl rfl rfl rfl rfl ?_|refine Ops.pickF rfl rfl rfl rfl rfl ?_|refine Cd.skip (Cd.next (Q':=fun _ _ _=>True) ?_)|(refine Cd.cond rfl (fun hc=>?_) (fun hc=>?_) <;> (try simp only [decide_eq_true_eq,decide_eq_false_iff_not,Bool.not_eq_true',Bool.not_eq_false',Bool.not_eq_eq_eq_not,Bool.not_true,Bool.not_false,Int.not_lt,Int.not_le] at hc)))
        all_goals skip
        all_goals exact Cd.ret (ret1 (A':=[]) rfl (Res.tmp rfl) (fun _ h=>h.split) ⟨⟨_,rfl⟩,rfl⟩)
       ·refine Cd.draw [(0,0,[]),(1,1,[]),(2,0,[]),(3,0,[]),(4,0,[]),(5,1,[]),(6,0,[]),(7,0,[]),(8,0,[]),(9,0,[]),(10,1,[]),(12,0,[]),(13,1,[]),(11,2,[13]),(14,0,[]),(15,0,[]),(16,0,[])] (by kernel_rfl) (by kernel_rfl) (by simp only [picked,nth];exact rfl) ?_
        refine zg22 ?_
        all_goals skip
        all_goals exact Cd.ret (ret1 (A':=[]) rfl (Res.tmp rfl) (fun _ h=>h.split) ⟨⟨_,rfl⟩,rfl⟩)
      ·skip
       refine Cd.draw [(0,0,[]),(1,1,[]),(2,0,[]),(3,0,[]),(4,0,[]),(5,1,[]),(6,0,[]),(7,0,[]),(8,0,[]),(9,0,[]),(10,1,[]),(12,0,[]),(13,1,[]),(11,2,[13]),(14,0,[]),(15,0,[]),(16,0,[])] (by kernel_rfl) (by kernel_rfl) (by simp only [picked,nth];exact rfl) ?_
       refine zg26 ?_
       refine Ops.call (canon_spec kn) rfl zp1 rfl rfl rfl (fun v A' hR=>?_)
       obtain ⟨rfl,rfl⟩:=hR
       repeat' (first|refine Cd.seq ?_|refine Cd.reg ?_|refine Ops.nil ?_|refine Ops.asg rfl rfl rfl rfl ?_|refine Ops.bin rfl rfl rfl rfl rfl ?_|refine Ops.pickF rfl rfl rfl rfl rfl ?_|refine Cd.skip (Cd.next (Q':=fun _ _ _=>True) ?_)|(refine Cd.cond rfl (fun hc=>?_) (fun hc=>?_) <;> (try simp only [decide_eq_true_eq,decide_eq_false_iff_not,Bool.not_eq_true',Bool.not_eq_false',Bool.not_eq_eq_eq_not,Bool.not_true,Bool.not_false,Int.not_lt,Int.not_le] at hc)))
       all_goals skip
       all_goals exact Cd.ret (ret1 (A':=[]) rfl (Res.tmp rfl) (fun _ h=>h.split) ⟨⟨_,rfl⟩,rfl⟩)
    ·refine zg29 ?_
     exact ze2
   ·by_cases g2:n < 0
    ·refine zg31 ?_
     exact ze2
    ·by_cases g3:many < n
     ·refine zg36 ?_
      exact ze2
     ·refine zg21 ?_
      subst hc16
      refine Cd.seq ?_
      cases b2
      ·by_cases gk:(kn:Int) = 0
       ·skip
        refine Cd.draw [(0,0,[]),(1,1,[]),(2,0,[]),(3,0,[]),(4,0,[]),(5,1,[]),(6,0,[]),(7,0,[]),(8,0,[]),(9,0,[]),(10,1,[]),(12,0,[]),(13,1,[]),(11,2,[13]),(14,0,[]),(15,0,[]),(16,0,[])] (by kernel_rfl) (by kernel_rfl) (by simp only [picked,nth];exact rfl) ?_
        refine zg11 ?_
        refine Ops.call (canon_spec kn) rfl zp1 rfl rfl rfl (fun v A' hR=>?_)
        obtain ⟨rfl,rfl⟩:=hR
        repeat' (first|refine Cd.seq ?_|refine Cd.reg ?_|refine Ops.nil ?_|refine Ops.asg rfl rfl rfl rfl ?_|refine Ops.bin rfl rfl rfl rfl rfl ?_|refine Ops.pickF rfl rfl rfl rfl rfl ?_|refine Cd.skip (Cd.next (Q':=fun _ _ _=>True) ?_)|(refine Cd.cond rfl (fun hc=>?_) (fun hc=>?_) <;> (try simp only [decide_eq_true_eq,decide_eq_false_iff_not,Bool.not_eq_true',Bool.not_eq_false',Bool.not_eq_eq_eq_not,Bool.not_true,Bool.not_false,Int.not_lt,Int.not_le] at hc)))
        all_goals skip
        all_goals exact Cd.ret (ret1 (A':=[]) rfl (Res.tmp rfl) (fun _ h=>h.split) ⟨⟨_,rfl⟩,rfl⟩)
       ·refine Cd.draw [(0,0,[]),(1,1,[]),(2,0,[]),(3,0,[]),(4,0,[]),(5,1,[]),(6,0,[]),(7,0,[]),(8,0,[]),(9,0,[]),(10,1,[]),(12,0,[]),(13,1,[]),(11,2,[13]),(14,0,[]),(15,0,[]),(16,0,[])] (by kernel_rfl) (by kernel_rfl) (by simp only [picked,nth];exact rfl) ?_
        refine zg22 ?_
        all_goals skip
        all_goals exact Cd.ret (ret1 (A':=[]) rfl (Res.tmp rfl) (fun _ h=>h.split) ⟨⟨_,rfl⟩,rfl⟩)
      ·skip
       refine Cd.draw [(0,0,[]),(1,1,[]),(2,0,[]),(3,0,[]),(4,0,[]),(5,1,[]),(6,0,[]),(7,0,[]),(8,0,[]),(9,0,[]),(10,1,[]),(12,0,[]),(13,1,[]),(11,2,[13]),(14,0,[]),(15,0,[]),(16,0,[])] (by kernel_rfl) (by kernel_rfl) (by simp only [picked,nth];exact rfl) ?_
       refine zg26 ?_
       refine Ops.call (canon_spec kn) rfl zp1 rfl rfl rfl (fun v A' hR=>?_)
       obtain ⟨rfl,rfl⟩:=hR
       repeat' (first|refine Cd.seq ?_|refine Cd.reg ?_|refine Ops.nil ?_|refine Ops.asg rfl rfl rfl rfl ?_|refine Ops.bin rfl rfl rfl rfl rfl ?_|refine Ops.pickF rfl rfl rfl rfl rfl ?_|refine Cd.skip (Cd.next (Q':=fun _ _ _=>True) ?_)|(refine Cd.cond rfl (fun hc=>?_) (fun hc=>?_) <;> (try simp only [decide_eq_true_eq,decide_eq_false_iff_not,Bool.not_eq_true',Bool.not_eq_false',Bool.not_eq_eq_eq_not,Bool.not_true,Bool.not_false,Int.not_lt,Int.not_le] at hc)))
       all_goals skip
       all_goals exact Cd.ret (ret1 (A':=[]) rfl (Res.tmp rfl) (fun _ h=>h.split) ⟨⟨_,rfl⟩,rfl⟩)
structure Inz where
 op:Int
 a:Int
 b:Int
 c:Int
 n:Int
 k:Int
@[reducible] def Inz.row (x:Inz):List Value:=insR x.op x.a x.b x.c x.n x.k
def Inz.Ok (x:Inz):Prop:=0 ≤ x.k ∧ x.k < 18446744073709551616
theorem pcheck_spec (B0:Base) (fuel:Int) (a:Option Addr) (cp:Nat) (l:List Inz) (hC:RIn 6 B0 a (l.map Inz.row)) (hk:∀ x ∈ l,x.Ok) :
  ConB Tryz.prog B0 104 #[.agg [.int .i64 fuel,.slice a l.length cp].toArray] [] fun v A=>(∃ e i:Int,v = .tuple #[.int .i64 e,.int .i64 i]) ∧ A = []:=by
 refine ConB.intro (vs:=[_]) Tryz.func104 rfl Tryz.ntmps104 rfl (fun B hB=>?_)
 by_cases h1:fuel < 1
 ·repeat' (first|refine Cd.seq ?_|refine Cd.reg ?_|refine Ops.nil ?_|refine Ops.mv rfl rfl rfl rfl ?_|refine Ops.asg rfl rfl rfl rfl ?_|refine Ops.fa0 rfl rfl rfl rfl ?_|refine Ops.ld1 rfl rfl rfl rfl rfl ?_|refine Ops.bin rfl rfl rfl rfl rfl ?_|refine Ops.pickT rfl rfl rfl rfl rfl ?_|refine Ops.box rfl rfl rfl rfl (noPd rfl) (fun b=>?_)|refine Ops.gSkip rfl rfl rfl ?_|refine Cd.condT rfl rfl ?_|refine Cd.block ?_|((fail_if_success refine Ops.probe rfl ?_);refine Ops.gT rfl rfl zp0 ?_))
  exact ze5
 by_cases h2:1024 < fuel
 ·repeat' (first|refine Cd.seq ?_|refine Cd.reg ?_|refine Ops.nil ?_|refine Ops.mv rfl rfl rfl rfl ?_|refine Ops.asg rfl rfl rfl rfl ?_|refine Ops.fa0 rfl rfl rfl rfl ?_|refine Ops.ld1 rfl rfl rfl rfl rfl ?_|refine Ops.bin rfl rfl rfl rfl rfl ?_|refine Ops.pickF rfl rfl rfl rfl rfl ?_|refine Ops.box rfl rfl rfl rfl (noPd rfl) (fun b=>?_)|refine Cd.block ?_|refine Cd.condT rfl zp0 ?_|((fail_if_success refine Ops.probe rfl ?_);refine Ops.gF rfl rfl zp0 ?_))
  exact ze5
 by_cases h3:(l.length:Int) < 1
 ·repeat' (first|refine Cd.seq ?_|refine Cd.reg ?_|refine Ops.nil ?_|refine Ops.mv rfl rfl rfl rfl ?_|refine Ops.asg rfl rfl rfl rfl ?_|refine Ops.fa0 rfl rfl rfl rfl ?_|refine Ops.ld1 rfl rfl rfl rfl rfl ?_|refine Ops.lenS rfl rfl rfl rfl ?_|refine Ops.bin rfl rfl rfl rfl rfl ?_|refine Ops.pickT rfl rfl rfl rfl rfl ?_|refine Ops.pickF rfl rfl rfl rfl rfl ?_|refine Ops.box rfl rfl rfl rfl (noPd rfl) (fun b=>?_)|refine Ops.gSkip rfl rfl rfl ?_|refine Cd.condT rfl rfl ?_|refine Cd.block ?_|refine Cd.condF rfl zp0 ?_|((fail_if_success refine Ops.probe rfl ?_);refine Ops.gT rfl rfl zp0 ?_)|((fail_if_success refine Ops.probe rfl ?_);refine Ops.gF rfl rfl zp0 ?_))
  exact ze5
 by_cases h4:(64:Int) < l.length
 ·repeat' (first|refine Cd.seq ?_|refine Cd.reg ?_|refine Ops.nil ?_|refine Ops.mv rfl rfl rfl rfl ?_|refine Ops.asg rfl rfl rfl rfl ?_|refine Ops.fa0 rfl rfl rfl rfl ?_|refine Ops.ld1 rfl rfl rfl rfl rfl ?_|refine Ops.lenS rfl rfl rfl rfl ?_|refine Ops.bin rfl rfl rfl rfl rfl ?_|refine Ops.pickF rfl rfl rfl rfl rfl ?_|refine Ops.box rfl rfl rfl rfl (noPd rfl) (fun b=>?_)|refine Cd.block ?_|refine Cd.condT rfl zp0 ?_|refine Cd.condF rfl zp0 ?_|((fail_if_success refine Ops.probe rfl ?_);refine Ops.gF rfl rfl zp0 ?_))
  exact ze5
 repeat' (first|refine Cd.seq ?_|refine Cd.reg ?_|refine Ops.nil ?_|refine Ops.mv rfl rfl rfl rfl ?_|refine Ops.asg rfl rfl rfl rfl ?_|refine Ops.fa0 rfl rfl rfl rfl ?_|refine Ops.ld1 rfl rfl rfl rfl rfl ?_|refine Ops.lenS rfl rfl rfl rfl ?_|refine Ops.bin rfl rfl rfl rfl rfl ?_|refine Ops.pickF rfl rfl rfl rfl rfl ?_|refine Ops.box rfl rfl rfl rfl (noPd rfl) (fun b=>?_)|refine Cd.block ?_|refine Cd.skip (Cd.next (Q':=fun _ _ _=>True) ?_)|refine Cd.condF rfl zp0 ?_|((fail_if_success refine Ops.probe rfl ?_);refine Ops.gF rfl rfl zp0 ?_))
 rename Nat=>pb
 refine Cd.loopK (σ:=Nat) (fun i=>i ≤ l.length) (fun i=>[(1,ptr pb),(28,.slice a l.length cp),(29,.int .i64 l.length),(30,.int .i64 i)]) (fun _=>[(pb,cl [.int .i64 fuel,.slice a l.length cp] 128)]) (fun i=>l.length - i) 0 (Nat.zero_le _) ⟨rfl,rfl,rfl,rfl,trivial⟩ (fun w h=>h.split) (fun i hi=>?_)
 by_cases hil:i < l.length
 ·have hil':(i:Int) < l.length:=by omega
  obtain ⟨x,hx⟩:∃ x,l[i]? = some x:=⟨_,List.getElem?_eq_getElem hil⟩
  have hxm:=List.mem_of_getElem? hx
  obtain ⟨b,off,hab,hrd⟩:=(hC.ext hB) i x.row (by rw [List.getElem?_map,hx];rfl)
  subst hab
  have hrw:∀ A j u,x.row[j]? = some u → Rd B.plain A b (off + (i:Int).toNat * 6 + j) u:=fun A j u hu=>by rw [Int.toNat_natCast];exact hrd A j u hu
  refine zg24 ?_
  refine Ops.ldRN (r:=x.row) rfl rfl rfl rfl (hrw _) rfl ?_
  repeat' (first|refine Cd.seq ?_|refine Cd.reg ?_|refine Ops.asg rfl rfl rfl rfl ?_|refine Ops.fa0 rfl rfl rfl rfl ?_|refine Ops.ld1 rfl rfl rfl rfl rfl ?_|refine Ops.ldN rfl rfl rfl rfl ?_|refine Ops.lenS rfl rfl rfl rfl ?_|refine Ops.alloc rfl rfl rfl (noPd rfl) (fun b=>?_)|refine Ops.stN rfl rfl rfl rfl rfl rfl (noPd rfl) ?_)
  refine Ops.call (wrong_spec x.op x.a x.b x.c x.n x.k l.length (hk x hxm)) rfl (noPd rfl) rfl rfl rfl (fun v A' hR=>?_)
  obtain ⟨⟨e,rfl⟩,rfl⟩:=hR
  by_cases he:e = 0
  ·refine zg27 ?_
   exact Ops.nilN (round_end (i + 1:Nat) (by show i + 1 ≤ l.length;omega) zp15 ⟨rfl,rfl,rfl,rfl,trivial⟩ (fun w h=>h.split))
  ·refine zg14 ?_
   exact ze5
 ·have hil':¬ (i:Int) < l.length:=by omega
  refine zg12 ?_
  exact ze5
theorem rdNum_er {b:ByteArray} {most p:Nat} {e:Int} (h:b.size = 0):(rdNum b most p e).2.2 ≠ 0:=by
 unfold rdNum
 split
 ·assumption
 ·have hb:b[p]? = none:=(getElem?_eq_none_iff b p).2 (by show ¬ p < b.size;omega)
  have hn:numR b most 21 p = .bad 20:=by unfold numR numGo;rw [hb]
  rw [hn]
  show (20:Int) ≠ 0
  decide
theorem rdList_er {b:ByteArray} {most p:Nat} {e:Int} (h:b.size = 0):(rdList b most p e).2.2 ≠ 0:=by
 unfold rdList
 split
 ·assumption
 ·have hb:b[p]? = none:=(getElem?_eq_none_iff b p).2 (by show ¬ p < b.size;omega)
  have hn:numR b most 23 p = .bad 20:=by unfold numR numGo;rw [hb]
  rw [hn]
  show (20:Int) ≠ 0
  decide
theorem rdBits_er {b:ByteArray} {p:Nat} {e:Int} (h:b.size = 0):(rdBits b p e).2.2 ≠ 0:=by
 unfold rdBits
 split
 ·assumption
 ·rw [if_neg (by omega)];show (20:Int) ≠ 0;decide
structure RdS where
 q:Nat
 e:Int
def RdS.Ok (bs:ByteArray) (t:RdS):Prop:=t.q ≤ bs.size ∧ (bs.size = 0 → t.e ≠ 0)
theorem wnum (B0:Base) (rb:Nat) (bs:ByteArray) (hb:bs.size ≤ 1000000) (most:Nat) (hm:most ≤ 1024) (q:Nat) (e:Int) (hq:q ≤ bs.size) :
  ConB Tryz.prog B0 87 #[ptr rb,.int .u64 most] [RdB rb bs q e] fun v A=>∃ (u:Nat) (t:RdS),v = .int .u64 u ∧ u ≤ most ∧ IntKind.wrap .i64 (u:Int) = (u:Int) ∧ t.Ok bs ∧ A = [RdB rb bs t.q t.e] :=
 (rnum_spec B0 rb bs q most e hq hb (by omega)).mono fun v A h=>by
  obtain ⟨rfl,rfl⟩:=h
  have:=rdNum_le (b:=bs) (most:=most) (p:=q) (e:=e)
  exact ⟨_,⟨_,_⟩,rfl,this,wrap_i64 (by omega),⟨rdNum_at hq,rdNum_er⟩,rfl⟩
theorem rdList_le {b:ByteArray} {most p:Nat} {e:Int}:(rdList b most p e).1 ≤ most:=by
 unfold rdList
 split
 ·exact Nat.zero_le _
 ·split
  ·exact Nat.zero_le _
  ·rename_i n q h
   exact numGo_le _ _ _ _ h
theorem wlist (B0:Base) (rb:Nat) (bs:ByteArray) (hb:bs.size ≤ 1000000) (most:Nat) (hm:most ≤ 1024) (q:Nat) (e:Int) (hq:q ≤ bs.size) :
  ConB Tryz.prog B0 101 #[ptr rb,.int .i64 most] [RdB rb bs q e] fun v A=>∃ (u:Nat) (t:RdS),v = .int .i64 u ∧ u ≤ most ∧ t.Ok bs ∧ A = [RdB rb bs t.q t.e] :=
 (rlist_spec B0 rb bs q most e hq hb (by omega)).mono fun v A h=>by
  obtain ⟨rfl,rfl⟩:=h
  exact ⟨_,⟨_,_⟩,rfl,rdList_le,⟨rdList_at hq,rdList_er⟩,rfl⟩
theorem wbits (B0:Base) (rb:Nat) (bs:ByteArray) (hb:bs.size ≤ 1000000) (q:Nat) (e:Int) (hq:q ≤ bs.size) :
  ConB Tryz.prog B0 103 #[ptr rb] [RdB rb bs q e] fun v A=>∃ (u:Nat) (t:RdS),v = .int .u64 u ∧ u < 18446744073709551616 ∧ t.Ok bs ∧ A = [RdB rb bs t.q t.e] :=
 (rbits_spec B0 rb bs q e hq hb).mono fun v A h=>by
  obtain ⟨rfl,rfl⟩:=h
  exact ⟨_,⟨_,_⟩,rfl,rdBits_lt _ _ _,⟨rdBits_at hq,rdBits_er⟩,rfl⟩
end Go.Proofs.YtaecdnfkcebbeaaGreat
