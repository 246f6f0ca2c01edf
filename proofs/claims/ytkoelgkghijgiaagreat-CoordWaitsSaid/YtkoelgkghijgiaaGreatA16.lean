import Derived.Test.YtkoelgkghijgiaaGreatA15
import Derived.Test.YtkoelgkghijgiaaGreatA01
import Derived.Test.YtkoelgkghijgiaaGreatA04
import Derived.Test.YtkoelgkghijgiaaGreatA10
import Derived.Test.YtkoelgkghijgiaaGreatA12
import Derived.Test.YtkoelgkghijgiaaGreatA05
import Derived.Test.YtkoelgkghijgiaaGreatA11
import Derived.Test.YtkoelgkghijgiaaGreatA07
import Derived.Test.YtkoelgkghijgiaaGreatA13
import Derived.Test.YtkoelgkghijgiaaGreatA14
set_option linter.unusedVariables false
set_option linter.unusedSimpArgs false
namespace Go.Proofs.YtkoelgkghijgiaaGreat
open Go Go.Sep Go.Proofs Go.Proofs.Tryz
set_option maxRecDepth 10000
set_option maxHeartbeats 40000000
theorem dec_good {data:ByteArray} {m:Ms} (h:decF data = (m,0)):MsOk m ∧ wcheckF m = 0:=by
 unfold decF at h
 split at h
 ·injection h with _ h;cases h
 ·split at h
  ·rename_i hs hq
   injection h with h _
   subst h
   refine ⟨?_,hq.2⟩
   have hkp:(rdNum data 16 0 0).2.1 ≤ data.size:=rdNum_at (Nat.zero_le _)
   exact (readG_at (b:=data) (fds:=fieldsF ((rdNum data 16 0 0).1:Nat)) (s:=readK data) hkp (by omega) ⟨Nat.zero_le _,Nat.zero_le _,by show (0:Int) ≤ 0 ∧ (0:Int) < _;omega⟩ _).2
  ·injection h with _ h;cases h
theorem check_may {m:Ms} (h:wcheckF m = 0):∀ fd ∈ fieldsF m.kind,fd.may m = true:=by
 unfold wcheckF at h
 split at h
 ·cases h
 ·split at h
  ·rename_i hh
   simp only [Bool.and_eq_true,List.all_eq_true] at hh
   exact hh.2
  ·cases h
theorem dec_res {m:Ms} (ho:MsOk m) (h:wcheckF m = 0) (hk:m.kind = 4):ResOk m:=by
 have:=check_may h .result (by rw [hk];simp [fieldsF])
 obtain ⟨x0,x1⟩:=ho.x
 unfold Fd.may at this
 simp only [Bool.or_eq_true,Bool.and_eq_true,decide_eq_true_eq] at this
 rcases this with ⟨q1,_⟩|⟨q1,q2⟩
 ·exact ⟨by omega,by omega,.inl q1,x0,x1⟩
 ·exact ⟨by omega,by omega,.inr q2,x0,x1⟩
theorem dec_index {m:Ms} (h:wcheckF m = 0) (hk:m.kind = 5):m.index ≤ 9223372036854775807:=by
 have:=check_may h (fI 31) (by rw [hk];simp [fieldsF])
 have:=of_decide_eq_true this
 have h2:m.index ≤ 31:=this.2
 omega
def HearR (c:Cf) (o:Co) (node life:Int) (data reply:ByteArray) (o1:Co):Prop :=
 if (decF data).2 ≠ 0 ∨ runB c node life = false ∨ ¬ (1 ≤ (decF data).1.kind ∧ (decF data).1.kind ≤ 5) then reply = ⟨#[]⟩ ∧ o1 = o
 else if (decF data).1.kind = 1 then reply = (helloO c o node life).1 ∧ o1 = (helloO c o node life).2
 else if (decF data).1.kind = 5 then ChunkR c o node life (decF data).1 reply o1
 else RequestR c o node life (decF data).1 reply o1
theorem CoOk.hear {c:Cf} {len n:Nat} {o:Co} (h:CoOk c len n o) (hc:CfOk c) (hlen:20480 ≤ roomF len) (hn:n ≤ 2000000) {node life:Int} {data reply:ByteArray} {o1:Co} (hr:HearR c o node life data reply o1) :
  CoOk c len (n + 1) o1 ∧ ∃ cs,o1.tl = o.tl ++ cs ∧ applyF o.q.st cs = ((0,0),o1.q.st):=by
 unfold HearR at hr
 split at hr
 ·obtain ⟨_,rfl⟩:=hr
  exact ⟨h.later,[],by rw [List.append_nil],rfl⟩
 ·rename_i hq
  obtain ⟨q1,q2,q3⟩:(decF data).2 = 0 ∧ runB c node life = true ∧ (1 ≤ (decF data).1.kind ∧ (decF data).1.kind ≤ 5):=by
   refine ⟨Decidable.by_contra fun q=>hq (.inl q),?_,Decidable.by_contra fun q=>hq (.inr (.inr q))⟩
   cases hb:runB c node life with
   | true=>rfl
   | false=>exact absurd (.inr (.inl hb)) hq
  have hdec:decF data = ((decF data).1,0):=Prod.ext rfl q1
  obtain ⟨g1,g2⟩:=dec_good hdec
  obtain ⟨⟨a1,a2⟩,_⟩:=id hc
  obtain ⟨r1,r2,r3,r4⟩:2 ≤ node ∧ node < 2 + c.runners ∧ 1 ≤ life ∧ life ≤ 1099511627776:=of_decide_eq_true q2
  split at hr
  ·obtain ⟨_,rfl⟩:=hr
   exact h.hello hc hlen hn node life
  ·split at hr
   ·exact h.chunk hc hlen hn hr
   ·exact h.request hc hlen hn r1 (by omega) ⟨r3,r4⟩ (fun k2 k3=>dec_res g1 g2 (by omega)) hr
theorem co_hear (B0:Base) (xb db:Nat) (c:Cf) (hc:CfOk c) (len n:Nat) (hlen:20480 ≤ roomF len) (hn:n ≤ 2000000) (o:Co) (h:CoOk c len n o) (A:List Blk) (hA:CoP xb db c n o A) (node life:Int) (data:ByteArray) (hsz:data.size < 9223372036854775808) :
  ConB prog B0 13 #[ptr xb,.agg [.int .i64 node,.int .i64 life].toArray,.string data] A fun v A'=>∃ reply o1 said J A1,v = .tuple #[said,.int .i64 0] ∧ HearR c o node life data reply o1 ∧ CoP xb db c (n + 1) o1 A1 ∧ SaidR node life reply said J ∧ A' = A1 ++ J:=by
 obtain ⟨A0,hp1,hA⟩:=hA
 have hAP:=hA.p
 have hAA:=hA
 obtain ⟨lb,lm,tb,cb,mb,wb,sb,tv,les,lck,sv,G,mes,mck_,SD,k,D,TG,TX,WG,rfl,hL,hO,hW,hS,hD,hk,hT⟩:=hA
 have hde:=h.lg.cm.de
 have hperm:(CoL xb lb lm tb cb mb db wb sb c o.q.la o.q.st.res tv les lck sv G mes mck_ o.w SD D TG TX WG).Perm (CoB xb lb tb cb mb db wb sb c tv false :: (D ++ (Ls.TB lb lm c.lease les lck ++ (Se.TabB tb sv G ++ (CtB cb c.block o.q.la o.q.st.res :: (mb,mpo mes mck_) :: WlB wb db o.w :: (SD ++ (TG ++ (TX ++ WG)))))))):=by
  refine perm_of fun c g ha hc' hp h0=>?_
  simp only [CoL,List.cons_append,List.append_assoc,List.nil_append,ha,hc',h0];omega
 refine ConB.permIn ?_ (hp1.trans hperm)
 have hP:CoP xb db c n o (CoB xb lb tb cb mb db wb sb c tv false :: (D ++ (Ls.TB lb lm c.lease les lck ++ (Se.TabB tb sv G ++ (CtB cb c.block o.q.la o.q.st.res :: (mb,mpo mes mck_) :: WlB wb db o.w :: (SD ++ (TG ++ (TX ++ WG)))))))):=⟨_,hperm.symm,hAA⟩
 by_cases hq:(decF data).2 ≠ 0 ∨ runB c node life = false ∨ ¬ (1 ≤ (decF data).1.kind ∧ (decF data).1.kind ≤ 5)
 ·have hg:=(hear_no B0 xb lb tb cb mb db wb sb c hc tv o.x k D hD hde node life data hsz (decF data).1 (decF data).2 rfl hq).beside (F:=Ls.TB lb lm c.lease les lck ++ (Se.TabB tb sv G ++ (CtB cb c.block o.q.la o.q.st.res :: (mb,mpo mes mck_) :: WlB wb db o.w :: (SD ++ (TG ++ (TX ++ WG))))))
  refine hg.mono fun v A' hR=>?_
  obtain ⟨A2,⟨rfl,rfl⟩,rfl⟩:=hR
  obtain ⟨A3,hp3,hA3⟩:=hP
  exact ⟨⟨#[]⟩,o,_,[],_,rfl,(by unfold HearR;rw [if_pos hq];exact ⟨rfl,rfl⟩),⟨A3,hp3,hA3.later⟩,.inl ⟨rfl,rfl,rfl⟩,by rw [List.append_nil];rfl⟩
 ·obtain ⟨q1,q2,q3⟩:(decF data).2 = 0 ∧ runB c node life = true ∧ (1 ≤ (decF data).1.kind ∧ (decF data).1.kind ≤ 5):=by
   refine ⟨Decidable.by_contra fun q=>hq (.inl q),?_,Decidable.by_contra fun q=>hq (.inr (.inr q))⟩
   cases hb:runB c node life with
   | true=>rfl
   | false=>exact absurd (.inr (.inl hb)) hq
  have hdec:decF data = ((decF data).1,0):=Prod.ext rfl q1
  obtain ⟨g1,g2⟩:=dec_good hdec
  obtain ⟨⟨a1,a2⟩,_⟩:=id hc
  obtain ⟨r1,r2,r3,r4⟩:2 ≤ node ∧ node < 2 + c.runners ∧ 1 ≤ life ∧ life ≤ 1099511627776:=of_decide_eq_true q2
  have fin:∀ (f:FuncId) [FnOk prog f] (hdoes:Con prog 48 #[.agg (heV xb node life (decF data).1).toArray] [] fun v A=>v = .func (.func f) [.agg (heV xb node life (decF data).1).toArray].toArray #[] ∧ A = [])
    (hh:ConB prog B0 f #[.agg (heV xb node life (decF data).1).toArray] (CoB xb lb tb cb mb db wb sb c tv false :: (D ++ (Ls.TB lb lm c.lease les lck ++ (Se.TabB tb sv G ++ (CtB cb c.block o.q.la o.q.st.res :: (mb,mpo mes mck_) :: WlB wb db o.w :: (SD ++ (TG ++ (TX ++ WG)))))))) fun v A=>∃ reply,v = .string reply ∧ ∃ o1,HearR c o node life data reply o1 ∧ CoP xb db c (n + 1) o1 A),
    ConB prog B0 13 #[ptr xb,.agg [.int .i64 node,.int .i64 life].toArray,.string data] (CoB xb lb tb cb mb db wb sb c tv false :: (D ++ (Ls.TB lb lm c.lease les lck ++ (Se.TabB tb sv G ++ (CtB cb c.block o.q.la o.q.st.res :: (mb,mpo mes mck_) :: WlB wb db o.w :: (SD ++ (TG ++ (TX ++ WG)))))))) fun v A'=>∃ reply o1 said J A1,v = .tuple #[said,.int .i64 0] ∧ HearR c o node life data reply o1 ∧ CoP xb db c (n + 1) o1 A1 ∧ SaidR node life reply said J ∧ A' = A1 ++ J:=fun f _ hdoes hh=>by
   refine (hear_act B0 xb lb tb cb mb db wb sb c hc tv o.x k D hD hde _ node life q2 data hsz _ hdec f hdoes _ hh).mono fun v A' hR=>?_
   obtain ⟨reply,A1,said,J,e1,⟨o1,e2,e3⟩,e4,e5⟩:=hR
   exact ⟨reply,o1,said,J,A1,e1,e2,e3,e4,e5⟩
  by_cases k1:(decF data).1.kind = 1
  ·refine fin _ (does_hello xb node life _ k1) ((co_hello B0 xb db c hc len n hlen hn o h _ hP node life r1 (by omega) _).mono fun v A' hR=>?_)
   exact ⟨_,hR.1,_,(by unfold HearR;rw [if_neg hq,if_pos k1];exact ⟨rfl,rfl⟩),hR.2⟩
  ·by_cases k5:(decF data).1.kind = 5
   ·refine fin _ (does_chunk xb node life _ k5) ((co_chunk B0 xb db c hc len n hlen hn o h _ hP node life _ (dec_index g2 k5)).mono fun v A' hR=>?_)
    obtain ⟨reply,o1,e1,e2,e3⟩:=hR
    exact ⟨reply,e1,o1,(by unfold HearR;rw [if_neg hq,if_neg k1,if_pos k5];exact e2),e3⟩
   ·refine fin _ (does_request xb node life _ (by omega)) ((co_request B0 xb db c hc len n hlen hn o h _ hP node life r1 (by omega) ⟨r3,r4⟩ _ (fun k2 k3=>dec_res g1 g2 (by omega))).mono fun v A' hR=>?_)
    obtain ⟨reply,o1,e1,e2,e3⟩:=hR
    exact ⟨reply,e1,o1,(by unfold HearR;rw [if_neg hq,if_neg k1,if_neg k5];exact e2),e3⟩
theorem co_view (B0:Base) (xb db:Nat) (c:Cf) (len n:Nat) (o:Co) (h:CoOk c len n o) (A:List Blk) (hA:CoP xb db c n o A)
  (hview:∀ lb tb cb mb wb sb tv SD,StA sb o.q.st SD → ConB prog B0 14 #[ptr xb] (CoB xb lb tb cb mb db wb sb c tv false :: SD) fun v X=>∃ V,ViewA v o.q.st V ∧ X = V ++ (CoB xb lb tb cb mb db wb sb c tv false :: SD)) :
  ConB prog B0 14 #[ptr xb] A fun v A'=>∃ V A1,A' = V ++ A1 ∧ ViewA v o.q.st V ∧ CoP xb db c n o A1:=by
 obtain ⟨A0,hp1,hA⟩:=hA
 refine ConB.permIn ?_ hp1
 have hAA:=hA
 obtain ⟨lb,lm,tb,cb,mb,wb,sb,tv,les,lck,sv,G,mes,mck_,SD,k,D,TG,TX,WG,rfl,hL,hO,hW,hS,hD,hk,hT⟩:=hA
 have hl:=(hview lb tb cb mb wb sb tv SD hS).beside (F:=Ls.TB lb lm c.lease les lck ++ (Se.TabB tb sv G ++ (CtB cb c.block o.q.la o.q.st.res :: (mb,mpo mes mck_) :: WlB wb db o.w :: (D ++ (TG ++ (TX ++ WG))))))
 refine (hl.permIn ?_).permOut fun v A' hR=>?_
 ·refine perm_of fun c g ha hc' hp h0=>?_
  simp only [CoL,List.cons_append,List.append_assoc,List.nil_append,ha,hc',h0];omega
 ·obtain ⟨A2,⟨V,hV,rfl⟩,rfl⟩:=hR
  refine ⟨_,⟨V,_,rfl,hV,hAA.p⟩,?_⟩
  refine perm_of fun c g ha hc' hp h0=>?_
  simp only [CoL,List.cons_append,List.append_assoc,List.nil_append,ha,hc',h0];omega
end Go.Proofs.YtkoelgkghijgiaaGreat
namespace Go.Proofs.YtkoelgkghijgiaaGreat
open Go Go.Sep Go.Proofs Go.Proofs.Tryz
set_option maxRecDepth 10000
set_option maxHeartbeats 40000000
set_option synthInstance.maxSize 2000
theorem cview_gen (B0:Base) (xb lb tb cb mb db wb sb:Nat) (c:Cf) (tv:Value) (dead:Bool) (s:StP) (SD:List Blk) (hS:StA sb s SD) (ok:StOk s) :
  ConB prog B0 14 #[ptr xb] (CoB xb lb tb cb mb db wb sb c tv dead :: SD) fun v X=>∃ V,ViewA v s V ∧ X = V ++ (CoB xb lb tb cb mb db wb sb c tv dead :: SD):=by
 refine zqJ (vs:=[_]) func14 ntmps14 fun B hB=>?_
 repeat' (first|refine zs3 ?_|refine Ops.alloc rfl rfl rfl (noPd rfl) (fun b=>?_))
 refine zqB (view_own B0 sb s SD hS ok) hB fun v A' hR=>?_
 obtain ⟨VG,hV,rfl⟩:=hR
 have hVV:=hV
 obtain ⟨va,ps,JG,rfl,rfl,hJ⟩:=hV
 refine zg4 ?_
 exact Cd.ret (ret1 (A':=(JG ++ ps.flatMap fun p:Pl=>p.l.G) ++ (CoB xb lb tb cb mb db wb sb c tv dead :: SD)) rfl (Res.cellN rfl) (fun w h=>h.split) ⟨_,hVV,rfl⟩)
theorem co_view_ (B0:Base) (xb db:Nat) (c:Cf) (len n:Nat) (o:Co) (h:CoOk c len n o) (A:List Blk) (hA:CoP xb db c n o A) :
  ConB prog B0 14 #[ptr xb] A fun v A'=>∃ V A1,A' = V ++ A1 ∧ ViewA v o.q.st V ∧ CoP xb db c n o A1 :=
 co_view B0 xb db c len n o h A hA fun lb tb cb mb wb sb tv SD hS=>cview_gen B0 xb lb tb cb mb db wb sb c tv false o.q.st SD hS h.cq.ok
end Go.Proofs.YtkoelgkghijgiaaGreat
namespace Go.Proofs.YtkoelgkghijgiaaGreat
open Go Go.Sep Go.Proofs Go.Proofs.Tryz
set_option maxRecDepth 100000
set_option maxHeartbeats 40000000
def dkZ (n:Nat):Dk:=⟨List.replicate n zs,0,0,false⟩
def secZ:ByteArray:=sectorF ⟨1,0,0,0⟩
def dkY (n:Nat):Dk:=⟨(List.replicate n zs).set 1 secZ,0,0,false⟩
theorem dkZ_calm (n:Nat):Calm (dkZ n) n:=⟨rfl,rfl,by show (List.replicate n zs).length = n;simp,fun s hs=>by
 rw [show (dkZ n).S = List.replicate n zs from rfl,List.mem_replicate] at hs
 rw [hs.2];simp [zs,ByteArray.size]⟩
theorem writeZ {n:Nat} (h:2 ≤ n):(dkZ n).write 1 secZ = (dkY n,0):=by
 have e:writeD (List.replicate n zs) 0 0 false 1 secZ = (((List.replicate n zs).set 1 secZ,0,false),0):=by
  unfold writeD
  rw [if_neg (by simp),if_neg (by rw [List.length_replicate];omega),if_neg (by have:secZ.size = 128:=sectorF_size _;omega),if_neg (by decide)]
  rfl
 unfold Dk.write Dk.put dkZ
 dsimp only
 rw [e]
 rfl
theorem dkY_calm {n:Nat} (h:2 ≤ n):Calm (dkY n) n:=by
 have:=(write_calm (dkZ_calm n) (i:=1) (by omega) (sectorF_size ⟨1,0,0,0⟩)).2
 have e:=writeZ h
 rw [show ((1:Nat):Int) = 1 from rfl,show sectorF ⟨1,0,0,0⟩ = secZ from rfl,e] at this
 exact this
theorem zs_found (S:List ByteArray) (at_:Nat) (h:S.getD at_ .empty = zs):foundF S at_ = none:=by
 unfold foundF
 rw [h]
 have e:ofF (zs.extract 0 8) = 0:=by kernel_rfl
 dsimp only
 rw [if_pos (.inl (by rw [e];decide))]
theorem countsZ {n:Nat} (h:2 ≤ n):countsF (dkZ n).S = none:=by
 have h:∀ i,i < n → (dkZ n).S.getD i .empty = zs:=fun i hi=>by
  rw [show (dkZ n).S = List.replicate n zs from rfl,List.getD_eq_getElem?_getD,List.getElem?_replicate_of_lt hi];rfl
 unfold countsF
 rw [zs_found _ 0 (h 0 (by omega)),zs_found _ 1 (h 1 (by omega))]
theorem formatZ {n:Nat} (h:2 ≤ n) (hr:20480 ≤ roomF n):formatF (dkZ n) = (dkY n,0):=by
 unfold formatF
 rw [if_neg (by show ¬ (false = true);decide),if_neg (by rw [(dkZ_calm n).len];omega),countsZ h,if_neg (by decide)]
 exact writeZ h
theorem openZ {n:Nat} (h:2 ≤ n) (hr:20480 ≤ roomF n):openW (dkY n) = (some (⟨1,0,0,0⟩,⟨#[]⟩,[]),0):=by
 have hc:=dkY_calm h
 have h0:(dkY n).S.getD 0 .empty = zs:=by
  show ((List.replicate n zs).set 1 secZ).getD 0 .empty = zs
  rw [List.getD_eq_getElem?_getD,List.getElem?_set_ne (by decide),List.getElem?_replicate_of_lt (by omega)];rfl
 have h1:(dkY n).S.getD 1 .empty = secZ:=by
  show ((List.replicate n zs).set 1 secZ).getD 1 .empty = secZ
  rw [List.getD_eq_getElem?_getD,List.getElem?_set_self (by rw [List.length_replicate];omega)];rfl
 have hf:foundF (dkY n).S 1 = some (⟨1,0,0,0⟩,⟨#[]⟩,[]):=by
  unfold foundF
  rw [h1]
  have e1:ofF (secZ.extract 0 8) = 1:=by kernel_rfl
  have e2:rdN secZ 9 13 = 0:=by kernel_rfl
  have e3:rdN secZ 13 17 = 0:=by kernel_rfl
  have e4:bat secZ 8 = 0:=by kernel_rfl
  dsimp only
  rw [e1,e2,e3,e4,if_neg (by decide),if_neg (by
   rintro (q|q|q)
   ·exact q rfl
   ·omega
   ·omega)]
  have e5:(bytesF (dkY n).S 0 0).extract 0 0 = ⟨#[]⟩:=by
   apply ByteArray.ext
   simp [ByteArray.data_extract]
  rw [show (0:Nat) + 0 = 0 from rfl,e5]
  have e6:framesG ⟨#[]⟩ 0 = some []:=by
   unfold framesG
   rw [dif_neg (by decide)]
  rw [e6]
  rfl
 unfold openW
 rw [if_neg (by rw [hc.de];decide),if_neg (by rw [hc.len];omega)]
 unfold countsF
 rw [zs_found _ 0 h0,hf]
def lenC (c:Cf):Nat:=(2 + 2 * c.half).toNat
theorem lenC_room {c:Cf} (hc:CfOk c):20480 ≤ roomF (lenC c) ∧ 2 ≤ lenC c ∧ lenC c ≤ 1026 ∧ ((lenC c:Nat):Int) = 2 + 2 * c.half:=by
 obtain ⟨_,_,_,_,_,_,_,_,⟨h1,h2⟩⟩:=id hc
 unfold lenC roomF
 refine ⟨?_,by omega,by omega,by omega⟩
 rw [if_neg (by omega)]
 omega
def co0 (c:Cf):Co:=⟨⟨⟨c.attempts,[],0,[],[]⟩,[],0,[]⟩,Se.fresh c.runners.toNat,⟨⟨1,0,0,0⟩,0,false⟩,dkY (lenC c),[]⟩
theorem co0_ok {c:Cf} (hc:CfOk c):CoOk c (lenC c) 0 (co0 c):=by
 obtain ⟨_,⟨b1,b2⟩,_,⟨a1,a2⟩,_⟩:=id hc
 obtain ⟨h1,h2,h3,h4⟩:=lenC_room hc
 have hno:∀ {α:Type} {i:Nat} {x:α},([]:List α)[i]? = some x → False:=fun h=>by cases h
 refine ⟨⟨stOk_new a1 a2,stBd_new,(Ls.TOk.new b1 b2).lok,fun x hx=>(by cases hx),fun t ht=>(by cases ht),fun i r hr=>(hno hr).elim,fun r hr=>(by cases hr),⟨Int.le_refl _,Int.le_refl _⟩,fun i j r r' hr=>(hno hr).elim⟩,⟨dkY_calm h2,⟨by show 1 ≤ 1099511627776;omega,by show 0 ≤ 1;omega,by show 0 + 0 ≤ _;omega,Int.le_refl _,by show (0:Int) ≤ _;omega⟩,rfl⟩,by show 1 ≤ 2 * 0 + 1;omega,Int.le_refl _,Se.RowsI.fresh _,Nat.zero_le _,fun ch hch=>(by cases hch)⟩
theorem co_new (B0:Base) (c:Cf) (hc:CfOk c) (db:Nat) (D:List Blk) (hD:DkA db (dkZ (lenC c)) 0 D) :
  ConB prog B0 34 #[.agg c.row.toArray,ptr db] D fun v A=>∃ xb,v = .tuple #[ptr xb,.int .i64 0] ∧ CoP xb db c 0 (co0 c) A:=by
 obtain ⟨h1,h2,h3,h4⟩:=lenC_room hc
 have hn:=new_new B0 c hc db (dkZ (lenC c)) (dkY (lenC c)) 0 D hD (by decide) (by rw [(dkZ_calm _).len];exact h4) (formatZ h2 h1) (by rw [(dkY_calm h2).len];exact h4) ⟨1,0,0,0⟩ (openZ h2 h1)
 refine hn.permOut fun v A hR=>?_
 obtain ⟨D',hD',xb,lb,lm,tb,cb,mb,wb,sb,sv,G,SD,rfl,rfl,hO,hS⟩:=hR
 obtain ⟨_,⟨b1,b2⟩,_⟩:=id hc
 refine ⟨_,⟨xb,rfl,CoL xb lb lm tb cb mb db wb sb c 0 0 (.slice none 0 0) [] 0 sv G [] 0 ⟨⟨1,0,0,0⟩,0,false⟩ SD D' [] [] [],?_,lb,lm,tb,cb,mb,wb,sb,_,[],0,sv,G,[],0,SD,_,D',[],[],[],rfl,Ls.TOk.new b1 b2,hO,⟨⟨List.nodup_nil,List.nodup_nil,fun e he=>(by cases he)⟩,[],rfl,rfl,fun t ht=>(by cases ht)⟩,hS,hD',by omega,[],Own.none,rfl,fun B _ g hg=>(by cases hg)⟩,List.Perm.refl _⟩
 refine perm_of fun c g ha hc' hp h0=>?_
 simp only [CoL,CoN,List.cons_append,List.append_assoc,List.nil_append,ha,hc',h0];omega
end Go.Proofs.YtkoelgkghijgiaaGreat
namespace Go.Proofs.YtkoelgkghijgiaaGreat
open Go Go.Sep Go.Proofs
set_option maxRecDepth 10000
set_option maxHeartbeats 40000000
set_option synthInstance.maxSize 2000
@[reducible] def SmB (px bx xx jx xb:Nat) (p:ByteArray) (bad job:Int):List Blk:=[(px,cl [.string p] 9),(bx,cl [.int .i64 bad] 29),(xx,cl [ptr xb] 26),(jx,cl [.int .i64 job] 3)]
def SubR (xb lb tb cb mb db wb sb:Nat) (c:Cf) (dead:Bool) (w:Wl) (x:Dk) (k:Nat) (D:List Blk) (s:StP) (SD:List Blk) (tv:Value) (tl:List Cg) (TG:List Blk) (p:ByteArray) (bad job:Int) (A1:List Blk):Prop :=
 (bad ≠ 0 ∧ bad ≠ 2 ∧ job = 0 ∧ A1 = CoB xb lb tb cb mb db wb sb c tv dead :: WlB wb db w :: (SD ++ (D ++ TG))) ∨
 (bad = 0 ∧ job = (s.rows.length:Nat) + 1 ∧ s.rows.length < 8 ∧ (1 ≤ p.size ∧ p.size ≤ 1024) ∧ ∃ SD1 D1 tv1 TG1 k1,A1 = CoB xb lb tb cb mb db wb sb c tv1 dead :: WlB wb db (mkW c.every w x (bytesS s) (encodeF [subC ((s.rows.length:Nat) + 1) p]).1).1 :: (SD1 ++ (D1 ++ TG1)) ∧
    StA sb (applyF s [subC ((s.rows.length:Nat) + 1) p]).2 SD1 ∧ DkA db (mkW c.every w x (bytesS s) (encodeF [subC ((s.rows.length:Nat) + 1) p]).1).2 k1 D1 ∧ k1 ≤ k + 20000 ∧ OwnC tv1 (tl ++ [⟨subC ((s.rows.length:Nat) + 1) p,none,0⟩]) TG1)
end Go.Proofs.YtkoelgkghijgiaaGreat
namespace Go.Proofs.YtkoelgkghijgiaaGreat
open Go Go.Sep Go.Proofs Go.Proofs.Tryz
set_option maxRecDepth 10000
set_option maxHeartbeats 40000000
set_option synthInstance.maxSize 2000
def UnpackW (B0:Base) (p:ByteArray):Prop:=ConB prog B0 68 #[.string p] [] fun v A=>∃ (e f:Int) (a:Option Addr) (n k:Nat),v = .tuple #[.agg #[.int .i64 f,.slice a n k],.int .i64 e] ∧ (e = 0 → 1 ≤ p.size ∧ p.size ≤ 1024)
theorem sub1_spec (B0:Base) (xb lb tb cb mb db wb sb px bx xx jx:Nat) (c:Cf) (hc:CfOk c) (dead:Bool) (w:Wl) (x:Dk) (len:Nat) (lg:LgOk w x len) (hroom:20480 ≤ roomF len) (hnum:w.h.number + 2 < 1099511627776) (k:Nat) (D:List Blk) (hD:DkA db x k D) (hk:k ≤ 700000000000) (s:StP) (SD:List Blk) (hS:StA sb s SD) (ok:StOk s) (bd:StBd s) (tv:Value) (tl:List Cg) (TG:List Blk) (hT:OwnC tv tl TG) (htl:tl.length ≤ 1000000000)
  (p:ByteArray) (hup:UnpackW B0 p) (henc:s.rows.length < 8 → 1 ≤ p.size → p.size ≤ 1024 → (encodeF [subC ((s.rows.length:Nat) + 1) p]).2 = 0) :
  ConB prog B0 67 #[ptr px,ptr bx,ptr xx,ptr jx] (CoB xb lb tb cb mb db wb sb c tv dead :: WlB wb db w :: (SD ++ (D ++ (TG ++ SmB px bx xx jx xb p 0 0))))
   fun v A=>∃ bad job A1,SubR xb lb tb cb mb db wb sb c dead w x k D s SD tv tl TG p bad job A1 ∧ A = A1 ++ SmB px bx xx jx xb p bad job:=by
 have hn:=ok.nr
 refine zqJ (vs:=[_,_,_,_]) func67 ntmps67 fun B hB=>?_
 refine zg1 ?_
 refine Ops.callB hup hB rfl (noPd rfl) rfl rfl rfl (fun v A' hR=>?_)
 obtain ⟨e,f,a,n,k0,rfl,hp⟩:=hR
 by_cases he:e = 0
 rotate_left
 ·repeat' (first|refine zs5 ?_|refine Ops.alloc rfl rfl rfl (noPd rfl) (fun b=>?_))
  exact Cd.ret (ret0 (A':=CoB xb lb tb cb mb db wb sb c tv dead :: WlB wb db w :: (SD ++ (D ++ (TG ++ SmB px bx xx jx xb p 181 0)))) rfl (fun _ h=>h.split) ⟨181,0,_,.inl ⟨by decide,by decide,rfl,rfl⟩,by simp only [List.cons_append,List.append_assoc]⟩)
 subst he
 obtain ⟨hp1,hp2⟩:=hp rfl
 clear hp
 by_cases hf:s.rows.length < 8
 rotate_left
 ·repeat' (first|refine zs2 ?_|refine Ops.alloc rfl rfl rfl (noPd rfl) (fun b=>?_))
  refine zqB (view_own B0 sb s SD hS ok) hB fun v A' hR=>?_
  obtain ⟨VG,⟨va,ps,JG,rfl,rfl,_⟩,rfl⟩:=hR
  refine Ops.fld ⟨_,_,_,underlying49,rfl,underlying47,rfl,rfl⟩ rfl rfl rfl rfl rfl ?_
  have hc:(8:Int) ≤ ((s.rows.length:Nat):Int):=by omega
  refine zg15 ?_
  exact Cd.ret (ret0 (A':=CoB xb lb tb cb mb db wb sb c tv dead :: WlB wb db w :: (SD ++ (D ++ (TG ++ SmB px bx xx jx xb p 182 0)))) rfl (fun _ h=>h.split) ⟨182,0,_,.inl ⟨by decide,by decide,rfl,rfl⟩,by simp only [List.cons_append,List.append_assoc]⟩)
 replace henc:=henc hf hp1 hp2
 repeat' (first|refine zs2 ?_|refine Ops.alloc rfl rfl rfl (noPd rfl) (fun b=>?_))
 refine zqB (view_own B0 sb s SD hS ok) hB fun v A' hR=>?_
 obtain ⟨VG,⟨va,ps,JG,rfl,rfl,_⟩,rfl⟩:=hR
 refine Ops.fld ⟨_,_,_,underlying49,rfl,underlying47,rfl,rfl⟩ rfl rfl rfl rfl rfl ?_
 have hcn:¬ (8:Int) ≤ ((s.rows.length:Nat):Int):=by omega
 have hmk:=fun bb:Nat=>makes_lent B0 xb lb tb cb mb db wb sb c hc dead w x len lg hroom hnum k D hD hk s SD hS ok bd tv tl TG hT htl (some ⟨bb,0,none⟩) 1 [⟨subC ((s.rows.length:Nat) + 1) p,none,0⟩] [(bb,cl ((subC ((s.rows.length:Nat) + 1) p).row none 0) 103)] (fun B1 e hG=>(own_one bb _).cin (fun g hg=>by rw [List.mem_singleton] at hg;subst hg;exact ⟨rfl,rfl,by show (0:Int) ≤ 0 ∧ (0:Int) < _;omega⟩) hG) (by show 0 < 1;omega) (by show 1 ≤ 2000000;omega) henc
 repeat' (first|refine zs7 ?_|refine Ops.bs1 rfl rfl rfl rfl rfl rfl rfl (noPd rfl) (fun b=>?_))
 rename Nat=>cbk
 refine zqB (hmk cbk) hB fun v A' hR=>?_
 obtain ⟨SD1,D1,tv1,TG1,k1,rfl,hS1,hD1,hk1,hT1⟩:=hR
 clear hmk
 rw [show ([⟨subC ((s.rows.length:Nat) + 1) p,none,0⟩]:List Cg).map Cg.c = [subC ((s.rows.length:Nat) + 1) p] from rfl] at hS1 hD1 ⊢
 refine zg9 ?_
 exact Ops.nilN (end0 (A':=CoB xb lb tb cb mb db wb sb c tv1 dead :: WlB wb db (mkW c.every w x (bytesS s) (encodeF [subC ((s.rows.length:Nat) + 1) p]).1).1 :: (SD1 ++ (D1 ++ (TG1 ++ SmB px bx xx jx xb p 0 ((s.rows.length:Nat) + 1))))) rfl (fun _ h=>h.split) ⟨0,_,_,.inr ⟨rfl,rfl,hf,⟨hp1,hp2⟩,SD1,D1,tv1,TG1,k1,rfl,hS1,hD1,hk1,hT1⟩,by simp only [List.cons_append,List.append_assoc]⟩)
theorem submit_over (B0:Base) (xb lb tb cb mb db wb sb:Nat) (c:Cf) (tv:Value) (x:Dk) (k:Nat) (D:List Blk) (hD:DkA db x k D) (hde:x.de = false) (F:List Blk) (p:ByteArray) (R:Int → Int → List Blk → Prop)
  (hd:∀ px bx xx jx,ConB prog B0 67 #[ptr px,ptr bx,ptr xx,ptr jx] (CoB xb lb tb cb mb db wb sb c tv false :: (D ++ (F ++ SmB px bx xx jx xb p 0 0))) fun v A=>∃ bad job A1,R bad job A1 ∧ A = A1 ++ SmB px bx xx jx xb p bad job) :
  ConB prog B0 30 #[ptr xb,.string p] (CoB xb lb tb cb mb db wb sb c tv false :: (D ++ F)) fun v A=>∃ bad job,v = .tuple #[.int .i64 job,.int .i64 bad] ∧ R bad job A:=by
 refine zqJ (vs:=[_,_]) func30 ntmps30 fun B hB=>?_
 repeat' (first|refine zs2 ?_|refine Ops.box rfl rfl rfl rfl (noPd rfl) (fun b=>?_)|refine Ops.alloc rfl rfl rfl (noPd rfl) (fun b=>?_))
 rename_i xx px jx
 rename Nat=>bx
 refine Ops.callB (caught_calm B0 xb lb tb cb mb db wb sb c tv x k D hD hde _ 67 [ptr px,ptr bx,ptr xx,ptr jx] _ (hd px bx xx jx)) hB rfl (noPd rfl) rfl rfl rfl (fun v A' hR=>?_)
 obtain ⟨rfl,v0,bad,job,A1,hR,rfl⟩:=hR
 refine zg4 ?_
 refine zdr [qy 0,qy 1,qz 2,qz 3] ?_
 refine zg1 ?_
 exact Cd.ret (ret2 (A':=A1) rfl (Res.tmp rfl) (Res.tmp rfl) (fun _ h=>h.split) ⟨bad,job,rfl,hR⟩)
def submitO (c:Cf) (o:Co) (p:ByteArray) (e:Int):Co :=
 if e = 0 ∧ o.q.st.rows.length < 8 then o.mk_ c [subC ((o.q.st.rows.length:Nat) + 1) p] o.q.ls o.q.la o.q.ws o.rs else o
theorem sub_fine {c:Cf} {q:Cq} (h:CqOk c q) {p:ByteArray} (hn:q.st.rows.length < 8) (hp:1 ≤ p.size ∧ p.size ≤ 1024) :
  (encodeF [subC ((q.st.rows.length:Nat) + 1) p]).2 = 0 ∧ ∃ st,applyF q.st [subC ((q.st.rows.length:Nat) + 1) p] = ((0,0),st) ∧ st.res = q.st.res ∧ CqOk c { q with st:=st }:=by
 have hck:checkF (subC ((q.st.rows.length:Nat) + 1) p) = 0:=sub_check (by omega) hp
 obtain ⟨st,h1,h2⟩:=h.sub hn hck
 refine ⟨enc_one hck (by have:=put_sub ((q.st.rows.length:Nat) + 1) p (by omega) hp.2;omega),st,by show applyG q.st q.st 0 [_] = _;rw [applyG_cons hck h1];rfl,?_,h2⟩
 unfold stepF at h1
 rw [if_neg (by show ¬ ((2:Int) = 1);decide),if_pos rfl] at h1
 split at h1
 ·cases h1
 ·injection h1 with h1;rw [← h1]
theorem CoOk.submit {c:Cf} {len n:Nat} {o:Co} (h:CoOk c len n o) (hc:CfOk c) (hlen:20480 ≤ roomF len) (hn:n ≤ 2000000) {p:ByteArray} {e:Int} (hp:e = 0 → 1 ≤ p.size ∧ p.size ≤ 1024) :
  CoOk c len (n + 1) (submitO c o p e) ∧ ∃ cs,(submitO c o p e).tl = o.tl ++ cs ∧ applyF o.q.st cs = ((0,0),(submitO c o p e).q.st):=by
 unfold submitO
 split
 ·rename_i hq
  obtain ⟨h1,st,h2,_,h3⟩:=sub_fine h.cq hq.2 (hp hq.1)
  have hl:=h.ln
  refine ⟨h.mk_ hc hlen hn h2 h3 (fun _=>h1) (by simp) (fun ch hch=>by rw [List.mem_singleton] at hch;subst hch;exact ⟨Nat.zero_le _,by show (0:Int) ≤ 0 ∧ (0:Int) < _;omega⟩) h.rsI (by omega),_,rfl,?_⟩
  show applyF _ _ = ((0,0),(applyF _ _).2)
  rw [h2]
 ·exact ⟨h.later,[],by rw [List.append_nil],rfl⟩
theorem co_submit (B0:Base) (xb db:Nat) (c:Cf) (hc:CfOk c) (len n:Nat) (hlen:20480 ≤ roomF len) (hn:n ≤ 2000000) (o:Co) (h:CoOk c len n o) (A:List Blk) (hA:CoP xb db c n o A) (p:ByteArray) (hup:UnpackW B0 p) :
  ConB prog B0 30 #[ptr xb,.string p] A fun v A'=>∃ bad job:Int,v = .tuple #[.int .i64 job,.int .i64 bad] ∧ bad ≠ 2 ∧ ∃ e:Int,(e = 0 → 1 ≤ p.size ∧ p.size ≤ 1024) ∧ CoP xb db c (n + 1) (submitO c o p e) A':=by
 obtain ⟨A0,hp1,hA⟩:=hA
 have hAA:=hA
 obtain ⟨lb,lm,tb,cb,mb,wb,sb,tv,les,lck,sv,G,mes,mck_,SD,k,D,TG,TX,WG,rfl,hL,hO,hW,hS,hD,hk,hT⟩:=hA
 have hde:=h.lg.cm.de
 have hnm:=h.nm
 have htn:=h.tn
 obtain ⟨cgs,hcg,hcm,hct⟩:=hT
 have hcl:cgs.length ≤ 1000000000:=by
  have:cgs.length = o.tl.length:=by rw [← hcm,List.length_map]
  omega
 have hperm:(CoL xb lb lm tb cb mb db wb sb c o.q.la o.q.st.res tv les lck sv G mes mck_ o.w SD D TG TX WG).Perm (CoB xb lb tb cb mb db wb sb c tv false :: (D ++ (Ls.TB lb lm c.lease les lck ++ (Se.TabB tb sv G ++ (CtB cb c.block o.q.la o.q.st.res :: (mb,mpo mes mck_) :: WlB wb db o.w :: (SD ++ (TG ++ (TX ++ WG)))))))):=by
  refine perm_of fun c g ha hc' hp h0=>?_
  simp only [CoL,List.cons_append,List.append_assoc,List.nil_append,ha,hc',h0];omega
 refine ConB.permIn ?_ (hp1.trans hperm)
 refine (submit_over B0 xb lb tb cb mb db wb sb c tv o.x k D hD hde _ p (fun bad job A=>bad ≠ 2 ∧ ∃ e:Int,(e = 0 → 1 ≤ p.size ∧ p.size ≤ 1024) ∧ CoP xb db c (n + 1) (submitO c o p e) A) fun px bx xx jx=>?_).mono fun v A' hR=>hR
 have hne:([subC ((o.q.st.rows.length:Nat) + 1) p]:List Ch) ≠ []:=by simp
 have hg:=(sub1_spec B0 xb lb tb cb mb db wb sb px bx xx jx c hc false o.w o.x len h.lg hlen (by omega) k D hD (by omega) o.q.st SD hS h.cq.ok h.cq.bd tv cgs TG hcg hcl p hup (fun hf q1 q2=>(sub_fine h.cq hf ⟨q1,q2⟩).1)).beside (F:=Ls.TB lb lm c.lease les lck ++ (Se.TabB tb sv G ++ (CtB cb c.block o.q.la o.q.st.res :: (mb,mpo mes mck_) :: (TX ++ WG))))
 refine (hg.permIn ?_).permOut fun v A' hR=>?_
 ·refine perm_of fun c g ha hc' hp h0=>?_
  simp only [List.cons_append,List.append_assoc,List.nil_append,ha,hc',h0];omega
 ·obtain ⟨A2,⟨bad,job,A1,hR,rfl⟩,rfl⟩:=hR
  rcases hR with ⟨hb0,hb2,rfl,rfl⟩|⟨rfl,rfl,hf,hps,SD1,D1,tv1,TG1,k1,rfl,hS1,hD1,hk1,hT1⟩
  ·have hh:submitO c o p 1 = o:=if_neg (fun q=>by have:=q.1;omega)
   refine ⟨_,⟨bad,0,CoL xb lb lm tb cb mb db wb sb c o.q.la o.q.st.res tv les lck sv G mes mck_ o.w SD D TG TX WG,⟨hb2,1,fun q=>absurd q (by decide),?_⟩,rfl⟩,?_⟩
   ·rw [hh]
    exact ⟨_,List.Perm.refl _,hAA.later⟩
   ·refine perm_of fun c g ha hc' hp h0=>?_
    simp only [CoL,List.cons_append,List.append_assoc,List.nil_append,ha,hc',h0];omega
  ·obtain ⟨h1,st,h2,hres,h3⟩:=sub_fine h.cq hf hps
   rw [← mkR_some (s:=o.q.st) hne] at hD1 ⊢
   have hh:submitO c o p 0 = o.mk_ c [subC ((o.q.st.rows.length:Nat) + 1) p] o.q.ls o.q.la o.q.ws o.rs:=if_pos ⟨rfl,hf⟩
   refine ⟨_,⟨0,((o.q.st.rows.length:Nat):Int) + 1,CoL xb lb lm tb cb mb db wb sb c o.q.la o.q.st.res tv1 les lck sv G mes mck_ (mkR c.every o.w o.x o.q.st [subC ((o.q.st.rows.length:Nat) + 1) p]).1 SD1 D1 TG1 TX WG,⟨by decide,0,fun _=>hps,?_⟩,rfl⟩,?_⟩
   ·rw [hh]
    refine ⟨_,List.Perm.refl _,lb,lm,tb,cb,mb,wb,sb,tv1,les,lck,sv,G,mes,mck_,SD1,k1,D1,TG1,TX,WG,?_,hL,hO,hW,hS1,hD1,by omega,?_⟩
    ·show _ = CoL xb lb lm tb cb mb db wb sb c o.q.la (applyF o.q.st [subC ((o.q.st.rows.length:Nat) + 1) p]).2.res _ _ _ _ _ _ _ _ _ _ _ _ _
     rw [h2,hres];rfl
    ·show ToldA tv1 (o.tl ++ _) TG1 TX
     rw [← hcm]
     exact ToldA.bare (l:=[⟨subC ((o.q.st.rows.length:Nat) + 1) p,none,0⟩]) hT1 hct (fun g hg=>by rw [List.mem_singleton] at hg;subst hg;exact ⟨rfl,rfl,by show (0:Int) ≤ 0 ∧ (0:Int) < _;omega⟩)
   ·refine perm_of fun c g ha hc' hp h0=>?_
    simp only [CoL,List.cons_append,List.append_assoc,List.nil_append,ha,hc',h0];omega
end Go.Proofs.YtkoelgkghijgiaaGreat
namespace Go.Proofs.YtkoelgkghijgiaaGreat.Sw
open Go Go.Sep Go.Proofs
set_option maxRecDepth 10000
end Go.Proofs.YtkoelgkghijgiaaGreat.Sw
namespace Go.Proofs.YtkoelgkghijgiaaGreat.Se
open Go Go.Sep Go.Proofs
theorem rowAt_put {rs:List Dk} {slot:Int} {r r1:Dk} (h:rowAt rs slot = some r):rowAt (putRow rs slot (some r1)) slot = some r1:=by
 obtain ⟨hb,hr⟩:=rowAt_some h
 have hlt:=(List.getElem?_eq_some_iff.1 hr).1
 unfold rowAt
 show (if hasB slot (rs.set slot.toNat r1).length then (rs.set slot.toNat r1)[slot.toNat]? else none) = _
 rw [List.length_set,if_pos hb,List.getElem?_set_self hlt]
end Go.Proofs.YtkoelgkghijgiaaGreat.Se
namespace Go.Proofs.YtkoelgkghijgiaaGreat
open Go Go.Sep Go.Proofs
set_option maxRecDepth 10000
theorem submitO_rsl (c:Cf) (o:Co) (p:ByteArray) (e:Int):(submitO c o p e).rs.length = o.rs.length:=by
 unfold submitO
 split <;> rfl
theorem co0_rsl {c:Cf} (hc:CfOk c):(co0 c).rs.length ≤ 8:=by
 obtain ⟨⟨h1,h2⟩,_⟩:=id hc
 show (Se.fresh c.runners.toNat).length ≤ 8
 unfold Se.fresh
 rw [List.length_map,List.length_range]
 omega
end Go.Proofs.YtkoelgkghijgiaaGreat
namespace Go.Proofs.YtkoelgkghijgiaaGreat.Se
open Go Go.Sep Go.Proofs Go.Proofs.Tryz
set_option maxRecDepth 10000
set_option maxHeartbeats 8000000
theorem sclone_spec (sv:Value) (rs:List Dk) (G:List Blk) (h:OwnK sv rs G) (hlen:rs.length ≤ 1000) :
  Con prog 92 #[sv] G fun v A=>∃ G',A = G' ++ G ∧ OwnK v rs G':=by
 have h0:=h
 have hl:(dks rs).length = rs.length:=dks_len rs
 rcases h.2 with ⟨rfl,hb,rfl⟩|⟨g,c,spare,rfl,rfl,hsp,hle⟩
 ·obtain rfl:rs = []:=by simpa [dks] using hb
  refine zqI (vs:=[_]) func92 ntmps92 fun B=>?_
  refine zg6 ?_
  exact Cd.ret (ret1 (A':=[]) rfl (Res.tmp rfl) (fun _ h=>h) ⟨[],rfl,Own.none⟩)
 ·rw [hl] at h hle ⊢
  refine zqI (vs:=[_]) func92 ntmps92 fun B=>?_
  repeat' (first|refine zs2 ?_|refine Ops.bs0 rfl rfl rfl (noPd rfl) (fun b=>?_))
  refine Ops.appS (rows:=[]) (news:=dks rs) Own.empty (Reads.own h) (by simp;omega) (by simp;omega) rfl rfl rfl rfl rfl (noPd rfl) rfl (fun v G' hG'=>?_)
  obtain ⟨a',c',rfl⟩:=hG'.form
  refine zg0 ?_
  exact Cd.ret (ret1 (A':=G' ++ [(g,cl ((dks rs).flatten ++ spare) 76)]) rfl (Res.tmp rfl) (fun _ h=>h.split) ⟨G',rfl,by unfold OwnK;simpa using hG'⟩)
theorem dead_spec (d:Dk):Con prog 93 #[.agg d.row.toArray] [] fun v A=>v = .bool (decide (d.life = 0)) ∧ A = []:=by
 refine zqI (vs:=[_]) func93 ntmps93 fun B=>?_
 repeat' (first|refine zs2 ?_|refine Ops.box rfl rfl rfl rfl (noPd rfl) (fun b=>?_))
 exact Cd.ret (ret1 rfl (Res.tmp rfl) (fun _ h=>h.tail) ⟨rfl,rfl⟩)
@[reducible] def deadF:Value:=.func (.func 93) #[] #[]
def liveB (d:Dk):Bool:=!decide (d.life = 0)
theorem index_no (sv:Value) (rs:List Dk) (G:List Blk) (h:OwnK sv rs G) (hlen:rs.length ≤ 1000) (ha:∀ r ∈ rs,r.life ≠ 0) :
  Con prog 157 #[sv,deadF] G fun v A=>v = .int .i64 (-1) ∧ A = G:=by
 obtain ⟨a,c,rfl⟩:=h.form
 refine zqI (vs:=[_,_]) func157 ntmps157 fun B=>?_
 refine zg1 ?_
 refine Cd.loopK (fun i:Nat=>i ≤ rs.length) (fun i=>[(0,.slice a rs.length c),(1,deadF),(7,.int .i64 rs.length),(8,.int .i64 i)]) (fun _=>G) (fun i=>rs.length - i) 0 (Nat.zero_le _) ⟨rfl,rfl,rfl,rfl,trivial⟩ (fun w h=>h) (fun i hi=>?_)
 by_cases hil:i < rs.length
 ·have hil':(i:Int) < rs.length:=by omega
  obtain ⟨g,c2,spare,e1,rfl,hsp,hle⟩:=h.some_ (by omega)
  injection e1 with q1 q2 q3
  subst q1;subst q3
  obtain ⟨r,hr⟩:∃ r,rs[i]? = some r:=⟨_,List.getElem?_eq_getElem hil⟩
  have hok:=dks_ok rs
  have hx:(dks rs)[(i:Int).toNat]? = some r.row:=by simp [dks,hr]
  have hlf:=ha r (List.mem_of_getElem? hr)
  refine zg14 ?_
  refine Ops.callV (f:=93) (fi:=[]) (ca:=[]) (dead_spec r) rfl (noPd rfl) rfl rfl rfl rfl (fun v A' hR=>?_)
  obtain ⟨rfl,rfl⟩:=hR
  refine zg13 ?_
  exact Ops.nilN (round_end (i + 1) (by show i + 1 ≤ rs.length;omega) (by show rs.length - (i + 1) < rs.length - i;omega) ⟨rfl,rfl,rfl,rfl,trivial⟩ (fun w h=>h.split))
 ·obtain rfl:i = rs.length:=by omega
  refine zg2 ?_
  exact Cd.ret (ret1 rfl (Res.tmp rfl) (fun _ h=>h) ⟨rfl,rfl⟩)
theorem index_yes (sv:Value) (rs:List Dk) (G:List Blk) (k:Nat) (d:Dk) (h:OwnK sv rs G) (hlen:rs.length ≤ 1000) (ha:∀ (i:Nat) r,rs[i]? = some r → i < k → r.life ≠ 0) (hk:rs[k]? = some d) (hd:d.life = 0) :
  Con prog 157 #[sv,deadF] G fun v A=>v = .int .i64 k ∧ A = G:=by
 have hkl:k < rs.length:=(List.getElem?_eq_some_iff.1 hk).1
 obtain ⟨g,c,spare,rfl,rfl,hsp,hle⟩:=h.some_ (by omega)
 have hok:=dks_ok rs
 refine zqI (vs:=[_,_]) func157 ntmps157 fun B=>?_
 refine zg1 ?_
 refine Cd.loopK (fun i:Nat=>i ≤ k) (fun i=>[(0,.slice (some ⟨g,0,none⟩) rs.length c),(1,deadF),(7,.int .i64 rs.length),(8,.int .i64 i)]) (fun _=>[(g,cl ((dks rs).flatten ++ spare) 76)]) (fun i=>k - i) 0 (Nat.zero_le _) ⟨rfl,rfl,rfl,rfl,trivial⟩ (fun w h=>h) (fun i hi=>?_)
 have hil':(i:Int) < rs.length:=by omega
 obtain ⟨r,hr⟩:∃ r,rs[i]? = some r:=⟨_,List.getElem?_eq_getElem (by omega)⟩
 have hx:(dks rs)[(i:Int).toNat]? = some r.row:=by simp [dks,hr]
 by_cases hik:i < k
 ·have hlf:=ha i r hr hik
  refine zg14 ?_
  refine Ops.callV (f:=93) (fi:=[]) (ca:=[]) (dead_spec r) rfl (noPd rfl) rfl rfl rfl rfl (fun v A' hR=>?_)
  obtain ⟨rfl,rfl⟩:=hR
  refine zg13 ?_
  exact Ops.nilN (round_end (i + 1) (by show i + 1 ≤ k;omega) (by show k - (i + 1) < k - i;omega) ⟨rfl,rfl,rfl,rfl,trivial⟩ (fun w h=>h.split))
 ·obtain rfl:i = k:=by omega
  obtain rfl:d = r:=by rw [hk] at hr;exact Option.some.inj hr
  refine zg14 ?_
  refine Ops.callV (f:=93) (fi:=[]) (ca:=[]) (dead_spec d) rfl (noPd rfl) rfl rfl rfl rfl (fun v A' hR=>?_)
  obtain ⟨rfl,rfl⟩:=hR
  refine zg2 ?_
  exact ze83
theorem ins_rows {sz:Nat} {rows:List (List Value)} (spare zs:List Value) {i:Nat} (hk:RowsOk sz rows) (hi:i ≤ rows.length) :
  ins (rows.flatten ++ spare) (i * sz) zs = (rows.take i).flatten ++ (zs ++ ((rows.drop i).flatten ++ spare).drop zs.length):=by
 have e1:rows.flatten = (rows.take i).flatten ++ (rows.drop i).flatten:=by rw [← List.flatten_append,List.take_append_drop]
 have e2:(rows.take i).flatten.length = i * sz:=by
  have:RowsOk sz (rows.take i):=fun r h=>hk r (List.mem_of_mem_take h)
  rw [this.len,List.length_take,Nat.min_eq_left hi]
 rw [e1,← e2,List.append_assoc,ins_app,List.append_assoc]
theorem OwnK.cut {g c:Nat} {L:List Dk} {spare zs:List Value} {i:Nat} (hsp:(dks L).flatten.length + spare.length = c * 5) (hle:L.length ≤ c) (hi:i ≤ L.length) (hz:zs.length = (L.length - i) * 5) :
  OwnK (.slice (some ⟨g,0,none⟩) i c) (L.take i) [(g,cl (ins ((dks L).flatten ++ spare) (i * 5) zs) 76)]:=by
 have hl:(dks L).length = L.length:=dks_len L
 have hf:(dks L).flatten.length = L.length * 5:=by rw [(dks_ok L).len,hl]
 have e1:ins ((dks L).flatten ++ spare) (i * 5) zs = (dks (L.take i)).flatten ++ (zs ++ (((dks L).drop i).flatten ++ spare).drop zs.length):=by
  rw [ins_rows spare zs (dks_ok L) (by rw [hl];exact hi)]
  simp [dks,List.map_take]
 have hlen:(ins ((dks L).flatten ++ spare) (i * 5) zs).length = c * 5:=by
  rw [ins_length (by rw [List.length_append];omega),List.length_append,hsp]
 refine ⟨dks_ok _,.inr ⟨g,c,_,?_,by rw [e1],?_,?_⟩⟩
 ·rw [dks_len,List.length_take,Nat.min_eq_left hi]
 ·rw [← List.length_append,← e1,hlen]
 ·rw [dks_len,List.length_take];omega
structure DS where
 i:Nat
 j:Nat
 L:List Dk
def DSI (rs:List Dk) (s:DS):Prop:=s.i < s.j ∧ s.j ≤ rs.length ∧ s.L.length = rs.length ∧ s.L.take s.i = (rs.take s.j).filter liveB ∧ s.L.drop s.j = rs.drop s.j
theorem take_succ_of {α:Type} {l:List α} {j:Nat} {x:α} (h:l[j]? = some x):l.take (j + 1) = l.take j ++ [x]:=by
 obtain ⟨hj,rfl⟩:=List.getElem?_eq_some_iff.1 h
 rw [List.take_succ_eq_append_getElem hj]
theorem del_no (sv:Value) (rs:List Dk) (G:List Blk) (h:OwnK sv rs G) (hlen:rs.length ≤ 1000) (ha:∀ r ∈ rs,r.life ≠ 0) :
  Con prog 91 #[sv,deadF] G fun v A=>v = sv ∧ A = G:=by
 obtain ⟨a,c,rfl⟩:=h.form
 refine zqI (vs:=[_,_]) func91 ntmps91 fun B=>?_
 refine zg0 ?_
 refine Ops.call (index_no _ rs G h hlen ha) rfl (noPd rfl) rfl rfl rfl (fun v A' hR=>?_)
 obtain ⟨rfl,rfl⟩:=hR
 refine zg6 ?_
 exact ze83
theorem del_yes (sv:Value) (rs:List Dk) (G:List Blk) (k:Nat) (d:Dk) (h:OwnK sv rs G) (hlen:rs.length ≤ 1000) (ha:∀ (i:Nat) r,rs[i]? = some r → i < k → r.life ≠ 0) (hk:rs[k]? = some d) (hd:d.life = 0) :
  Con prog 91 #[sv,deadF] G fun v A=>OwnK v (rs.filter liveB) A:=by
 have hkl:k < rs.length:=(List.getElem?_eq_some_iff.1 hk).1
 have hO:=h
 obtain ⟨g,c,spare,rfl,rfl,hsp,hle⟩:=h.some_ (by omega)
 have hfl:(rs.take k).filter liveB = rs.take k:=by
  refine List.filter_eq_self.2 fun r hr=>?_
  obtain ⟨i,hi⟩:=List.getElem?_of_mem hr
  have hik:i < k:=by
   have:=(List.getElem?_eq_some_iff.1 hi).1
   rw [List.length_take] at this;omega
  rw [List.getElem?_take_of_lt hik] at hi
  simp [liveB,ha i r hi hik]
 refine zqI (vs:=[_,_]) func91 ntmps91 fun B=>?_
 refine zg0 ?_
 refine Ops.call (index_yes _ rs _ k d hO hlen ha hk hd) rfl (noPd rfl) rfl rfl rfl (fun v A' hR=>?_)
 obtain ⟨rfl,rfl⟩:=hR
 refine zg16 ?_
 refine Cd.loopK (DSI rs) (fun s=>[(0,.slice (some ⟨g,0,none⟩) rs.length c),(1,deadF),(5,.int .i64 s.i),(6,.int .i64 s.j)]) (fun s=>[(g,cl ((dks s.L).flatten ++ spare) 76)]) (fun s=>rs.length - s.j) ⟨k,k + 1,rs⟩
  ⟨Nat.lt_succ_self k,by show k + 1 ≤ rs.length;omega,rfl,by
   show rs.take k = (rs.take (k + 1)).filter liveB
   rw [take_succ_of hk,List.filter_append,hfl];simp [liveB,hd],rfl⟩ ⟨rfl,rfl,rfl,rfl,trivial⟩ (fun w h=>h.split) (fun s hI=>?_)
 obtain ⟨i,j,L⟩:=s
 obtain ⟨hij,hj,hL,ht,hdr⟩:=hI
 dsimp only at hij hj hL ht hdr ⊢
 have hll:(dks L).length = L.length:=dks_len L
 have hok:=dks_ok L
 by_cases hjl:j < rs.length
 ·have hjl':(j:Int) < rs.length:=by omega
  obtain ⟨r,hr⟩:∃ r,rs[j]? = some r:=⟨_,List.getElem?_eq_getElem hjl⟩
  have hrL:L[j]? = some r:=by
   have:=congrArg (fun l=>l[0]?) hdr
   simp only [List.getElem?_drop,Nat.add_zero] at this
   rw [this];exact hr
  have hx:(dks L)[(j:Int).toNat]? = some r.row:=by simp [dks,hrL]
  have hdr2:L.drop (j + 1) = rs.drop (j + 1):=by
   have:=congrArg (List.drop 1) hdr
   rw [List.drop_drop,List.drop_drop] at this
   exact this
  repeat' (first|refine zs8 ?_|refine Ops.alloc rfl rfl rfl (noPd rfl) (fun b=>?_))
  refine Ops.callV (f:=93) (fi:=[]) (ca:=[]) (dead_spec r) rfl (noPd rfl) rfl rfl rfl rfl (fun v A' hR=>?_)
  obtain ⟨rfl,rfl⟩:=hR
  by_cases hl:r.life = 0
  ·have e2:(rs.take (j + 1)).filter liveB = (rs.take j).filter liveB:=by
    rw [take_succ_of hr,List.filter_append];simp [liveB,hl]
   refine zg13 ?_
   exact Ops.nilN (round_end (⟨i,j + 1,L⟩:DS) ⟨by show i < j + 1;omega,by show j + 1 ≤ rs.length;omega,hL,by show L.take i = _;rw [ht,e2],hdr2⟩ (by show rs.length - (j + 1) < rs.length - j;omega) ⟨rfl,rfl,rfl,rfl,trivial⟩ (fun w h=>h.split))
  ·have e2:(rs.take (j + 1)).filter liveB = (rs.take j).filter liveB ++ [r]:=by
    rw [take_succ_of hr,List.filter_append];simp [liveB,hl]
   refine zg14 ?_
   refine Ops.stRow (rows:=dks L) (i:=(i:Int).toNat) rfl rfl rfl rfl rfl rfl hok (by rw [hll];omega) (noPd rfl) ?_
   refine zg9 ?_
   have e3:(dks L).set (i:Int).toNat [.int .i64 r.slot,.int .i64 r.life,.int .i64 r.session,.int .i64 r.last,.string r.reply] = dks (L.set i r):=by
    rw [Int.toNat_natCast];unfold dks;rw [List.map_set]
   exact Ops.nilN (round_end (⟨i + 1,j + 1,L.set i r⟩:DS) ⟨by show i + 1 < j + 1;omega,by show j + 1 ≤ rs.length;omega,by show (L.set i r).length = _;rw [List.length_set];exact hL,by
     show (L.set i r).take (i + 1) = _
     rw [take_succ_of (x:=r) (by rw [List.getElem?_set_self (by omega)]),List.take_set_of_le (Nat.le_refl i),ht,e2],by
     show (L.set i r).drop (j + 1) = _
     rw [List.drop_set_of_lt (by omega)];exact hdr2⟩ (by show rs.length - (j + 1) < rs.length - j;omega) ⟨rfl,rfl,rfl,rfl,trivial⟩ (fun w h=>by rw [e3] at h;exact h.split))
 ·obtain rfl:j = rs.length:=by omega
  rw [List.take_length] at ht
  refine zg8 ?_
  refine Ops.clr (L:=(dks L).flatten ++ spare) rfl rfl rfl (by rw [List.length_append];rw [(dks_ok L).len,hll,hL];rw [(dks_ok rs).len,dks_len] at hsp;exact hsp) (by omega) (by omega) rfl rfl (noPd rfl) ?_
  refine zg16 ?_
  refine Cd.ret (ret1 rfl (Res.tmp rfl) (fun _ h=>h) ?_)
  have:=OwnK.cut (g:=g) (c:=c) (L:=L) (spare:=spare) (i:=i) (zs:=(List.replicate (rs.length - (i:Int).toNat) [.int .i64 0,.int .i64 0,.int .i64 0,.int .i64 0,.string ⟨#[]⟩]).flatten) (by rw [(dks_ok L).len,hll,hL];rw [(dks_ok rs).len,dks_len] at hsp;exact hsp) (by omega) (by omega) (by simp [hL])
  rw [ht] at this
  exact this
theorem del_spec (sv:Value) (rs:List Dk) (G:List Blk) (h:OwnK sv rs G) (hlen:rs.length ≤ 1000) :
  Con prog 91 #[sv,deadF] G fun v A=>OwnK v (rs.filter liveB) A:=by
 cases hf:rs.findIdx? (fun d:Dk=>decide (d.life = 0)) with
 | none =>
  rw [List.findIdx?_eq_none_iff] at hf
  have ha:∀ r ∈ rs,r.life ≠ 0:=fun r hr=>by simpa using hf r hr
  have e:rs.filter liveB = rs:=List.filter_eq_self.2 fun r hr=>by simp [liveB,ha r hr]
  rw [e]
  exact (del_no sv rs G h hlen ha).mono fun v A ⟨e1,e2⟩=>by subst e1;subst e2;exact h
 | some k =>
  rw [List.findIdx?_eq_some_iff_getElem] at hf
  obtain ⟨hk,h1,h2⟩:=hf
  exact del_yes sv rs G k rs[k] h hlen (fun i r hi hik=>by
   obtain ⟨hi',rfl⟩:=List.getElem?_eq_some_iff.1 hi
   simpa using h2 i hik) (List.getElem?_eq_getElem hk) (by simpa using h1)
theorem rows_spec (n:Nat) (sv:Value) (rs:List Dk) (G:List Blk) (h:OwnK sv rs G) (hlen:rs.length ≤ 1000) :
  Con prog 50 #[ptr n] (TabB n sv G) fun v A=>∃ G',A = G' ++ TabB n sv G ∧ OwnK v (rs.filter liveB) G':=by
 obtain ⟨a,c,rfl⟩:=h.form
 refine zqI (vs:=[_]) func50 ntmps50 fun B=>?_
 refine zg1 ?_
 refine Ops.call (sclone_spec _ rs G h hlen) rfl (noPd rfl) rfl rfl rfl (fun v A' hR=>?_)
 obtain ⟨G',rfl,hG'⟩:=hR
 obtain ⟨a',c',rfl⟩:=hG'.form
 refine Ops.call (del_spec _ rs G' hG' hlen) rfl (noPd rfl) rfl rfl rfl (fun v A' hR=>?_)
 obtain ⟨a2,c2,rfl⟩:=hR.form
 refine zg0 ?_
 exact Cd.ret (ret1 (A':=A' ++ TabB n (.slice a rs.length c) G) rfl (Res.tmp rfl) (fun _ h=>h.split) ⟨A',rfl,hR⟩)
end Go.Proofs.YtkoelgkghijgiaaGreat.Se
namespace Go.Proofs.YtkoelgkghijgiaaGreat.Se
open Go Go.Sep Go.Proofs Go.Proofs.Tryz
set_option maxRecDepth 10000
set_option maxHeartbeats 40000000
set_option synthInstance.maxSize 2000
end Go.Proofs.YtkoelgkghijgiaaGreat.Se
namespace Go.Proofs.YtkoelgkghijgiaaGreat.Ls
open Go Go.Sep Go.Proofs Go.Proofs.Tryz
set_option maxRecDepth 10000
set_option maxHeartbeats 40000000
set_option synthInstance.maxSize 2000
end Go.Proofs.YtkoelgkghijgiaaGreat.Ls
namespace Go.Proofs.YtkoelgkghijgiaaGreat
open Go Go.Sep Go.Proofs Go.Proofs.Tryz
set_option maxRecDepth 10000
set_option maxHeartbeats 40000000
set_option synthInstance.maxSize 2000
theorem csessions_gen (xb lb tb cb mb db wb sb:Nat) (c:Cf) (tv:Value) (dead:Bool) (sv:Value) (rs:List Se.Dk) (G:List Blk) (hO:Se.OwnK sv rs G) (hlen:rs.length ≤ 1000) :
  Con prog 15 #[ptr xb] (CoB xb lb tb cb mb db wb sb c tv dead :: Se.TabB tb sv G) fun v A=>∃ H,Se.OwnK v (rs.filter Se.liveB) H ∧ A = H ++ (CoB xb lb tb cb mb db wb sb c tv dead :: Se.TabB tb sv G):=by
 refine zqI (vs:=[_]) func15 ntmps15 fun B=>?_
 refine zg1 ?_
 refine zqA (Se.rows_spec tb sv rs G hO hlen) fun v A' hR=>?_
 obtain ⟨H,rfl,hO1⟩:=hR
 obtain ⟨a,c',rfl⟩:=hO1.form
 refine zg0 ?_
 exact Cd.ret (ret1 (A':=H ++ (CoB xb lb tb cb mb db wb sb c tv dead :: Se.TabB tb sv G)) rfl (Res.tmp rfl) (fun w h=>h.split) ⟨H,hO1,rfl⟩)
theorem co_sessions (B0:Base) (xb db:Nat) (c:Cf) (n:Nat) (o:Co) (A:List Blk) (hA:CoP xb db c n o A) (hlen:o.rs.length ≤ 1000) :
  ConB prog B0 15 #[ptr xb] A fun v A'=>∃ H A1,A' = H ++ A1 ∧ Se.OwnK v (o.rs.filter Se.liveB) H ∧ CoP xb db c n o A1:=by
 obtain ⟨A0,hp1,hA⟩:=hA
 refine ConB.permIn ?_ hp1
 have hAA:=hA
 obtain ⟨lb,lm,tb,cb,mb,wb,sb,tv,les,lck,sv,G,mes,mck_,SD,k,D,TG,TX,WG,rfl,hL,hO,hW,hS,hD,hk,hT⟩:=hA
 have hl:=(Con.toB (B0:=B0) (csessions_gen xb lb tb cb mb db wb sb c tv false sv o.rs G hO hlen)).beside (F:=Ls.TB lb lm c.lease les lck ++ (CtB cb c.block o.q.la o.q.st.res :: (mb,mpo mes mck_) :: WlB wb db o.w :: (SD ++ (D ++ (TG ++ (TX ++ WG))))))
 refine (hl.permIn ?_).permOut fun v A' hR=>?_
 ·refine perm_of fun c g ha hc' hp h0=>?_
  simp only [CoL,List.cons_append,List.append_assoc,List.nil_append,ha,hc',h0];omega
 ·obtain ⟨A2,⟨H,hr,rfl⟩,rfl⟩:=hR
  refine ⟨_,⟨H,_,rfl,hr,hAA.p⟩,?_⟩
  refine perm_of fun c g ha hc' hp h0=>?_
  simp only [CoL,List.cons_append,List.append_assoc,List.nil_append,ha,hc',h0];omega
end Go.Proofs.YtkoelgkghijgiaaGreat
namespace Go.Sep
open Go
def andNotI (k:IntKind) (a b:Int):Int:=k.wrap ((BitVec.ofInt k.bits a &&& ~~~(BitVec.ofInt k.bits b)).toNat:Int)
section
variable {P:Program} {t:TypeId} {k:IntKind} {a b:Int}
instance (priority:=400) BinRun.andNotI:BinRun P .andNot t (.int k a) (.int k b) (.int k (andNotI k a b)):=⟨fun _ _ w=>by simp [eqGuard,binOp,Op.intBits,Sep.andNotI]⟩
end
section
variable {P:Program} {N:Fi} {B:Base} {Q:Exit → Act → World → Prop} {T:Tm} {A:List Blk} {ops:Array Oper} {l:List Oper}
variable {d:Nat} {ty:TypeId} {pos:String} {af:Array Edge} {m:Md} {gd:Option (Nat × Bool)}
theorem Ops.remU {t t':TypeId} {x y:Operand} {a b:Nat} (hm:m.rd true = true) (hg:gst ops T gd = some true) (hx:ev T x = some (.int .u64 a)) (hy:ev T y = some (.int .u64 b)) (hb:b ≠ 0) (hd:Nat.blt d N.n = true)
  (k:Ops P N B Q ops m.tl l ((d,.int .u64 ((a % b:Nat):Int)) :: T) A):Ops P N B Q ops m (⟨some d,.binOp .rem t x y t',ty,pos,af,gd⟩ :: l) T A :=
 Ops.pureV hm hg hd (fun a' w hF=>by
  have h3:((a:Int)).tmod (b:Int) = (a:Int) % (b:Int):=rfl
  simp [execOp,hF.eval hx,hF.eval hy,eqGuard,binOp,Op.intDiv,hb,h3]) k
theorem Ops.quoU {t t':TypeId} {x y:Operand} {a b:Nat} (hm:m.rd true = true) (hg:gst ops T gd = some true) (hx:ev T x = some (.int .u64 a)) (hy:ev T y = some (.int .u64 b)) (ha:a < 18446744073709551616) (hb:b ≠ 0) (hd:Nat.blt d N.n = true)
  (k:Ops P N B Q ops m.tl l ((d,.int .u64 ((a / b:Nat):Int)) :: T) A):Ops P N B Q ops m (⟨some d,.binOp .quo t x y t',ty,pos,af,gd⟩ :: l) T A :=
 Ops.pureV hm hg hd (fun a' w hF=>by
  have h1:a / b ≤ a:=Nat.div_le_self _ _
  have h2:∀ q:Nat,q < 18446744073709551616 → IntKind.u64.wrap (q:Int) = q:=by intro q hq;simp [IntKind.wrap,IntKind.bits,IntKind.signed];omega
  have h4:IntKind.u64.wrap ((a:Int) / (b:Int)) = (a:Int) / (b:Int):=by have:=h2 (a / b) (by omega);push_cast at this;exact this
  have h3:((a:Int)).tdiv (b:Int) = (a:Int) / (b:Int):=rfl
  simp [execOp,hF.eval hx,hF.eval hy,eqGuard,binOp,Op.intDiv,hb,h3,h4]) k
theorem Ops.bsNP {Pr:List (List Value) → Prop} {t e:TypeId} {ge:Bool} {sz' bs' n:Nat} {zc' vs:List Value} {ps:Array (Nat × Operand)} (rows:List (List Value)) (hm:m.eff = true) (hg:gst ops T gd = some true) [ht:TyD P t (.slice e)] [he:Ty P e ge sz' bs' zc']
  (hi:ps.toList.map (·.1) = List.range n) (hx:evs T (ps.toList.map (·.2)) = some vs) (hn:vs.length = n) (hr:(vs.map fun v=>v.cells.toList) = rows) (hl:(rows.all fun r=>r.length == sz') = true) (h0:Nat.blt 0 (n * sz') = true) (hsz:Nat.ble (n * sz') 16777216 = true) (hd:Nat.blt d N.n = true)
  (hp:Pd P N B ops m T (some d) (NewR (fun b=>.slice (some ⟨b,0,none⟩) n n) (cl (rows.flatten ++ []) e) A)) (hP:Pr rows) (k:∀ b rows',Pr rows' → Ops P N B Q ops m.tl l ((d,.slice (some ⟨b,0,none⟩) n n) :: T) ((b,cl (rows'.flatten ++ []) e) :: A)):Ops P N B Q ops m (⟨some d,.buildSlice t n ps,ty,pos,af,gd⟩ :: l) T A :=
 Ops.bsN rows hm hg hi hx hn hr hl h0 hsz hd hp (fun b=>k b rows hP)
end
end Go.Sep
namespace Go.Proofs.YtkoelgkghijgiaaGreat
open Go Go.Sep Go.Proofs Go.Proofs.Tryz
set_option maxRecDepth 10000
set_option maxHeartbeats 40000000
set_option synthInstance.maxSize 2000
theorem own_zero {E sz:Nat} (g:Nat):Own E sz (.slice (some ⟨g,0,none⟩) 0 0) [] [(g,cl [] E)]:=⟨(fun r hr=>by cases hr),.inr ⟨g,0,[],rfl,rfl,by simp,Nat.le_refl _⟩⟩
theorem r2_byte (m:Nat):IntKind.wrap .u8 (IntKind.wrap .u8 ((m % 128:Nat):Int) + 128) = ((m % 128 + 128:Nat):Int):=by
 simp only [IntKind.wrap,IntKind.bits,IntKind.signed,Bool.false_and,Bool.false_eq_true,if_false]
 omega
theorem r2num_spec (n:Nat) (hn:n < 18446744073709551616):Con prog 40 #[.int .u64 n] [] fun v A=>v = .string (numB n) ∧ A = []:=by
 have hlen:(numL n).length ≤ 10:=numL_len 9 n (by omega)
 refine zqI (vs:=[_]) func40 ntmps40 fun B=>?_
 repeat' (first|refine zs3 ?_|refine Ops.bs0 rfl rfl rfl (noPd rfl) (fun b=>?_))
 rename Nat=>g0
 refine Cd.loopK (σ:=NumS) (fun s=>numL n = s.xs ++ numL s.m ∧ OwnB s.sv s.xs s.G ∧ s.m < 18446744073709551616) (fun s=>[(0,.int .u64 s.m),(3,s.sv)]) (fun s=>s.G) (fun s=>s.m) ⟨[],n,.slice (some ⟨g0,0,none⟩) 0 0,[(g0,cl [] 5)]⟩ ⟨rfl,own_zero g0,hn⟩ ⟨rfl,rfl,trivial⟩ (fun w h=>h.split) (fun s hs=>?_)
 obtain ⟨xs,m,sv,G⟩:=s
 obtain ⟨hx,hO,hmb⟩:=hs
 dsimp only at hx hO hmb ⊢
 obtain ⟨a,c,rfl⟩:=hO.form
 have hll:(xs.map fun n=>[Value.int .u8 n]).length = xs.length:=List.length_map _
 have hxl:xs.length ≤ 10:=by
  have:(xs ++ numL m).length ≤ 10:=by rw [← hx];exact hlen
  rw [List.length_append] at this;omega
 by_cases hm:m < 128
 ·have hm':(m:Int) < 128:=by omega
  refine zg2 ?_
  refine Ops.cvI rfl rfl rfl rfl ?_
  rw [last_byte hm]
  repeat' (first|refine Ops.bs1 rfl rfl rfl rfl rfl rfl rfl (noPd rfl) (fun b=>?_))
  refine Ops.app1 (rows:=xs.map fun n=>[Value.int .u8 n]) hO (by rw [hll];omega) (by rw [hll];omega) rfl rfl rfl rfl (by rfl) (by rfl) rfl (noPd rfl) rfl (fun v G' hG'=>?_)
  have hG2:OwnB v (xs ++ [(m:Int)]) G':=by
   unfold OwnB;rw [List.map_append];exact hG'
  clear hG'
  refine Ops.cvBS hG2 rfl rfl rfl rfl ?_
  refine zg0 ?_
  exact ze0
 ·have hm':¬ (m:Int) < 128:=by omega
  refine zg2 ?_
  refine Ops.remU (b:=128) rfl rfl rfl rfl (by decide) rfl ?_
  refine Ops.cvI rfl rfl rfl rfl ?_
  repeat' (first|refine Ops.bin rfl rfl rfl rfl rfl ?_|refine Ops.bs1 rfl rfl rfl rfl rfl rfl rfl (noPd rfl) (fun b=>?_))
  rw [r2_byte]
  refine Ops.app1 (rows:=xs.map fun n=>[Value.int .u8 n]) hO (by rw [hll];omega) (by rw [hll];omega) rfl rfl rfl rfl (by rfl) (by rfl) rfl (noPd rfl) rfl (fun v G' hG'=>?_)
  have hG2:OwnB v (xs ++ [((m % 128 + 128:Nat):Int)]) G':=by
   unfold OwnB;rw [List.map_append];exact hG'
  clear hG'
  refine zg0 ?_
  refine Ops.quoU (b:=128) rfl rfl rfl rfl hmb (by decide) rfl ?_
  refine zg0 ?_
  exact Ops.nilN (inB (round_end (⟨xs ++ [((m % 128 + 128:Nat):Int)],m / 128,v,G'⟩:NumS) ⟨by show numL n = (xs ++ [_]) ++ numL (m / 128);rw [hx,numL_big hm];simp,hG2,by show m / 128 < _;omega⟩ (by show m / 128 < m;omega) ⟨rfl,rfl,trivial⟩ (fun w h=>h.split)))
theorem r2text_spec (s:ByteArray) (hs:s.size ≤ 4611686018427387800):Con prog 43 #[.string s] [] fun v A=>v = .string (numB s.size ++ s) ∧ A = []:=by
 have h10:=numB_size (n:=s.size) (by omega)
 refine zqI (vs:=[_]) func43 ntmps43 fun B=>?_
 refine zg4 ?_
 refine Ops.cvI rfl rfl rfl rfl ?_
 rw [wrap_u64 (by omega)]
 refine zqA (r2num_spec s.size (by omega)) fun v A' hR=>?_
 obtain ⟨rfl,rfl⟩:=hR
 refine zg0 ?_
 refine Ops.cat rfl rfl rfl rfl (by omega) rfl ?_
 refine zg0 ?_
 exact ze9
structure BitS where
 i:Nat
 sv:Value
 G:List Blk
theorem hiL_take {n i:Nat} (h:i < 8):(hiL n 8).take (i + 1) = (hiL n 8).take i ++ [((n / 256 ^ (7 - i) % 256:Nat):Int)]:=by
 have h1:=hiL_at (n:=n) (k:=8) (i:=i) h
 rw [List.getD_eq_getElem?_getD] at h1
 have h2:i < (hiL n 8).length:=by rw [hiL_len];exact h
 rw [List.getElem?_eq_getElem h2] at h1
 rw [List.take_add_one,List.getElem?_eq_getElem h2]
 have h3:(hiL n 8)[i] = ((n / 256 ^ (7 - i) % 256:Nat):Int):=h1
 rw [h3];rfl
theorem r2bits_spec (n:Nat) (hn:n < 18446744073709551616):Con prog 42 #[.int .u64 n] [] fun v A=>v = .string (hiB n 8) ∧ A = []:=by
 refine zqI (vs:=[_]) func42 ntmps42 fun B=>?_
 repeat' (first|refine zs3 ?_|refine Ops.bs0 rfl rfl rfl (noPd rfl) (fun b=>?_))
 rename Nat=>g0
 refine Cd.loopK (σ:=BitS) (fun t=>t.i ≤ 8 ∧ OwnB t.sv ((hiL n 8).take t.i) t.G) (fun t=>[(0,.int .u64 n),(3,t.sv),(4,.int .i64 (56 - 8 * (t.i:Int)))]) (fun t=>t.G) (fun t=>8 - t.i) ⟨0,.slice (some ⟨g0,0,none⟩) 0 0,[(g0,cl [] 5)]⟩ ⟨Nat.zero_le _,own_zero g0⟩ ⟨rfl,rfl,rfl,trivial⟩ (fun w h=>h.split) (fun t ht=>?_)
 obtain ⟨i,sv,G⟩:=t
 obtain ⟨hi,hO⟩:=ht
 dsimp only at hi hO ⊢
 obtain ⟨a,c,rfl⟩:=hO.form
 have hll:((((hiL n 8).take i).map fun n=>[Value.int .u8 n])).length = i:=by rw [List.length_map,List.length_take,hiL_len];omega
 have hil:((hiL n 8).take i).length = i:=by rw [List.length_take,hiL_len];omega
 by_cases hlt:i < 8
 ·have hlt':(0:Int) ≤ 56 - 8 * (i:Int):=by omega
  have hnx:=hiL_take (n:=n) hlt
  refine zg2 ?_
  refine Ops.shrI rfl rfl rfl rfl (by omega) rfl ?_
  refine Ops.cvI rfl rfl rfl rfl ?_
  rw [show (56:Int) - 8 * (i:Int) = 8 * ((7 - i:Nat):Int) from by omega,show IntKind.bits .u64 = IntKind.bits .i64 from rfl,shr8 n (7 - i) (by omega)]
  repeat' (first|refine Ops.bs1 rfl rfl rfl rfl rfl rfl rfl (noPd rfl) (fun b=>?_))
  refine Ops.app1 (rows:=((hiL n 8).take i).map fun n=>[Value.int .u8 n]) hO (by rw [hll];omega) (by rw [hll];omega) rfl rfl rfl rfl (by rfl) (by rfl) rfl (noPd rfl) rfl (fun v G' hG'=>?_)
  have hG2:OwnB v ((hiL n 8).take (i + 1)) G':=by
   unfold OwnB;rw [hnx,List.map_append];exact hG'
  clear hG'
  refine zg11 ?_
  exact Ops.nilN (round_end (⟨i + 1,v,G'⟩:BitS) ⟨by show i + 1 ≤ 8;omega,hG2⟩ (by show 8 - (i + 1) < 8 - i;omega) ⟨rfl,rfl,congrArg (fun q=>some (Value.int .i64 q)) (by show (8 * ((7 - i:Nat):Int)) - 8 = 56 - 8 * ((i + 1:Nat):Int);omega),trivial⟩ (fun w h=>h.split))
 ·have hlt':¬ (0:Int) ≤ 56 - 8 * (i:Int):=by omega
  have he:i = 8:=by omega
  subst he
  rw [List.take_of_length_le (by rw [hiL_len];omega)] at hO
  refine zg4 ?_
  refine Ops.cvBS hO rfl rfl rfl rfl ?_
  refine zg0 ?_
  exact ze9
end Go.Proofs.YtkoelgkghijgiaaGreat
namespace Go.Proofs.YtkoelgkghijgiaaGreat
open Go Go.Sep Go.Proofs
set_option maxRecDepth 10000
set_option maxHeartbeats 40000000
set_option synthInstance.maxSize 2000
end Go.Proofs.YtkoelgkghijgiaaGreat
namespace Go.Proofs.YtkoelgkghijgiaaGreat
open Go Go.Sep Go.Proofs Go.Proofs.Tryz
set_option maxRecDepth 10000
set_option maxHeartbeats 40000000
set_option synthInstance.maxSize 2000
def FormsOk (rows:List (List Value)):Prop:=rows.length = 25 ∧ ∀ r ∈ rows,∃ w n b1 b2,r = [.string w,.int .i64 n,.bool b1,.bool b2] ∧ 0 ≤ n ∧ n ≤ 3
theorem forms_spec:Con prog 65 #[] [] fun v A=>∃ g rows,v = .slice (some ⟨g,0,none⟩) 25 25 ∧ A = [(g,cl (rows.flatten ++ []) 148)] ∧ FormsOk rows ∧ RowsOk 4 rows:=by
 refine zqI (vs:=[]) func65 ntmps65 fun B=>?_
 refine zg3 ?_
 refine Ops.bsN _ rfl rfl rfl rfl rfl rfl rfl rfl rfl rfl (noPd rfl) (fun g=>?_)
 refine zg0 ?_
 refine Cd.ret (ret1 rfl (Res.tmp rfl) (fun _ h=>h) ⟨g,_,rfl,rfl,⟨rfl,?_⟩,?_⟩)
 ·repeat (first|exact List.forall_mem_nil _|refine List.forall_mem_cons.2 ⟨⟨_,_,_,_,rfl,by decide,by decide⟩,?_⟩)
 ·intro r hr
  revert r
  repeat (first|exact List.forall_mem_nil _|refine List.forall_mem_cons.2 ⟨⟨rfl,rfl⟩,?_⟩)
end Go.Proofs.YtkoelgkghijgiaaGreat
namespace Go.Sep
open Go
section
variable {P:Program} {N:Fi} {B:Base} {T:Tm} {A:List Blk} {ops:Array Oper}
variable {ty:TypeId} {pos:String} {af:Array Edge} {gd:Option (Nat × Bool)}
theorem Still.ldRowA {i' dd t:Nat} {x:Operand} {b i:Nat} {sz bs:Nat} {zc r:List Value} {rows:List (List Value)} {spare:List Value} {E:TypeId} (ho:ops[i']? = some ⟨some dd,.load t x,ty,pos,af,gd⟩) (hg:gst ops T gd = some true) [ht:Ty P t true sz bs zc]
  (hx:ev T x = some (.pointer (some ⟨b,i * sz,none⟩))) [hb:Has A b (cl (rows.flatten ++ spare) E)] (hr:RowsOk sz rows) (hi:rows[i]? = some r) (hl:look T dd = some (.agg r.toArray)):Still P N B ops T A i' :=
 ⟨_,dd,.agg r.toArray,ho,rfl,hl,fun a w hF hS=>.inl ⟨gst_wanted (o:=⟨some dd,.load t x,ty,pos,af,gd⟩) hF hg,by
  have hl:=(hr r (List.mem_of_getElem? hi)).1
  simp [execOp,hF.eval hx,run_loadAtN ht hl (fun j u hu=>by
   have hj:j < sz:=by rw [← hl];exact (List.getElem?_eq_some_iff.1 hu).1
   have h1:=hr.at_ hi hj
   rw [cell_of (hS.here _ hb.mem),List.getElem?_append_left (List.getElem?_eq_some_iff.1 (h1.trans hu)).1,h1,hu])]⟩⟩
end
end Go.Sep
namespace Go.Proofs.YtkoelgkghijgiaaGreat
open Go Go.Sep Go.Proofs
set_option maxRecDepth 10000
set_option maxHeartbeats 40000000
set_option synthInstance.maxSize 2000
@[reducible] def insR (op a b c n k:Int):List Value:=[.int .i64 op,.int .i64 a,.int .i64 b,.int .i64 c,.int .i64 n,.int .u64 k]
structure Inz where
 op:Int
 a:Int
 b:Int
 c:Int
 n:Int
 k:Int
@[reducible] def Inz.row (x:Inz):List Value:=insR x.op x.a x.b x.c x.n x.k
@[reducible] def ptrAt (b o:Nat):Value:=.pointer (some ⟨b,o,none⟩)
end Go.Proofs.YtkoelgkghijgiaaGreat
namespace Go.Proofs.YtkoelgkghijgiaaGreat
open Go Go.Sep Go.Proofs Go.Proofs.Tryz
set_option maxRecDepth 10000
set_option maxHeartbeats 40000000
set_option synthInstance.maxSize 2000
theorem dnew_bad (n:Int) (h:¬ (1 ≤ n ∧ n ≤ 1026)):Con prog 33 #[.int .i64 n] [] fun v A=>v = .tuple #[.pointer none,.int .i64 40] ∧ A = []:=by
 refine zqI (vs:=[_]) func33 ntmps33 fun B=>?_
 by_cases h1:n < 1
 ·refine zg7 ?_
  exact ze10
 ·have h2:(1026:Int) < n:=by omega
  refine zg8 ?_
  exact ze10
theorem new_bad (c:Cf) (hc:¬ CfOk c) (db:Nat) (x:Dk) (k:Nat) (D:List Blk) (hD:DkA db x k D) :
  Con prog 34 #[.agg c.row.toArray,ptr db] D fun v A=>v = .tuple #[.pointer none,.int .i64 180] ∧ A = D:=by
 have hfit:fitsF c x = false:=by unfold fitsF;rw [show checkC c = 180 from if_neg hc];simp
 refine zqI (vs:=[_,_]) func34 ntmps34 fun B=>?_
 repeat' (first|refine zs1 ?_|refine Ops.box rfl rfl rfl rfl (noPd rfl) (fun b=>?_))
 refine zqA (fits_spec c db x k D hD) fun v A' hR=>?_
 obtain ⟨rfl,e⟩:=hR
 subst A'
 rw [hfit]
 refine zg6 ?_
 exact Cd.ret (ret2 (A':=D) rfl (Res.tmp rfl) (Res.tmp rfl) (fun _ h=>h.split) ⟨rfl,rfl⟩)
theorem dkZ_a {db n:Nat} {D:List Blk} (hn:n ≤ 1026) (hD:DiskA db (List.replicate n zs) 0 0 false 0 D):DkA db (dkZ n) 0 D :=
 ⟨hD,by show (List.replicate n zs).length ≤ 1026;simpa using hn,by decide,(by show (0:Int) ≤ 0;omega),(by show (0:Int) ≤ 128;omega),(by show (0:Int) ≤ 0;omega),(by show (0:Int) ≤ 9223372036854775807;omega)⟩
theorem begun_no (c:Cf) (hc:¬ CfOk c):Con prog 8 #[.agg c.row.toArray] [] fun v A=>v = .tuple #[.pointer none,.pointer none] ∧ A = []:=by
 refine zqI (vs:=[_]) func8 ntmps8 fun B=>?_
 repeat' (first|refine zs2 ?_|refine Ops.box rfl rfl rfl rfl (noPd rfl) (fun b=>?_))
 generalize IntKind.wrap .i64 _ = z
 by_cases hz:1 ≤ z ∧ z ≤ 1026
 ·obtain ⟨n,rfl⟩:∃ n:Nat,z = n:=⟨z.toNat,by omega⟩
  refine zqA (dnew_spec n (by omega) (by omega)) fun v A' hR=>?_
  obtain ⟨db,rfl,hD⟩:=hR
  rename List Blk=>D
  refine zg4 ?_
  refine zqA (new_bad c hc db (dkZ n) 0 D (dkZ_a (by omega) hD)) fun v A' hR=>?_
  obtain ⟨rfl,e⟩:=hR
  subst A'
  refine zg4 ?_
  exact ze10
 ·refine zqA (dnew_bad z hz) fun v A' hR=>?_
  obtain ⟨rfl,rfl⟩:=hR
  refine zg4 ?_
  exact ze10
theorem begun_yes (B0:Base) (c:Cf) (hc:CfOk c):ConB prog B0 8 #[.agg c.row.toArray] [] fun v A=>∃ db xb,v = .tuple #[ptr db,ptr xb] ∧ CoP xb db c 0 (co0 c) A:=by
 obtain ⟨q1,q2,q3,q4⟩:=lenC_room hc
 obtain ⟨_,_,_,_,_,_,_,_,h1,h2⟩:=id hc
 refine zqJ (vs:=[_]) func8 ntmps8 fun B hB=>?_
 repeat' (first|refine Ops.mulI rfl rfl rfl rfl (by omega) (by omega) rfl ?_|refine zs7 ?_|refine Ops.box rfl rfl rfl rfl (noPd rfl) (fun b=>?_))
 rw [← q4]
 refine zqA (dnew_spec (lenC c) (by omega) q3) fun v A' hR=>?_
 obtain ⟨db,rfl,hD⟩:=hR
 rename List Blk=>D
 refine zg4 ?_
 refine zqB (co_new B0 c hc db D (dkZ_a q3 hD)) hB fun v A' hR=>?_
 obtain ⟨xb,rfl,hP⟩:=hR
 refine zg4 ?_
 exact Cd.ret (ret2 (A':=A') rfl (Res.tmp rfl) (Res.tmp rfl) (fun _ h=>h.split) ⟨db,xb,rfl,hP⟩)
structure LOp where
 on:Int
 kind:Int
 n:Int
 bytes:Int
 node:Int
 life:Int
 m:Ms
 s:ByteArray
@[reducible] def LOp.row (o:LOp):List Value:=[.int .i64 o.on,.int .i64 o.kind,.int .i64 o.n,.int .i64 o.bytes,.int .i64 o.node,.int .i64 o.life,.int .i64 o.m.kind,.int .i64 o.m.session,.int .i64 o.m.number,.int .i64 o.m.job,.int .i64 o.m.badge,.int .i64 o.m.index,.int .i64 o.m.count,.int .i64 o.m.rcode,.int .u64 o.m.rbits,.string o.m.text,.string o.m.prog,.string o.s]
structure LOp.Ok (o:LOp):Prop where
 x:0 ≤ o.m.rbits ∧ o.m.rbits < 18446744073709551616
 s:o.s.size < 9223372036854775808
theorem cdead_spec (xb lb tb cb mb db wb sb:Nat) (c:Cf) (tv:Value) (dead:Bool) (x:Dk) (k:Nat) (D:List Blk) (hD:DkA db x k D) :
  Con prog 39 #[ptr xb] (CoB xb lb tb cb mb db wb sb c tv dead :: D) fun v A=>v = .bool (dead || x.de) ∧ A = CoB xb lb tb cb mb db wb sb c tv (dead || x.de) :: D:=by
 refine zqI (vs:=[_]) func39 ntmps39 fun B=>?_
 refine zg0 ?_
 refine zqA (lives_spec xb lb tb cb mb db wb sb c tv dead x k D hD) fun v A' hR=>?_
 obtain ⟨rfl,rfl⟩:=hR
 generalize (dead || x.de) = dd
 refine zg3 ?_
 exact Cd.ret (ret1 (A':=CoB xb lb tb cb mb db wb sb c tv dd :: D) rfl (Res.tmp rfl) (fun _ h=>h.split) ⟨by rw [Bool.not_not],rfl⟩)
end Go.Proofs.YtkoelgkghijgiaaGreat
namespace Go.Proofs.YtkoelgkghijgiaaGreat
open Go Go.Sep Go.Proofs
set_option maxRecDepth 100000
def cf0:Cf:=⟨2,4,2,2,2,4,2,4,160⟩
theorem cf0_ok:CfOk cf0:=by decide
def dk0:Dk:=⟨List.replicate 322 zs,0,0,false⟩
def sec1:ByteArray:=sectorF ⟨1,0,0,0⟩
theorem dk0_calm:Calm dk0 322:=⟨rfl,rfl,by show (List.replicate 322 zs).length = 322;simp,fun s hs=>by
 rw [show dk0.S = List.replicate 322 zs from rfl,List.mem_replicate] at hs
 rw [hs.2];simp [zs,ByteArray.size]⟩
def dk1:Dk:=(dk0.write 1 sec1).1
theorem dk1_calm:Calm dk1 322 ∧ (dk0.write 1 sec1).2 = 0:=by
 have h:=write_calm dk0_calm (i:=1) (by decide) (sectorF_size ⟨1,0,0,0⟩)
 exact ⟨h.2,h.1⟩
theorem zs_none (S:List ByteArray) (at_:Nat) (h:S.getD at_ .empty = zs):foundF S at_ = none:=by
 unfold foundF
 rw [h]
 have e:ofF (zs.extract 0 8) = 0:=by kernel_rfl
 dsimp only
 rw [if_pos (.inl (by rw [e];decide))]
theorem counts0:countsF dk0.S = none:=by
 have h:∀ i,i < 322 → dk0.S.getD i .empty = zs:=fun i hi=>by
  rw [show dk0.S = List.replicate 322 zs from rfl,List.getD_eq_getElem?_getD,List.getElem?_replicate_of_lt hi];rfl
 unfold countsF
 rw [zs_none _ 0 (h 0 (by decide)),zs_none _ 1 (h 1 (by decide))]
theorem format0:formatF dk0 = (dk1,0):=by
 unfold formatF
 rw [if_neg (by decide),if_neg (by rw [dk0_calm.len];decide),counts0]
 rw [if_neg (by decide)]
 exact Prod.ext rfl dk1_calm.2
theorem dk1_S:dk1.S = (List.replicate 322 zs).set 1 sec1:=by kernel_rfl
theorem open1:openW dk1 = (some (⟨1,0,0,0⟩,⟨#[]⟩,[]),0):=by
 have h0:dk1.S.getD 0 .empty = zs:=by rw [dk1_S];rfl
 have h1:dk1.S.getD 1 .empty = sec1:=by rw [dk1_S];rfl
 have hf:foundF dk1.S 1 = some (⟨1,0,0,0⟩,⟨#[]⟩,[]):=by
  unfold foundF
  rw [h1]
  have e1:ofF (sec1.extract 0 8) = 1:=by kernel_rfl
  have e2:rdN sec1 9 13 = 0:=by kernel_rfl
  have e3:rdN sec1 13 17 = 0:=by kernel_rfl
  have e4:bat sec1 8 = 0:=by kernel_rfl
  dsimp only
  rw [e1,e2,e3,e4,if_neg (by decide),if_neg (by
   rintro (q|q|q)
   ·exact q rfl
   ·omega
   ·omega)]
  have e5:(bytesF dk1.S 0 0).extract 0 0 = ⟨#[]⟩:=by
   apply ByteArray.ext
   simp [ByteArray.data_extract]
  rw [show (0:Nat) + 0 = 0 from rfl,e5]
  have e6:framesG ⟨#[]⟩ 0 = some []:=by
   unfold framesG
   rw [dif_neg (by decide)]
  rw [e6]
  rfl
 unfold openW
 rw [if_neg (by rw [dk1_calm.1.de];decide),if_neg (by rw [dk1_calm.1.len];decide)]
 unfold countsF
 rw [zs_none _ 0 h0,hf]
def rec1:ByteArray:=(encodeF [Ch.res 2]).1
theorem rec1_size:rec1.size = 3:=by kernel_rfl
theorem dec1:decF ⟨#[1]⟩ = (Ms.of 1,0):=by kernel_rfl
theorem enc1:(encF ⟨7,1,0,0,0,0,0,0,0,⟨#[]⟩,⟨#[]⟩⟩).1 = ⟨#[7,1]⟩:=by kernel_rfl
theorem hello1:Se.helloV (Se.rowAt (Se.fresh 2) (3 - 2)) 1 = (2,0):=by kernel_rfl
@[reducible] def wl1:Wl:=⟨⟨1,0,0,0⟩,0,false⟩
theorem room1:rec1.size ≤ roomW wl1 322:=by rw [rec1_size];exact Nat.le_of_ble_eq_true (by kernel_rfl)
theorem wl1_ok:WlOk wl1 322:=⟨by decide,by decide,by decide,by decide,by decide⟩
theorem append1:∃ w x,appendF wl1 dk1 rec1 = ((w,x),0) ∧ Calm x 322:=by
 have h:=append_calm (r:=rec1) dk1_calm.1 wl1_ok rfl (by rw [rec1_size];decide) (by rw [rec1_size];decide) (Nat.le_of_ble_eq_true (by kernel_rfl)) (by decide)
 exact ⟨_,_,Prod.ext rfl h.1,h.2.2⟩
theorem next1:nextB 2 0 0 = ((1,2,0),1,2):=by decide
end Go.Proofs.YtkoelgkghijgiaaGreat
namespace Go.Proofs.YtkoelgkghijgiaaGreat
open Go Go.Sep Go.Proofs Go.Proofs.Tryz
set_option maxRecDepth 10000
set_option maxHeartbeats 40000000
set_option synthInstance.maxSize 2000
theorem config_spec:Con prog 36 #[] [] fun v A=>v = .agg cf0.row.toArray ∧ A = []:=by
 refine zqI (vs:=[]) func36 ntmps36 fun B=>?_
 repeat' (first|refine zs0 ?_|refine Ops.alloc rfl rfl rfl (noPd rfl) (fun b=>?_))
 exact ze56
theorem lhello_spec:Con prog 37 #[] [] fun v A=>v = .string ⟨#[1]⟩ ∧ A = []:=by
 refine zqI (vs:=[]) func37 ntmps37 fun B=>?_
 refine zg1 ?_
 exact ze9
theorem fixed_spec (B0:Base):ConB prog B0 10 #[] [] fun v A=>v = .bool true ∧ A = []:=by
 refine zqJ (vs:=[]) func10 ntmps10 fun B hB=>?_
 refine zg0 ?_
 refine zqA (dnew_spec 322 (by decide) (by decide)) fun v A' hR=>?_
 obtain ⟨db,rfl,hD⟩:=hR
 rename List Blk=>D
 have hD0:DkA db dk0 0 D:=⟨hD,by show (List.replicate 322 zs).length ≤ 1026;simp,by decide,by decide,by decide,by decide,by decide⟩
 clear hD
 refine zg4 ?_
 refine Ops.call config_spec rfl (noPd rfl) rfl rfl rfl (fun v A' hR=>?_)
 obtain ⟨rfl,rfl⟩:=hR
 refine zg0 ?_
 refine zqB (new_new B0 cf0 cf0_ok db dk0 dk1 0 D hD0 (by decide) (by rw [dk0_calm.len];decide) format0 (by rw [dk1_calm.1.len];decide) ⟨1,0,0,0⟩ open1) hB fun v A' hR=>?_
 obtain ⟨D1,hD1,xb,lb,lm,tb,cb,mb,wb,sb,sv,G,SD,rfl,rfl,hO,hS⟩:=hR
 refine zg7 ?_
 refine Ops.call lhello_spec rfl (noPd rfl) rfl rfl rfl (fun v A' hR=>?_)
 obtain ⟨rfl,rfl⟩:=hR
 obtain ⟨w1,x1,hap,hcalm⟩:=append1
 have hh:=hello_new B0 xb lb tb cb mb db wb sb cf0 cf0_ok false wl1 w1 dk1 x1 1 D1 hD1 ⟨cf0.attempts,[],0,[],[]⟩ SD hS (stOk_new (by decide) (by decide)) (.slice none 0 0) [] [] Own.none (by decide) sv (Se.fresh 2) G hO 0 0 1 2 1 2 (by decide) (by decide) (by decide) next1 (by decide) (by decide) (by rw [dk1_calm.1.len];exact wl1_ok) (by decide) (by rw [show (encodeF [Ch.res 2]).1.size = 3 from rec1_size];decide) (by decide) (by rw [dk1_calm.1.len];exact room1) hap 3 1 (Ms.of 1) (by decide) (by decide) hello1
 rw [enc1] at hh
 have hh2:=hh.permIn (A2:=CoB xb lb tb cb mb db wb sb cf0 (.slice none 0 0) false :: (D1 ++ (Se.TabB tb sv G ++ (CtB cb cf0.block 0 0 :: WlB wb db wl1 :: SD)))) (List.Perm.cons _ (by
  rw [List.append_nil]
  refine List.perm_append_comm.trans ?_
  rw [List.append_assoc]
  exact List.Perm.refl _))
 clear hh
 refine Ops.callB (hear_hello B0 xb lb tb cb mb db wb sb cf0 cf0_ok (.slice none 0 0) dk1 1 D1 hD1 dk1_calm.1.de _ 3 1 (by decide) (by decide) (by decide) (by decide) ⟨#[1]⟩ (by decide) (Ms.of 1) dec1 rfl ⟨#[7,1]⟩ (by decide) _ hh2) hB rfl (noPd rfl) rfl rfl rfl (fun v A' hR=>?_)
 obtain ⟨A1,g,rfl,⟨SD1,D2,tv1,TG1,G1,rfl,hS1,hD2,hT1,hO1⟩,rfl⟩:=hR
 clear hh2
 rw [List.nil_append] at hT1
 refine zg1 ?_
 refine Ops.call (ctold_spec xb lb tb cb mb db wb sb cf0 false tv1 _ TG1 hT1 (by decide) (fun q hq=>by rw [List.mem_singleton] at hq;subst hq;exact ⟨rfl,rfl,rfl⟩)) rfl (noPd rfl) rfl rfl rfl (fun v A' hR=>?_)
 obtain ⟨a2,rfl,rfl,hrs⟩:=hR
 rcases hrs.2 with ⟨q,_,_⟩|⟨g2,c2,sp2,q,rfl⟩
 ·injection q with _ q2 _;cases q2
 injection q with q1 _ _
 subst q1
 clear hrs hT1
 simp only [List.map_cons,List.map_nil,List.flatten_cons,List.flatten_nil,List.append_nil,List.cons_append,List.nil_append,List.length_cons,List.length_nil]
 refine zg17 ?_
 refine Ops.callB (tick_nil B0 xb lb lm tb cb mb db wb sb cf0 cf0_ok (.slice none 0 0) x1 _ D2 hD2 hcalm.de) hB rfl (noPd rfl) rfl rfl rfl (fun v A' hR=>?_)
 obtain ⟨rfl,lb1,lm1,es,ck,rfl,hok⟩:=hR
 refine zg3 ?_
 refine Ops.call (cdead_spec xb lb1 tb cb mb db wb sb cf0 (.slice none 0 0) false x1 _ D2 hD2) rfl (noPd rfl) rfl rfl rfl (fun v A' hR=>?_)
 rw [hcalm.de] at hR
 obtain ⟨rfl,rfl⟩:=hR
 refine zg3 ?_
 exact ze9
def bl (s:ByteArray):List Int:=s.data.toList.map fun b=>((b.toNat:Nat):Int)
theorem bl_at {s:ByteArray} {i:Nat} {c:UInt8} (h:s[i]? = some c):(bl s)[i]? = some ((c.toNat:Nat):Int):=by
 unfold bl
 rw [List.getElem?_map]
 have h2:s.data.toList[i]? = some c:=by
  obtain ⟨h3,h4⟩:=getElem?_eq_some_iff.1 h
  rw [List.getElem?_eq_some_iff]
  exact ⟨by simpa using h3,by rw [← h4];rfl⟩
 rw [h2];rfl
theorem bl_len (s:ByteArray):(bl s).length = s.size:=by
 unfold bl
 rw [List.length_map]
 rfl
def nmT:List (List Int):=[[63],[],[115,110],[115,110,98],[115,110,98,99,114],[98,105,116],[106,98,105,116],[115],[115,110],[115,110,106,98,112],[115,110],[115,110],[115,110],[115,110],[98,99],[106,98,99],[106,98]]
def nmL (kind:Int):List Int:=if 0 ≤ kind ∧ kind < 17 then nmT.getD kind.toNat [] else [63]
inductive Nms:List (List Value) → List (List Int) → Prop where
 | nil:Nms [] []
 | cons {s:ByteArray} {l:List Int} {rows:List (List Value)} {ls:List (List Int)}:bl s = l → Nms rows ls → Nms ([.string s] :: rows) (l :: ls)
theorem Nms.at_:∀ {rows:List (List Value)} {ls:List (List Int)},Nms rows ls → ∀ {i:Nat} {l:List Int},ls[i]? = some l → ∃ s:ByteArray,rows[i]? = some [.string s] ∧ bl s = l
 | _,_,.nil,i,l,h=>by cases h
 | _,_,.cons hs hr,0,l,h=>by injection h with h;exact ⟨_,rfl,hs.trans h⟩
 | _,_,.cons hs hr,i + 1,l,h=>hr.at_ (i:=i) h
theorem Nms.ok:∀ {rows:List (List Value)} {ls:List (List Int)},Nms rows ls → RowsOk 1 rows
 | _,_,.nil=>RowsOk.nil
 | _,_,.cons hs hr=>List.forall_mem_cons.2 ⟨⟨rfl,rfl⟩,hr.ok⟩
theorem named7_full (kind:Int):Con prog 41 #[.int .i64 kind] [] fun v A=>(∃ s:ByteArray,v = .string s ∧ bl s = nmL kind) ∧ A = []:=by
 refine zqI (vs:=[_]) func41 ntmps41 fun B=>?_
 refine zg0 ?_
 refine Ops.bsNP (Pr:=fun rows=>Nms rows nmT) _ rfl rfl rfl rfl rfl rfl rfl rfl rfl rfl (noPd rfl) ?_ (fun g rows hN=>?_)
 ·repeat (first|exact Nms.nil|refine Nms.cons (by decide) ?_)
 by_cases h1:kind < 0
 ·refine zg7 ?_
  exact ze13
 by_cases h2:17 ≤ kind
 ·refine zg8 ?_
  exact ze13
 have hlt:kind.toNat < nmT.length:=by show kind.toNat < 17;omega
 obtain ⟨s,hx,hs⟩:=hN.at_ (List.getElem?_eq_getElem hlt)
 have hok:=hN.ok
 have h3:0 ≤ kind:=by omega
 have hs2:bl s = nmL kind:=by
  unfold nmL
  rw [if_pos ⟨by omega,by omega⟩,List.getD_eq_getElem?_getD,List.getElem?_eq_getElem hlt]
  exact hs
 clear hs hN
 refine zg10 ?_
 exact Cd.ret (ret1 (A':=[]) rfl (Res.tmp rfl) (fun _ h=>h.split) ⟨⟨s,rfl,hs2⟩,rfl⟩)
def hasF (kind f:Int):Bool:=decide (f ∈ nmL kind)
theorem has7_full (kind:Int) (f:Int):Con prog 57 #[.int .i64 kind,.int .u8 f] [] fun v A=>v = .bool (hasF kind f) ∧ A = []:=by
 refine zqI (vs:=[_,_]) func57 ntmps57 fun B=>?_
 refine zg0 ?_
 refine zqA (named7_full kind) fun v A' hR=>?_
 obtain ⟨⟨s,rfl,hs⟩,rfl⟩:=hR
 have hsl:=bl_len s
 have h5:s.size ≤ 5:=by
  rw [← hsl,hs]
  unfold nmL
  split
  ·rename_i hk
   have hall:∀ l ∈ nmT,l.length ≤ 5:=by decide
   have hlt:kind.toNat < nmT.length:=by show kind.toNat < 17;omega
   rw [List.getD_eq_getElem?_getD,List.getElem?_eq_getElem hlt]
   exact hall _ (List.getElem_mem hlt)
  ·decide
 refine zg1 ?_
 refine Cd.loopK (σ:=Nat) (fun i=>i ≤ s.size ∧ ∀ (k:Nat) (x:Int),k < i → (bl s)[k]? = some x → x ≠ f) (fun i=>[(0,.int .i64 kind),(1,.int .u8 f),(5,.string s),(6,.int .i64 i)]) (fun _=>[]) (fun i=>s.size - i) 0 ⟨Nat.zero_le _,fun k x hk=>absurd hk (Nat.not_lt_zero _)⟩ ⟨rfl,rfl,rfl,rfl,trivial⟩ (fun w h=>h.split) (fun i hI=>?_)
 obtain ⟨hi,hno⟩:=hI
 by_cases hil:i < s.size
 ·have hil':(i:Int) < s.size:=by omega
  have hb:s[((i:Nat):Int).toNat]? = some (s[i]'hil):=by rw [Int.toNat_natCast];exact getElem?_eq_some_iff.2 ⟨hil,rfl⟩
  have hbl:(bl s)[i]? = some (((s[i]'hil).toNat:Nat):Int):=bl_at (by rw [Int.toNat_natCast] at hb;exact hb)
  generalize s[i]'hil = c at hb hbl
  refine zg2 ?_
  refine Ops.ixS rfl rfl rfl rfl (by omega) hb rfl ?_
  by_cases hc:((c.toNat:Nat):Int) = f
  ·have hh:hasF kind f = true:=decide_eq_true (by rw [← hs,← hc];exact List.mem_of_getElem? hbl)
   rw [hh]
   refine zg2 ?_
   exact ze9
  ·refine zg13 ?_
   exact Ops.nilN (round_end (i + 1:Nat) ⟨by show i + 1 ≤ s.size;omega,fun k x hk hx=>by
    by_cases e:k = i
    ·subst e;rw [hbl] at hx;injection hx with hx;rw [← hx];exact hc
    ·exact hno k x (by omega) hx⟩ zp21 ⟨rfl,rfl,rfl,rfl,trivial⟩ (fun w h=>h.split))
 ·have hil':¬ (i:Int) < s.size:=by omega
  have hh:hasF kind f = false:=decide_eq_false (by
   intro hm
   rw [← hs] at hm
   obtain ⟨k,hk⟩:=List.getElem?_of_mem hm
   exact hno k f (by have:=(List.getElem?_eq_some_iff.1 hk).1;omega) hk rfl)
  rw [hh]
  refine zg2 ?_
  exact ze9
def mostF (kind:Int):Int × Int:=if kind = 5 then (31,0) else if kind = 6 then (16,0) else if kind = 4 ∨ kind = 14 then (0,32) else (0,17)
theorem most7_full (kind:Int):Con prog 55 #[.int .i64 kind] [] fun v A=>v = .tuple #[.int .i64 (mostF kind).1,.int .i64 (mostF kind).2] ∧ A = []:=by
 refine zqI (vs:=[_]) func55 ntmps55 fun B=>?_
 unfold mostF
 by_cases h5:kind = 5
 ·rw [if_pos h5]
  refine zg2 ?_
  exact ze10
 rw [if_neg h5]
 by_cases h6:kind = 6
 ·rw [if_pos h6]
  refine zg2 ?_
  exact ze10
 rw [if_neg h6]
 by_cases h4:kind = 4
 ·rw [if_pos (.inl h4)]
  refine zg8 ?_
  exact ze10
 by_cases h14:kind = 14
 ·rw [if_pos (.inr h14)]
  refine zg2 ?_
  exact ze10
 rw [if_neg (by omega)]
 refine zg2 ?_
 exact ze10
def rightF (kind f n least most:Int):Bool:=if hasF kind f then decide (least ≤ n) && decide (n ≤ most) else decide (n = 0)
theorem right7_full (m:Ms) (f n least most:Int):Con prog 56 #[.agg m.row.toArray,.int .u8 f,.int .i64 n,.int .i64 least,.int .i64 most] [] fun v A=>v = .bool (rightF m.kind f n least most) ∧ A = []:=by
 refine zqI (vs:=[_,_,_,_,_]) func56 ntmps56 fun B=>?_
 repeat' (first|refine zs0 ?_|refine Ops.box rfl rfl rfl rfl (noPd rfl) (fun b=>?_))
 refine zqA (has7_full m.kind f) fun v A' hR=>?_
 obtain ⟨rfl,rfl⟩:=hR
 unfold rightF
 generalize hasF m.kind f = b
 cases b
 ·rw [if_neg (by decide)]
  by_cases hn:n = 0
  ·refine zg4 ?_
   exact ze9
  ·refine zg4 ?_
   exact ze9
 ·rw [if_pos rfl]
  by_cases h1:least ≤ n
  ·rw [decide_eq_true h1,Bool.true_and]
   by_cases h2:n ≤ most
   ·refine zg7 ?_
    exact ze9
   ·refine zg7 ?_
    exact ze9
  ·rw [decide_eq_false h1,Bool.false_and]
   refine zg8 ?_
   exact ze9
end Go.Proofs.YtkoelgkghijgiaaGreat
