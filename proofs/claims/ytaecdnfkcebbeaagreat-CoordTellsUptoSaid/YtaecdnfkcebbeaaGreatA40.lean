import Derived.Test.YtaecdnfkcebbeaaGreatA39
import Derived.Test.YtaecdnfkcebbeaaGreatA01
import Derived.Test.YtaecdnfkcebbeaaGreatA29
set_option linter.unusedVariables false
set_option linter.unusedSimpArgs false
namespace Go.Proofs.YtaecdnfkcebbeaaGreat
open Go Go.Sep Go.Proofs
set_option maxRecDepth 10000
set_option maxHeartbeats 40000000
def MidA (xb db:Nat) (c:Cf) (n:Nat) (o:Co) (node life:Int) (m:Ms) (lb tb cb mb wb sb:Nat) (sv:Value) (m1:Ms) (tv1:Value) (X:List Blk):Prop :=
 ∃ o1,MidR c o node life m m1 o1 ∧ ∀ rs1 G1,Se.OwnK sv rs1 G1 → CoP xb db c (n + 1) { o1 with rs:=rs1 } (CoB xb lb tb cb mb db wb sb c tv1 false :: (Se.TabB tb sv G1 ++ X))
theorem co_request (B0:Base) (xb db:Nat) (c:Cf) (hc:CfOk c) (len n:Nat) (hlen:20480 ≤ roomF len) (hn:n ≤ 2000000) (o:Co) (h:CoOk c len n o) (A:List Blk) (hA:CoP xb db c n o A) (node life:Int) (hn1:2 ≤ node) (hn2:node ≤ 9) (hlf:1 ≤ life ∧ life ≤ 1099511627776) (m:Ms) (hm:m.kind ≠ 2 → m.kind ≠ 3 → ResOk m) :
  ConB Tryz.prog B0 92 #[.agg (heV xb node life m).toArray] A fun v A'=>∃ reply o1,v = .string reply ∧ RequestR c o node life m reply o1 ∧ CoP xb db c (n + 1) o1 A':=by
 obtain ⟨A1,hp1,hA⟩:=hA
 refine ConB.permIn ?_ hp1
 have hAA:=hA
 obtain ⟨lb,lm,tb,cb,mb,wb,sb,tv,les,lck,sv,G,mes,mck_,SD,k,D,TG,TX,WG,rfl,hL,hO,hW,hS,hD,hk,hT⟩:=hA
 have hnm:=h.nm
 have htn:=h.tn
 have hTT:=hT
 obtain ⟨cgs,hcg,hcm,hct⟩:=hT
 have hcl:cgs.length ≤ 1000000000:=by
  have:cgs.length = o.tl.length:=by rw [← hcm,List.length_map]
  omega
 have hre:=h.cq.bd.rs
 have hl0:=h.cq.l0
 by_cases hw:(Se.askV (Se.rowAt o.rs (node - 2)) life m.session m.number).1 = 3
 ·
  have hsame:∀ (m1:Ms),MidR c o node life m m1 o → MidA xb db c n o node life m lb tb cb mb wb sb sv m1 tv (Ls.TB lb lm c.lease les lck ++ (SD ++ ((mb,mpo mes mck_) :: CtB cb c.block o.q.la o.q.st.res :: WlB wb db o.w :: (D ++ (TG ++ (TX ++ WG)))))):=fun m1 hmid =>
   ⟨o,hmid,fun rs1 G1 hO1=>⟨CoL xb lb lm tb cb mb db wb sb c o.q.la o.q.st.res tv les lck sv G1 mes mck_ o.w SD D TG TX WG,by
    refine perm_of fun c g ha hc' hp h0=>?_
    simp only [CoL,List.cons_append,List.append_assoc,List.nil_append,ha,hc',h0];omega,lb,lm,tb,cb,mb,wb,sb,tv,les,lck,sv,G1,mes,mck_,SD,k,D,TG,TX,WG,rfl,hL,hO1,hW,hS,hD,by omega,hTT⟩⟩
  have hg:=request_new B0 xb lb lm tb cb mb db wb sb c tv false node life hn1 hn2 m sv o.rs G hO h.rsI (Se.askV (Se.rowAt o.rs (node - 2)) life m.session m.number).2 (Prod.ext hw rfl) o.q.ls les lck hL o.q.st SD hS h.cq.ok ((mb,mpo mes mck_) :: CtB cb c.block o.q.la o.q.st.res :: WlB wb db o.w :: (D ++ (TG ++ (TX ++ WG))))
   (MidA xb db c n o node life m lb tb cb mb wb sb sv) (fun m1 tv1 X hX=>by obtain ⟨o1,hmid,_⟩:=hX;exact (h.mid hc hlen hn hn1 hn2 hlf hm hmid).2.2.2) ?poll (fun h3 hh=>hsame _ (.inr (.inr (.inl ⟨h3,hh,rfl,rfl⟩)))) ?beat ?done
  case poll =>
   intro h2 mx
   by_cases hh:headF18 o.q.st.rows = 0
   ·have hp:=(poll_none B0 xb lb tb cb mb db wb sb c tv false node life m mx (reqM 0 m.session m.number) o.q.st SD hS h.cq.ok hh).beside (F:=Ls.TB lb lm c.lease les lck ++ ((mb,mpo mes mck_) :: CtB cb c.block o.q.la o.q.st.res :: WlB wb db o.w :: (D ++ (TG ++ (TX ++ WG)))))
    refine (hp.permIn ?_).permOut fun v A' hR=>?_
    ·refine perm_of fun c g ha hc' hp h0=>?_
     simp only [List.cons_append,List.append_assoc,List.nil_append,ha,hc',h0];omega
    ·obtain ⟨A2,rfl,rfl⟩:=hR
     refine ⟨_,⟨reqM 10 m.session m.number,tv,_,rfl,hsame _ (.inl ⟨h2,hh,rfl,rfl⟩)⟩,?_⟩
     refine perm_of fun c g ha hc' hp h0=>?_
     have e10:g (MgB mx (⟨10,m.session,m.number,0,0,0,0,0,0,⟨#[]⟩,⟨#[]⟩⟩:Ms).row) = g (MgB mx (reqM 10 m.session m.number).row):=rfl
     simp only [List.cons_append,List.append_assoc,List.nil_append,ha,hc',h0];omega
   ·obtain ⟨st,r1,p1,g1,g2,g3,g4,g5,g6,g7,g8,g9⟩:=h.cq.grant hc (next_there h hn) rfl hh (slot:=node - 2) (life:=life) (by omega) hlf
    have e2:(2:Int) + (node - 2) = node:=by omega
    rw [e2] at g7
    obtain ⟨J,WGd,hWp,hput⟩:=hW.new (headF18 o.q.st.rows)
    have hp:=(poll_offer B0 xb lb lm tb cb mb db wb sb c hc false o.w o.x len h.lg hlen (by omega) k D hD (by omega) o.q.st SD hS h.cq.ok h.cq.bd tv cgs TG hcg hcl o.q.ls les lck hL mes mck_ o.q.la o.q.st.res (o.q.la + 1) (resOf c o.q) (o.q.la + 1) _ hre.1 hre.2 hl0.1 (next_there h hn) node life hn1 hn2 m mx (reqM 0 m.session m.number) hh g3).beside (F:=TX ++ (J ++ WGd))
    refine (hp.permIn ?_).permOut fun v A' hR=>?_
    ·refine perm_of fun c g ha hc' hp h0=>?_
     have hwg:=hp _ _ hWp
     rw [ha] at hwg
     simp only [List.cons_append,List.append_assoc,List.nil_append,ha,hc',h0,hwg];omega
    ·obtain ⟨A2,⟨p,les1,lck1,wn,wm,SD1,D1,tv1,TG1,k1,rfl,hP,hL1,hS1,hD1,hk1,hT1⟩,rfl⟩:=hR
     have hpp:=hP.1
     rw [g1] at hpp
     dsimp only at hpp
     rw [g4,Option.getD_some,Pl.pure] at hpp
     injection hpp with q1 q2
     injection q2 with q2 _
     rw [q1,g5,g6,g7,g8] at hL1
     rw [q1,g5,q2]
     have hne:(pollL (resOf c o.q) (headF18 o.q.st.rows) (o.q.la + 1) (node - 2) life).map Cg.c ≠ []:=fun q=>by
      have:=List.map_eq_nil_iff.1 q
      unfold pollL at this
      simp at this
     rw [← mkR_some (s:=o.q.st) hne] at hD1 ⊢
     have hpl:placeF (applyF o.q.st ((grantCs c o node life).map Cg.c)).2 (o.q.la + 1) = some (r1,p1,[]):=by rw [g1];exact g4
     refine ⟨_,⟨offerM m (headF18 o.q.st.rows) (o.q.la + 1) p1,tv1,Ls.TB lb lm c.lease les1 lck1 ++ (Sw.WB wn wm c.window.toNat 0 [] 0 ++ ((mb,mpo (mput mes mck_ (headF18 o.q.st.rows) (ptr wn)) (mck mes mck_ (headF18 o.q.st.rows))) :: CtB cb c.block (o.q.la + 1) (nextB c.block o.q.la o.q.st.res).2.2 :: WlB wb db (mkR c.every o.w o.x o.q.st ((pollL (resOf c o.q) (headF18 o.q.st.rows) (o.q.la + 1) (node - 2) life).map Cg.c)).1 :: (SD1 ++ (D1 ++ (TG1 ++ (TX ++ (J ++ WGd))))))),rfl,_,.inr (.inl ⟨h2,hh,r1,p1,hpl,rfl,rfl⟩),fun rs1 G1 hO1=>⟨CoL xb lb lm tb cb mb db wb sb c (o.q.la + 1) (nextB c.block o.q.la o.q.st.res).2.2 tv1 les1 lck1 sv G1 (mput mes mck_ (headF18 o.q.st.rows) (ptr wn)) (mck mes mck_ (headF18 o.q.st.rows)) (mkR c.every o.w o.x o.q.st ((pollL (resOf c o.q) (headF18 o.q.st.rows) (o.q.la + 1) (node - 2) life).map Cg.c)).1 SD1 D1 TG1 (TX ++ J) (Sw.WB wn wm c.window.toNat spN.nx [] 0 ++ WGd),?_,lb,lm,tb,cb,mb,wb,sb,tv1,les1,lck1,sv,G1,_,_,SD1,k1,D1,TG1,TX ++ J,_,?_,hL1,hO1,hput wn wm [] 0 spN spN_es,hS1,hD1,by omega,?_⟩⟩,?_⟩
     ·refine perm_of fun c g ha hc' hp h0=>?_
      simp only [CoL,List.cons_append,List.append_assoc,List.nil_append,ha,hc',h0];omega
     ·show _ = CoL xb lb lm tb cb mb db wb sb c (o.q.la + 1) (applyF o.q.st ((pollL (resOf c o.q) (headF18 o.q.st.rows) (o.q.la + 1) (node - 2) life).map Cg.c)).2.res _ _ _ _ _ _ _ _ _ _ _ _ _
      rw [g1,g2];rfl
     ·show ToldA tv1 (o.tl ++ _) TG1 (TX ++ J)
      rw [← hcm]
      exact (ToldA.bare hT1 hct (pollL_bare _ _ _ _ _)).more J
     ·refine perm_of fun c g ha hc' hp h0=>?_
      have e9:g (MgB mx (⟨9,m.session,m.number,headF18 o.q.st.rows,o.q.la + 1,0,0,0,0,⟨#[]⟩,p1⟩:Ms).row) = g (MgB mx (offerM m (headF18 o.q.st.rows) (o.q.la + 1) p1).row):=rfl
      simp only [List.cons_append,List.append_assoc,List.nil_append,ha,hc',h0];omega
  case beat =>
   intro h3 hh les1 lck1 hL1
   refine ⟨_,.inr (.inr (.inr (.inl ⟨h3,hh,rfl,rfl⟩))),fun rs1 G1 hO1=>⟨CoL xb lb lm tb cb mb db wb sb c o.q.la o.q.st.res tv les1 lck1 sv G1 mes mck_ o.w SD D TG TX WG,?_,lb,lm,tb,cb,mb,wb,sb,tv,les1,lck1,sv,G1,mes,mck_,SD,k,D,TG,TX,WG,rfl,hL1,hO1,hW,hS,hD,by omega,hTT⟩⟩
   refine perm_of fun c g ha hc' hp h0=>?_
   simp only [CoL,List.cons_append,List.append_assoc,List.nil_append,ha,hc',h0];omega
  case done =>
   intro h2 h3
   obtain ⟨a1,a2,a3,a4,a5⟩:=hm h2 h3
   have hp:=(settled_spec B0 xb lb lm tb cb mb db wb sb c hc false o.w o.x len h.lg hlen (by omega) k D hD (by omega) o.q.st SD hS h.cq.ok h.cq.bd tv cgs TG hcg hcl o.q.ls les lck hL mes mck_ node life m ⟨a4,a5⟩ (fun q=>(h.cq.settle (settled_held q) ⟨a1,a2⟩ a3 ⟨a4,a5⟩).1)).beside (F:=CtB cb c.block o.q.la o.q.st.res :: (TX ++ WG))
   refine (hp.permIn ?_).permOut fun v A' hR=>?_
   ·refine perm_of fun c g ha hc' hp h0=>?_
    simp only [List.cons_append,List.append_assoc,List.nil_append,ha,hc',h0];omega
   ·obtain ⟨A2,hR,rfl⟩:=hR
    rcases hR with ⟨hq,rfl,rfl⟩|⟨hq,rfl,p,hP,les1,lck1,SD1,D1,tv1,TG1,k1,rfl,hL1,hS1,hD1,hk1,hT1⟩
    ·refine ⟨_,⟨_,tv,_,rfl,rfl,hsame _ (.inr (.inr (.inr (.inr (.inl ⟨h2,h3,hq,by simp only [decide_eq_true_eq],rfl⟩)))))⟩,?_⟩
     refine perm_of fun c g ha hc' hp h0=>?_
     simp only [List.cons_append,List.append_assoc,List.nil_append,ha,hc',h0];omega
    ·obtain ⟨hpj,_⟩:=hP.held (settled_held hq)
     rw [hpj]
     obtain ⟨WG1,J,hWp,hW1⟩:=hW.del (jobF o.q.st m.badge)
     obtain ⟨g1,st,g2,g3⟩:=h.cq.settle (settled_held hq) ⟨a1,a2⟩ a3 ⟨a4,a5⟩
     have hne:([settleC m.badge m.rcode m.rbits]:List Ch) ≠ []:=by simp
     rw [← mkR_some (s:=o.q.st) hne] at hD1 ⊢
     have hres:st.res = o.q.st.res:=by
      have:applyG o.q.st o.q.st 0 [settleC m.badge m.rcode m.rbits] = ((0,0),st):=g2
      rw [applyG] at this
      split at this
      ·injection this with this _;injection this with _ this;cases this
      ·cases hs:stepF o.q.st (settleC m.badge m.rcode m.rbits) with
       | none=>rw [hs] at this;injection this with this _;injection this with _ this;cases this
       | some s' =>
        rw [hs] at this
        injection this with _ this
        subst this
        unfold stepF at hs
        rw [if_neg (by show ¬ ((6:Int) = 1);decide),if_neg (by show ¬ ((6:Int) = 2);decide),if_neg (by show ¬ ((6:Int) = 3);decide),if_neg (by show ¬ ((6:Int) = 4);decide),if_neg (by show ¬ ((6:Int) = 5);decide)] at hs
        split at hs
        ·cases hs
        ·split at hs
         ·cases hs
         ·injection hs with hs;rw [← hs]
     refine ⟨_,⟨true,tv1,Ls.TB lb lm c.lease les1 lck1 ++ ((mb,mpo (mdel mes (jobF o.q.st m.badge)) mck_) :: CtB cb c.block o.q.la o.q.st.res :: WlB wb db (mkR c.every o.w o.x o.q.st [settleC m.badge m.rcode m.rbits]).1 :: (SD1 ++ (D1 ++ (TG1 ++ (TX ++ WG))))),rfl,rfl,_,.inr (.inr (.inr (.inr (.inr ⟨h2,h3,hq,rfl,rfl⟩)))),fun rs1 G1 hO1=>⟨CoL xb lb lm tb cb mb db wb sb c o.q.la o.q.st.res tv1 les1 lck1 sv G1 (mdel mes (jobF o.q.st m.badge)) mck_ (mkR c.every o.w o.x o.q.st [settleC m.badge m.rcode m.rbits]).1 SD1 D1 TG1 (TX ++ J) WG1,?_,lb,lm,tb,cb,mb,wb,sb,tv1,les1,lck1,sv,G1,_,mck_,SD1,k1,D1,TG1,TX ++ J,WG1,?_,hL1,hO1,hW1,hS1,hD1,by omega,?_⟩⟩,?_⟩
     ·refine perm_of fun c g ha hc' hp h0=>?_
      have hwg:=hp _ _ hWp
      rw [ha] at hwg
      simp only [CoL,List.cons_append,List.append_assoc,List.nil_append,ha,hc',h0,hwg];omega
     ·show _ = CoL xb lb lm tb cb mb db wb sb c o.q.la (applyF o.q.st [settleC m.badge m.rcode m.rbits]).2.res _ _ _ _ _ _ _ _ _ _ _ _ _
      rw [g2,hres];rfl
     ·show ToldA tv1 (o.tl ++ _) TG1 (TX ++ J)
      rw [← hcm]
      exact (ToldA.bare (l:=[⟨settleC m.badge m.rcode m.rbits,none,0⟩]) hT1 hct (fun g hg=>by rw [List.mem_singleton] at hg;subst hg;exact ⟨rfl,rfl,a4,a5⟩)).more J
     ·refine perm_of fun c g ha hc' hp h0=>?_
      simp only [List.cons_append,List.append_assoc,List.nil_append,ha,hc',h0];omega
  refine (hg.permIn ?_).permOut fun v A' hR=>?_
  ·refine perm_of fun c g ha hc' hp h0=>?_
   simp only [CoL,List.cons_append,List.append_assoc,List.nil_append,ha,hc',h0];omega
  ·obtain ⟨m1,tv1,X,G1,rfl,rfl,hO1,o1,hmid,hX⟩:=hR
   exact ⟨_,⟨_,_,rfl,.inr ⟨hw,m1,o1,hmid,rfl,rfl⟩,hX _ _ hO1⟩,List.Perm.refl _⟩
 ·have hg:=(Con.toB (B0:=B0) (request_old xb lb tb cb mb db wb sb c tv false node life hn1 hn2 m sv o.rs G hO h.rsI (Se.askV (Se.rowAt o.rs (node - 2)) life m.session m.number).1 (Se.askV (Se.rowAt o.rs (node - 2)) life m.session m.number).2 rfl hw)).beside (F:=Ls.TB lb lm c.lease les lck ++ (CtB cb c.block o.q.la o.q.st.res :: (mb,mpo mes mck_) :: WlB wb db o.w :: (SD ++ (D ++ (TG ++ (TX ++ WG))))))
  refine (hg.permIn ?_).permOut fun v A' hR=>?_
  ·refine perm_of fun c g ha hc' hp h0=>?_
   simp only [CoL,List.cons_append,List.append_assoc,List.nil_append,ha,hc',h0];omega
  ·obtain ⟨A2,⟨rfl,rfl⟩,rfl⟩:=hR
   refine ⟨_,⟨_,_,rfl,.inl ⟨hw,rfl,rfl⟩,hAA.later.p⟩,?_⟩
   refine perm_of fun c g ha hc' hp h0=>?_
   simp only [CoL,List.cons_append,List.append_assoc,List.nil_append,ha,hc',h0];omega
theorem dec_good {data:ByteArray} {m:Ms} (h:decF data = (m,0)):MsOk m ∧ wcheckF m = 0:=by
 unfold decF at h
 split at h
 ·injection h with _ h;cases h
 ·split at h
  ·rename_i hs hq
   injection h with h _
   subst h
   refine ⟨?_,hq.2⟩
   have hkp:(rdNum data 16 0 0).2.1 ≤ data.size:=rdNum_at (Nat.zero_le _)
   exact (readG_at (b:=data) (fds:=fieldsF ((rdNum data 16 0 0).1:Nat)) (s:=readK data) hkp (by omega) ⟨Nat.zero_le _,Nat.zero_le _,by show (0:Int) ≤ 0 ∧ (0:Int) < _;omega⟩ _).2
  ·injection h with _ h;cases h
theorem check_may {m:Ms} (h:wcheckF m = 0):∀ fd ∈ fieldsF m.kind,fd.may m = true:=by
 unfold wcheckF at h
 split at h
 ·cases h
 ·split at h
  ·rename_i hh
   simp only [Bool.and_eq_true,List.all_eq_true] at hh
   exact hh.2
  ·cases h
theorem dec_res {m:Ms} (ho:MsOk m) (h:wcheckF m = 0) (hk:m.kind = 4):ResOk m:=by
 have:=check_may h .result (by rw [hk];simp [fieldsF])
 obtain ⟨x0,x1⟩:=ho.x
 unfold Fd.may at this
 simp only [Bool.or_eq_true,Bool.and_eq_true,decide_eq_true_eq] at this
 rcases this with ⟨q1,_⟩|⟨q1,q2⟩
 ·exact ⟨by omega,by omega,.inl q1,x0,x1⟩
 ·exact ⟨by omega,by omega,.inr q2,x0,x1⟩
theorem dec_index {m:Ms} (h:wcheckF m = 0) (hk:m.kind = 5):m.index ≤ 9223372036854775807:=by
 have:=check_may h (fI 31) (by rw [hk];simp [fieldsF])
 have:=of_decide_eq_true this
 have h2:m.index ≤ 31:=this.2
 omega
def HearR (c:Cf) (o:Co) (node life:Int) (data reply:ByteArray) (o1:Co):Prop :=
 if (decF data).2 ≠ 0 ∨ runB c node life = false ∨ ¬ (1 ≤ (decF data).1.kind ∧ (decF data).1.kind ≤ 5) then reply = ⟨#[]⟩ ∧ o1 = o
 else if (decF data).1.kind = 1 then reply = (helloO c o node life).1 ∧ o1 = (helloO c o node life).2
 else if (decF data).1.kind = 5 then ChunkR c o node life (decF data).1 reply o1
 else RequestR c o node life (decF data).1 reply o1
theorem CoOk.hear {c:Cf} {len n:Nat} {o:Co} (h:CoOk c len n o) (hc:CfOk c) (hlen:20480 ≤ roomF len) (hn:n ≤ 2000000) {node life:Int} {data reply:ByteArray} {o1:Co} (hr:HearR c o node life data reply o1) :
  CoOk c len (n + 1) o1 ∧ ∃ cs,o1.tl = o.tl ++ cs ∧ applyF o.q.st cs = ((0,0),o1.q.st):=by
 unfold HearR at hr
 split at hr
 ·obtain ⟨_,rfl⟩:=hr
  exact ⟨h.later,[],by rw [List.append_nil],rfl⟩
 ·rename_i hq
  obtain ⟨q1,q2,q3⟩:(decF data).2 = 0 ∧ runB c node life = true ∧ (1 ≤ (decF data).1.kind ∧ (decF data).1.kind ≤ 5):=by
   refine ⟨Decidable.by_contra fun q=>hq (.inl q),?_,Decidable.by_contra fun q=>hq (.inr (.inr q))⟩
   cases hb:runB c node life with
   | true=>rfl
   | false=>exact absurd (.inr (.inl hb)) hq
  have hdec:decF data = ((decF data).1,0):=Prod.ext rfl q1
  obtain ⟨g1,g2⟩:=dec_good hdec
  obtain ⟨⟨a1,a2⟩,_⟩:=id hc
  obtain ⟨r1,r2,r3,r4⟩:2 ≤ node ∧ node < 2 + c.runners ∧ 1 ≤ life ∧ life ≤ 1099511627776:=of_decide_eq_true q2
  split at hr
  ·obtain ⟨_,rfl⟩:=hr
   exact h.hello hc hlen hn node life
  ·split at hr
   ·exact h.chunk hc hlen hn hr
   ·exact h.request hc hlen hn r1 (by omega) ⟨r3,r4⟩ (fun k2 k3=>dec_res g1 g2 (by omega)) hr
theorem co_hear (B0:Base) (xb db:Nat) (c:Cf) (hc:CfOk c) (len n:Nat) (hlen:20480 ≤ roomF len) (hn:n ≤ 2000000) (o:Co) (h:CoOk c len n o) (A:List Blk) (hA:CoP xb db c n o A) (node life:Int) (data:ByteArray) (hsz:data.size < 9223372036854775808) :
  ConB Tryz.prog B0 18 #[ptr xb,.agg [.int .i64 node,.int .i64 life].toArray,.string data] A fun v A'=>∃ reply o1 said J A1,v = .tuple #[said,.int .i64 0] ∧ HearR c o node life data reply o1 ∧ CoP xb db c (n + 1) o1 A1 ∧ SaidR node life reply said J ∧ A' = A1 ++ J:=by
 obtain ⟨A0,hp1,hA⟩:=hA
 have hAP:=hA.p
 have hAA:=hA
 obtain ⟨lb,lm,tb,cb,mb,wb,sb,tv,les,lck,sv,G,mes,mck_,SD,k,D,TG,TX,WG,rfl,hL,hO,hW,hS,hD,hk,hT⟩:=hA
 have hde:=h.lg.cm.de
 have hperm:(CoL xb lb lm tb cb mb db wb sb c o.q.la o.q.st.res tv les lck sv G mes mck_ o.w SD D TG TX WG).Perm (CoB xb lb tb cb mb db wb sb c tv false :: (D ++ (Ls.TB lb lm c.lease les lck ++ (Se.TabB tb sv G ++ (CtB cb c.block o.q.la o.q.st.res :: (mb,mpo mes mck_) :: WlB wb db o.w :: (SD ++ (TG ++ (TX ++ WG)))))))):=by
  refine perm_of fun c g ha hc' hp h0=>?_
  simp only [CoL,List.cons_append,List.append_assoc,List.nil_append,ha,hc',h0];omega
 refine ConB.permIn ?_ (hp1.trans hperm)
 have hP:CoP xb db c n o (CoB xb lb tb cb mb db wb sb c tv false :: (D ++ (Ls.TB lb lm c.lease les lck ++ (Se.TabB tb sv G ++ (CtB cb c.block o.q.la o.q.st.res :: (mb,mpo mes mck_) :: WlB wb db o.w :: (SD ++ (TG ++ (TX ++ WG)))))))):=⟨_,hperm.symm,hAA⟩
 by_cases hq:(decF data).2 ≠ 0 ∨ runB c node life = false ∨ ¬ (1 ≤ (decF data).1.kind ∧ (decF data).1.kind ≤ 5)
 ·have hg:=(hear_no B0 xb lb tb cb mb db wb sb c hc tv o.x k D hD hde node life data hsz (decF data).1 (decF data).2 rfl hq).beside (F:=Ls.TB lb lm c.lease les lck ++ (Se.TabB tb sv G ++ (CtB cb c.block o.q.la o.q.st.res :: (mb,mpo mes mck_) :: WlB wb db o.w :: (SD ++ (TG ++ (TX ++ WG))))))
  refine hg.mono fun v A' hR=>?_
  obtain ⟨A2,⟨rfl,rfl⟩,rfl⟩:=hR
  obtain ⟨A3,hp3,hA3⟩:=hP
  exact ⟨⟨#[]⟩,o,_,[],_,rfl,(by unfold HearR;rw [if_pos hq];exact ⟨rfl,rfl⟩),⟨A3,hp3,hA3.later⟩,.inl ⟨rfl,rfl,rfl⟩,by rw [List.append_nil];rfl⟩
 ·obtain ⟨q1,q2,q3⟩:(decF data).2 = 0 ∧ runB c node life = true ∧ (1 ≤ (decF data).1.kind ∧ (decF data).1.kind ≤ 5):=by
   refine ⟨Decidable.by_contra fun q=>hq (.inl q),?_,Decidable.by_contra fun q=>hq (.inr (.inr q))⟩
   cases hb:runB c node life with
   | true=>rfl
   | false=>exact absurd (.inr (.inl hb)) hq
  have hdec:decF data = ((decF data).1,0):=Prod.ext rfl q1
  obtain ⟨g1,g2⟩:=dec_good hdec
  obtain ⟨⟨a1,a2⟩,_⟩:=id hc
  obtain ⟨r1,r2,r3,r4⟩:2 ≤ node ∧ node < 2 + c.runners ∧ 1 ≤ life ∧ life ≤ 1099511627776:=of_decide_eq_true q2
  have fin:∀ (f:FuncId) [FnOk Tryz.prog f] (hdoes:Con Tryz.prog 41 #[.agg (heV xb node life (decF data).1).toArray] [] fun v A=>v = .func (.func f) [.agg (heV xb node life (decF data).1).toArray].toArray #[] ∧ A = [])
    (hh:ConB Tryz.prog B0 f #[.agg (heV xb node life (decF data).1).toArray] (CoB xb lb tb cb mb db wb sb c tv false :: (D ++ (Ls.TB lb lm c.lease les lck ++ (Se.TabB tb sv G ++ (CtB cb c.block o.q.la o.q.st.res :: (mb,mpo mes mck_) :: WlB wb db o.w :: (SD ++ (TG ++ (TX ++ WG)))))))) fun v A=>∃ reply,v = .string reply ∧ ∃ o1,HearR c o node life data reply o1 ∧ CoP xb db c (n + 1) o1 A),
    ConB Tryz.prog B0 18 #[ptr xb,.agg [.int .i64 node,.int .i64 life].toArray,.string data] (CoB xb lb tb cb mb db wb sb c tv false :: (D ++ (Ls.TB lb lm c.lease les lck ++ (Se.TabB tb sv G ++ (CtB cb c.block o.q.la o.q.st.res :: (mb,mpo mes mck_) :: WlB wb db o.w :: (SD ++ (TG ++ (TX ++ WG)))))))) fun v A'=>∃ reply o1 said J A1,v = .tuple #[said,.int .i64 0] ∧ HearR c o node life data reply o1 ∧ CoP xb db c (n + 1) o1 A1 ∧ SaidR node life reply said J ∧ A' = A1 ++ J:=fun f _ hdoes hh=>by
   refine (hear_act B0 xb lb tb cb mb db wb sb c hc tv o.x k D hD hde _ node life q2 data hsz _ hdec f hdoes _ hh).mono fun v A' hR=>?_
   obtain ⟨reply,A1,said,J,e1,⟨o1,e2,e3⟩,e4,e5⟩:=hR
   exact ⟨reply,o1,said,J,A1,e1,e2,e3,e4,e5⟩
  by_cases k1:(decF data).1.kind = 1
  ·refine fin _ (does_hello xb node life _ k1) ((co_hello B0 xb db c hc len n hlen hn o h _ hP node life r1 (by omega) _).mono fun v A' hR=>?_)
   exact ⟨_,hR.1,_,(by unfold HearR;rw [if_neg hq,if_pos k1];exact ⟨rfl,rfl⟩),hR.2⟩
  ·by_cases k5:(decF data).1.kind = 5
   ·refine fin _ (does_chunk xb node life _ k5) ((co_chunk B0 xb db c hc len n hlen hn o h _ hP node life _ (dec_index g2 k5)).mono fun v A' hR=>?_)
    obtain ⟨reply,o1,e1,e2,e3⟩:=hR
    exact ⟨reply,e1,o1,(by unfold HearR;rw [if_neg hq,if_neg k1,if_pos k5];exact e2),e3⟩
   ·refine fin _ (does_request xb node life _ (by omega)) ((co_request B0 xb db c hc len n hlen hn o h _ hP node life r1 (by omega) ⟨r3,r4⟩ _ (fun k2 k3=>dec_res g1 g2 (by omega))).mono fun v A' hR=>?_)
    obtain ⟨reply,o1,e1,e2,e3⟩:=hR
    exact ⟨reply,e1,o1,(by unfold HearR;rw [if_neg hq,if_neg k1,if_neg k5];exact e2),e3⟩
def TellR (tl:List Ch) (v:Value) (TG PX:List Blk):Prop:=∃ (a:Option Addr) (tl1:List Cg),v = .slice a tl.length tl.length ∧ tl1.map Cg.c = tl ∧ Rs 69 10 (.slice a tl.length tl.length) (tl1.map Cg.row) TG ∧ ∀ B,Holds B PX → ∀ g ∈ tl1,SIn B g.a g.c.txs
theorem TellR.cin {tl:List Ch} {v:Value} {TG PX:List Blk} (h:TellR tl v TG PX) (hx:∀ ch ∈ tl,ch.txs.length ≤ 2000000 ∧ 0 ≤ ch.rbits ∧ ch.rbits < 18446744073709551616) :
  ∃ (a:Option Addr) (tl1:List Cg),v = .slice a tl1.length tl1.length ∧ tl1.map Cg.c = tl ∧ ∀ B,Holds B (TG ++ PX) → CIn B a tl1:=by
 obtain ⟨a,tl1,h1,h2,h3,h4⟩:=h
 have hl:tl1.length = tl.length:=by rw [← h2,List.length_map]
 refine ⟨a,tl1,by rw [hl];exact h1,h2,fun B hB=>⟨Rs.rin h3 (hB.sub fun p hp=>List.mem_append_left _ hp),fun g hg=>h4 B (hB.sub fun p hp=>List.mem_append_right _ hp) g hg,fun g hg=>?_,fun g hg=>?_⟩⟩
 ·exact (hx g.c (by rw [← h2];exact List.mem_map.2 ⟨g,hg,rfl⟩)).1
 ·exact (hx g.c (by rw [← h2];exact List.mem_map.2 ⟨g,hg,rfl⟩)).2
theorem co_told (B0:Base) (xb db:Nat) (c:Cf) (len n:Nat) (hn:n ≤ 2000000) (o:Co) (h:CoOk c len n o) (A:List Blk) (hA:CoP xb db c n o A) :
  ConB Tryz.prog B0 10 #[ptr xb] A fun v A'=>∃ A1 TG1 PX,A' = A1 ++ (TG1 ++ PX) ∧ CoP xb db c n { o with tl:=[] } A1 ∧ TellR o.tl v TG1 PX:=by
 obtain ⟨A0,hp1,hA⟩:=hA
 refine ConB.permIn ?_ hp1
 obtain ⟨lb,lm,tb,cb,mb,wb,sb,tv,les,lck,sv,G,mes,mck_,SD,k,D,TG,TX,WG,rfl,hL,hO,hW,hS,hD,hk,hT⟩:=hA
 have htn:=h.tn
 obtain ⟨cgs,hcg,hcm,hct⟩:=hT
 have hcl:cgs.length = o.tl.length:=by rw [← hcm,List.length_map]
 have hl:=(ConB.lend (P:=Tryz.prog) (B1:=B0) (G:=TX) (A1:=CoB xb lb tb cb mb db wb sb c tv false :: TG) fun B1 e hG=>ctold_in B1 xb lb tb cb mb db wb sb c false tv cgs TG hcg (by omega) (fun g hg=>hct B1 hG g hg) (fun g hg=>(h.tx g.c (by rw [← hcm];exact List.mem_map.2 ⟨g,hg,rfl⟩)).1)).beside (F:=Ls.TB lb lm c.lease les lck ++ (Se.TabB tb sv G ++ (CtB cb c.block o.q.la o.q.st.res :: (mb,mpo mes mck_) :: WlB wb db o.w :: (SD ++ (D ++ WG)))))
 refine (hl.permIn ?_).permOut fun v A' hR=>?_
 ·refine perm_of fun c g ha hc' hp h0=>?_
  simp only [CoL,List.cons_append,List.append_assoc,List.nil_append,ha,hc',h0];omega
 ·obtain ⟨A2,⟨A3,⟨TG1,PX,rfl,hR⟩,rfl⟩,rfl⟩:=hR
  obtain ⟨a,tl1,e1,e2,e3,e4⟩:=hR
  rw [hcl] at e1 e3
  refine ⟨_,⟨CoL xb lb lm tb cb mb db wb sb c o.q.la o.q.st.res (.slice none 0 0) les lck sv G mes mck_ o.w SD D [] TX WG,TG1,PX,rfl,⟨_,List.Perm.refl _,lb,lm,tb,cb,mb,wb,sb,_,les,lck,sv,G,mes,mck_,SD,k,D,[],TX,WG,rfl,hL,hO,hW,hS,hD,hk,[],Own.none,rfl,fun B _ g hg=>by cases hg⟩,a,tl1,e1,by rw [e2,hcm],e3,e4⟩,?_⟩
  refine perm_of fun c g ha hc' hp h0=>?_
  simp only [CoL,List.cons_append,List.append_assoc,List.nil_append,ha,hc',h0];omega
theorem CoOk.told {c:Cf} {len n:Nat} {o:Co} (h:CoOk c len n o):CoOk c len n { o with tl:=[] } :=
 ⟨h.cq,h.lg,h.nm,h.ln,h.rsI,Nat.zero_le _,fun ch hch=>by cases hch⟩
theorem co_view (B0:Base) (xb db:Nat) (c:Cf) (len n:Nat) (o:Co) (h:CoOk c len n o) (A:List Blk) (hA:CoP xb db c n o A)
  (hview:∀ lb tb cb mb wb sb tv SD,StA sb o.q.st SD → ConB Tryz.prog B0 13 #[ptr xb] (CoB xb lb tb cb mb db wb sb c tv false :: SD) fun v X=>∃ V,ViewA v o.q.st V ∧ X = V ++ (CoB xb lb tb cb mb db wb sb c tv false :: SD)) :
  ConB Tryz.prog B0 13 #[ptr xb] A fun v A'=>∃ V A1,A' = V ++ A1 ∧ ViewA v o.q.st V ∧ CoP xb db c n o A1:=by
 obtain ⟨A0,hp1,hA⟩:=hA
 refine ConB.permIn ?_ hp1
 have hAA:=hA
 obtain ⟨lb,lm,tb,cb,mb,wb,sb,tv,les,lck,sv,G,mes,mck_,SD,k,D,TG,TX,WG,rfl,hL,hO,hW,hS,hD,hk,hT⟩:=hA
 have hl:=(hview lb tb cb mb wb sb tv SD hS).beside (F:=Ls.TB lb lm c.lease les lck ++ (Se.TabB tb sv G ++ (CtB cb c.block o.q.la o.q.st.res :: (mb,mpo mes mck_) :: WlB wb db o.w :: (D ++ (TG ++ (TX ++ WG))))))
 refine (hl.permIn ?_).permOut fun v A' hR=>?_
 ·refine perm_of fun c g ha hc' hp h0=>?_
  simp only [CoL,List.cons_append,List.append_assoc,List.nil_append,ha,hc',h0];omega
 ·obtain ⟨A2,⟨V,hV,rfl⟩,rfl⟩:=hR
  refine ⟨_,⟨V,_,rfl,hV,hAA.p⟩,?_⟩
  refine perm_of fun c g ha hc' hp h0=>?_
  simp only [CoL,List.cons_append,List.append_assoc,List.nil_append,ha,hc',h0];omega
end Go.Proofs.YtaecdnfkcebbeaaGreat
namespace Go.Proofs.YtaecdnfkcebbeaaGreat
open Go Go.Sep Go.Proofs
set_option maxRecDepth 10000
set_option maxHeartbeats 40000000
set_option synthInstance.maxSize 2000
theorem cview_gen (B0:Base) (xb lb tb cb mb db wb sb:Nat) (c:Cf) (tv:Value) (dead:Bool) (s:StP) (SD:List Blk) (hS:StA sb s SD) (ok:StOk s) :
  ConB Tryz.prog B0 13 #[ptr xb] (CoB xb lb tb cb mb db wb sb c tv dead :: SD) fun v X=>∃ V,ViewA v s V ∧ X = V ++ (CoB xb lb tb cb mb db wb sb c tv dead :: SD):=by
 refine ConB.intro (vs:=[_]) Tryz.func13 rfl Tryz.ntmps13 rfl (fun B hB=>?_)
 repeat' (first|refine Cd.seq ?_|refine Cd.reg ?_|refine Ops.mv rfl rfl rfl rfl ?_|refine Ops.nilP rfl rfl rfl rfl ?_|refine Ops.fa0 rfl rfl rfl rfl ?_|refine Ops.ld1 rfl rfl rfl rfl rfl ?_|refine Ops.alloc rfl rfl rfl (noPd rfl) (fun b=>?_))
 refine Ops.callB (view_own B0 sb s SD hS ok) hB rfl (noPd rfl) rfl rfl rfl (fun v A' hR=>?_)
 obtain ⟨VG,hV,rfl⟩:=hR
 have hVV:=hV
 obtain ⟨va,ps,JG,rfl,rfl,hJ⟩:=hV
 refine zg5 ?_
 exact Cd.ret (ret1 (A':=(JG ++ ps.flatMap fun p:Pl=>p.l.G) ++ (CoB xb lb tb cb mb db wb sb c tv dead :: SD)) rfl (Res.cellN rfl) (fun w h=>h.split) ⟨_,hVV,rfl⟩)
theorem co_view_ (B0:Base) (xb db:Nat) (c:Cf) (len n:Nat) (o:Co) (h:CoOk c len n o) (A:List Blk) (hA:CoP xb db c n o A) :
  ConB Tryz.prog B0 13 #[ptr xb] A fun v A'=>∃ V A1,A' = V ++ A1 ∧ ViewA v o.q.st V ∧ CoP xb db c n o A1 :=
 co_view B0 xb db c len n o h A hA fun lb tb cb mb wb sb tv SD hS=>cview_gen B0 xb lb tb cb mb db wb sb c tv false o.q.st SD hS h.cq.ok
end Go.Proofs.YtaecdnfkcebbeaaGreat
namespace Go.Proofs.YtaecdnfkcebbeaaGreat
open Go Go.Sep Go.Proofs
set_option maxRecDepth 100000
set_option maxHeartbeats 40000000
def dkZ (n:Nat):Dk:=⟨List.replicate n zs,0,0,false⟩
def secZ:ByteArray:=sectorF ⟨1,0,0,0⟩
def dkY (n:Nat):Dk:=⟨(List.replicate n zs).set 1 secZ,0,0,false⟩
theorem dkZ_calm (n:Nat):Calm (dkZ n) n:=⟨rfl,rfl,by show (List.replicate n zs).length = n;simp,fun s hs=>by
 rw [show (dkZ n).S = List.replicate n zs from rfl,List.mem_replicate] at hs
 rw [hs.2];simp [zs,ByteArray.size]⟩
theorem writeZ {n:Nat} (h:2 ≤ n):(dkZ n).write 1 secZ = (dkY n,0):=by
 have e:writeD (List.replicate n zs) 0 0 false 1 secZ = (((List.replicate n zs).set 1 secZ,0,false),0):=by
  unfold writeD
  rw [if_neg (by simp),if_neg (by rw [List.length_replicate];omega),if_neg (by have:secZ.size = 128:=sectorF_size _;omega),if_neg (by decide)]
  rfl
 unfold Dk.write Dk.put dkZ
 dsimp only
 rw [e]
 rfl
theorem dkY_calm {n:Nat} (h:2 ≤ n):Calm (dkY n) n:=by
 have:=(write_calm (dkZ_calm n) (i:=1) (by omega) (sectorF_size ⟨1,0,0,0⟩)).2
 have e:=writeZ h
 rw [show ((1:Nat):Int) = 1 from rfl,show sectorF ⟨1,0,0,0⟩ = secZ from rfl,e] at this
 exact this
theorem zs_found (S:List ByteArray) (at_:Nat) (h:S.getD at_ .empty = zs):foundF S at_ = none:=by
 unfold foundF
 rw [h]
 have e:ofF (zs.extract 0 8) = 0:=by kernel_rfl
 dsimp only
 rw [if_pos (.inl (by rw [e];decide))]
theorem countsZ {n:Nat} (h:2 ≤ n):countsF (dkZ n).S = none:=by
 have h:∀ i,i < n → (dkZ n).S.getD i .empty = zs:=fun i hi=>by
  rw [show (dkZ n).S = List.replicate n zs from rfl,List.getD_eq_getElem?_getD,List.getElem?_replicate_of_lt hi];rfl
 unfold countsF
 rw [zs_found _ 0 (h 0 (by omega)),zs_found _ 1 (h 1 (by omega))]
theorem formatZ {n:Nat} (h:2 ≤ n) (hr:20480 ≤ roomF n):formatF (dkZ n) = (dkY n,0):=by
 unfold formatF
 rw [if_neg (by show ¬ (false = true);decide),if_neg (by rw [(dkZ_calm n).len];omega),countsZ h,if_neg (by decide)]
 exact writeZ h
theorem openZ {n:Nat} (h:2 ≤ n) (hr:20480 ≤ roomF n):openW (dkY n) = (some (⟨1,0,0,0⟩,⟨#[]⟩,[]),0):=by
 have hc:=dkY_calm h
 have h0:(dkY n).S.getD 0 .empty = zs:=by
  show ((List.replicate n zs).set 1 secZ).getD 0 .empty = zs
  rw [List.getD_eq_getElem?_getD,List.getElem?_set_ne (by decide),List.getElem?_replicate_of_lt (by omega)];rfl
 have h1:(dkY n).S.getD 1 .empty = secZ:=by
  show ((List.replicate n zs).set 1 secZ).getD 1 .empty = secZ
  rw [List.getD_eq_getElem?_getD,List.getElem?_set_self (by rw [List.length_replicate];omega)];rfl
 have hf:foundF (dkY n).S 1 = some (⟨1,0,0,0⟩,⟨#[]⟩,[]):=by
  unfold foundF
  rw [h1]
  have e1:ofF (secZ.extract 0 8) = 1:=by kernel_rfl
  have e2:rdN secZ 9 13 = 0:=by kernel_rfl
  have e3:rdN secZ 13 17 = 0:=by kernel_rfl
  have e4:bat secZ 8 = 0:=by kernel_rfl
  dsimp only
  rw [e1,e2,e3,e4,if_neg (by decide),if_neg (by
   rintro (q|q|q)
   ·exact q rfl
   ·omega
   ·omega)]
  have e5:(bytesF (dkY n).S 0 0).extract 0 0 = ⟨#[]⟩:=by
   apply ByteArray.ext
   simp [ByteArray.data_extract]
  rw [show (0:Nat) + 0 = 0 from rfl,e5]
  have e6:framesG ⟨#[]⟩ 0 = some []:=by
   unfold framesG
   rw [dif_neg (by decide)]
  rw [e6]
  rfl
 unfold openW
 rw [if_neg (by rw [hc.de];decide),if_neg (by rw [hc.len];omega)]
 unfold countsF
 rw [zs_found _ 0 h0,hf]
def lenC (c:Cf):Nat:=(2 + 2 * c.half).toNat
theorem lenC_room {c:Cf} (hc:CfOk c):20480 ≤ roomF (lenC c) ∧ 2 ≤ lenC c ∧ lenC c ≤ 1026 ∧ ((lenC c:Nat):Int) = 2 + 2 * c.half:=by
 obtain ⟨_,_,_,_,_,_,_,_,⟨h1,h2⟩⟩:=id hc
 unfold lenC roomF
 refine ⟨?_,by omega,by omega,by omega⟩
 rw [if_neg (by omega)]
 omega
def co0 (c:Cf):Co:=⟨⟨⟨c.attempts,[],0,[],[]⟩,[],0,[]⟩,Se.fresh c.runners.toNat,⟨⟨1,0,0,0⟩,0,false⟩,dkY (lenC c),[]⟩
theorem co0_ok {c:Cf} (hc:CfOk c):CoOk c (lenC c) 0 (co0 c):=by
 obtain ⟨_,⟨b1,b2⟩,_,⟨a1,a2⟩,_⟩:=id hc
 obtain ⟨h1,h2,h3,h4⟩:=lenC_room hc
 have hno:∀ {α:Type} {i:Nat} {x:α},([]:List α)[i]? = some x → False:=fun h=>by cases h
 refine ⟨⟨stOk_new a1 a2,stBd_new,(Ls.TOk.new b1 b2).lok,fun x hx=>(by cases hx),fun t ht=>(by cases ht),fun i r hr=>(hno hr).elim,fun r hr=>(by cases hr),⟨Int.le_refl _,Int.le_refl _⟩,fun i j r r' hr=>(hno hr).elim⟩,⟨dkY_calm h2,⟨by show 1 ≤ 1099511627776;omega,by show 0 ≤ 1;omega,by show 0 + 0 ≤ _;omega,Int.le_refl _,by show (0:Int) ≤ _;omega⟩,rfl⟩,by show 1 ≤ 2 * 0 + 1;omega,Int.le_refl _,Se.RowsI.fresh _,Nat.zero_le _,fun ch hch=>(by cases hch)⟩
theorem co_new (B0:Base) (c:Cf) (hc:CfOk c) (db:Nat) (D:List Blk) (hD:DkA db (dkZ (lenC c)) 0 D) :
  ConB Tryz.prog B0 15 #[.agg c.row.toArray,ptr db] D fun v A=>∃ xb,v = .tuple #[ptr xb,.int .i64 0] ∧ CoP xb db c 0 (co0 c) A:=by
 obtain ⟨h1,h2,h3,h4⟩:=lenC_room hc
 have hn:=new_new B0 c hc db (dkZ (lenC c)) (dkY (lenC c)) 0 D hD (by decide) (by rw [(dkZ_calm _).len];exact h4) (formatZ h2 h1) (by rw [(dkY_calm h2).len];exact h4) ⟨1,0,0,0⟩ (openZ h2 h1)
 refine hn.permOut fun v A hR=>?_
 obtain ⟨D',hD',xb,lb,lm,tb,cb,mb,wb,sb,sv,G,SD,rfl,rfl,hO,hS⟩:=hR
 obtain ⟨_,⟨b1,b2⟩,_⟩:=id hc
 refine ⟨_,⟨xb,rfl,CoL xb lb lm tb cb mb db wb sb c 0 0 (.slice none 0 0) [] 0 sv G [] 0 ⟨⟨1,0,0,0⟩,0,false⟩ SD D' [] [] [],?_,lb,lm,tb,cb,mb,wb,sb,_,[],0,sv,G,[],0,SD,_,D',[],[],[],rfl,Ls.TOk.new b1 b2,hO,⟨⟨List.nodup_nil,List.nodup_nil,fun e he=>(by cases he)⟩,[],rfl,rfl,fun t ht=>(by cases ht)⟩,hS,hD',by omega,[],Own.none,rfl,fun B _ g hg=>(by cases hg)⟩,List.Perm.refl _⟩
 refine perm_of fun c g ha hc' hp h0=>?_
 simp only [CoL,CoN,List.cons_append,List.append_assoc,List.nil_append,ha,hc',h0];omega
end Go.Proofs.YtaecdnfkcebbeaaGreat
namespace Go.Proofs.YtaecdnfkcebbeaaGreat
open Go Go.Sep Go.Proofs
set_option maxRecDepth 10000
set_option maxHeartbeats 40000000
set_option synthInstance.maxSize 2000
def UnpackW (B0:Base) (p:ByteArray):Prop:=ConB Tryz.prog B0 48 #[.string p] [] fun v A=>∃ (e f:Int) (a:Option Addr) (n k:Nat),v = .tuple #[.agg #[.int .i64 f,.slice a n k],.int .i64 e] ∧ (e = 0 → 1 ≤ p.size ∧ p.size ≤ 1024)
@[reducible] def SmB (px bx xx jx xb:Nat) (p:ByteArray) (bad job:Int):List Blk:=[(px,cl [.string p] 9),(bx,cl [.int .i64 bad] 29),(xx,cl [ptr xb] 26),(jx,cl [.int .i64 job] 3)]
def SubR (xb lb tb cb mb db wb sb:Nat) (c:Cf) (dead:Bool) (w:Wl) (x:Dk) (k:Nat) (D:List Blk) (s:StP) (SD:List Blk) (tv:Value) (tl:List Cg) (TG:List Blk) (p:ByteArray) (bad job:Int) (A1:List Blk):Prop :=
 (bad ≠ 0 ∧ bad ≠ 2 ∧ job = 0 ∧ A1 = CoB xb lb tb cb mb db wb sb c tv dead :: WlB wb db w :: (SD ++ (D ++ TG))) ∨
 (bad = 0 ∧ job = (s.rows.length:Nat) + 1 ∧ s.rows.length < 8 ∧ (1 ≤ p.size ∧ p.size ≤ 1024) ∧ ∃ SD1 D1 tv1 TG1 k1,A1 = CoB xb lb tb cb mb db wb sb c tv1 dead :: WlB wb db (mkW c.every w x (bytesS s) (encodeF [subC ((s.rows.length:Nat) + 1) p]).1).1 :: (SD1 ++ (D1 ++ TG1)) ∧
    StA sb (applyF s [subC ((s.rows.length:Nat) + 1) p]).2 SD1 ∧ DkA db (mkW c.every w x (bytesS s) (encodeF [subC ((s.rows.length:Nat) + 1) p]).1).2 k1 D1 ∧ k1 ≤ k + 20000 ∧ OwnC tv1 (tl ++ [⟨subC ((s.rows.length:Nat) + 1) p,none,0⟩]) TG1)
theorem sub1_spec (B0:Base) (xb lb tb cb mb db wb sb px bx xx jx:Nat) (c:Cf) (hc:CfOk c) (dead:Bool) (w:Wl) (x:Dk) (len:Nat) (lg:LgOk w x len) (hroom:20480 ≤ roomF len) (hnum:w.h.number + 2 < 1099511627776) (k:Nat) (D:List Blk) (hD:DkA db x k D) (hk:k ≤ 700000000000) (s:StP) (SD:List Blk) (hS:StA sb s SD) (ok:StOk s) (bd:StBd s) (tv:Value) (tl:List Cg) (TG:List Blk) (hT:OwnC tv tl TG) (htl:tl.length ≤ 1000000000)
  (p:ByteArray) (hup:UnpackW B0 p) (henc:s.rows.length < 8 → 1 ≤ p.size → p.size ≤ 1024 → (encodeF [subC ((s.rows.length:Nat) + 1) p]).2 = 0) :
  ConB Tryz.prog B0 47 #[ptr px,ptr bx,ptr xx,ptr jx] (CoB xb lb tb cb mb db wb sb c tv dead :: WlB wb db w :: (SD ++ (D ++ (TG ++ SmB px bx xx jx xb p 0 0))))
   fun v A=>∃ bad job A1,SubR xb lb tb cb mb db wb sb c dead w x k D s SD tv tl TG p bad job A1 ∧ A = A1 ++ SmB px bx xx jx xb p bad job:=by
 have hn:=ok.nr
 refine ConB.intro (vs:=[_,_,_,_]) Tryz.func47 rfl Tryz.ntmps47 rfl (fun B hB=>?_)
 refine zg4 ?_
 refine Ops.callB hup hB rfl (noPd rfl) rfl rfl rfl (fun v A' hR=>?_)
 obtain ⟨e,f,a,n,k0,rfl,hp⟩:=hR
 by_cases he:e = 0
 rotate_left
 ·repeat' (first|refine Cd.seq ?_|refine Cd.reg ?_|refine Ops.nil ?_|refine Ops.mv rfl rfl rfl rfl ?_|refine Ops.asg rfl rfl rfl rfl ?_|refine Ops.bin rfl rfl rfl rfl rfl ?_|refine Ops.ext rfl rfl rfl rfl rfl ?_|refine Ops.alloc rfl rfl rfl (noPd rfl) (fun b=>?_)|refine Ops.st1 rfl rfl rfl rfl rfl (noPd rfl) ?_|refine Ops.stN rfl rfl rfl rfl rfl rfl (noPd rfl) ?_|refine Cd.condT rfl zp0 ?_)
  exact Cd.ret (ret0 (A':=CoB xb lb tb cb mb db wb sb c tv dead :: WlB wb db w :: (SD ++ (D ++ (TG ++ SmB px bx xx jx xb p 181 0)))) rfl (fun _ h=>h.split) ⟨181,0,_,.inl ⟨by decide,by decide,rfl,rfl⟩,by simp only [List.cons_append,List.append_assoc]⟩)
 subst he
 obtain ⟨hp1,hp2⟩:=hp rfl
 clear hp
 by_cases hf:s.rows.length < 8
 rotate_left
 ·repeat' (first|refine Cd.seq ?_|refine Cd.reg ?_|refine Ops.nil ?_|refine Ops.mv rfl rfl rfl rfl ?_|refine Ops.asg rfl rfl rfl rfl ?_|refine Ops.nilP rfl rfl rfl rfl ?_|refine Ops.fa0 rfl rfl rfl rfl ?_|refine Ops.ld1 rfl rfl rfl rfl rfl ?_|refine Ops.bin rfl rfl rfl rfl rfl ?_|refine Ops.ext rfl rfl rfl rfl rfl ?_|refine Ops.alloc rfl rfl rfl (noPd rfl) (fun b=>?_)|refine Ops.stN rfl rfl rfl rfl rfl rfl (noPd rfl) ?_|refine Cd.condF rfl rfl ?_|refine Cd.skip (Cd.next ?_))
  refine Ops.callB (view_own B0 sb s SD hS ok) hB rfl (noPd rfl) rfl rfl rfl (fun v A' hR=>?_)
  obtain ⟨VG,⟨va,ps,JG,rfl,rfl,_⟩,rfl⟩:=hR
  refine Ops.fld ⟨_,_,_,Tryz.underlying52,rfl,Tryz.underlying50,rfl,rfl⟩ rfl rfl rfl rfl rfl ?_
  have hc:(8:Int) ≤ ((s.rows.length:Nat):Int):=by omega
  refine zg24 ?_
  exact Cd.ret (ret0 (A':=CoB xb lb tb cb mb db wb sb c tv dead :: WlB wb db w :: (SD ++ (D ++ (TG ++ SmB px bx xx jx xb p 182 0)))) rfl (fun _ h=>h.split) ⟨182,0,_,.inl ⟨by decide,by decide,rfl,rfl⟩,by simp only [List.cons_append,List.append_assoc]⟩)
 replace henc:=henc hf hp1 hp2
 repeat' (first|refine Cd.seq ?_|refine Cd.reg ?_|refine Ops.nil ?_|refine Ops.mv rfl rfl rfl rfl ?_|refine Ops.asg rfl rfl rfl rfl ?_|refine Ops.nilP rfl rfl rfl rfl ?_|refine Ops.fa0 rfl rfl rfl rfl ?_|refine Ops.ld1 rfl rfl rfl rfl rfl ?_|refine Ops.bin rfl rfl rfl rfl rfl ?_|refine Ops.ext rfl rfl rfl rfl rfl ?_|refine Ops.alloc rfl rfl rfl (noPd rfl) (fun b=>?_)|refine Ops.stN rfl rfl rfl rfl rfl rfl (noPd rfl) ?_|refine Cd.condF rfl rfl ?_|refine Cd.skip (Cd.next ?_))
 refine Ops.callB (view_own B0 sb s SD hS ok) hB rfl (noPd rfl) rfl rfl rfl (fun v A' hR=>?_)
 obtain ⟨VG,⟨va,ps,JG,rfl,rfl,_⟩,rfl⟩:=hR
 refine Ops.fld ⟨_,_,_,Tryz.underlying52,rfl,Tryz.underlying50,rfl,rfl⟩ rfl rfl rfl rfl rfl ?_
 have hcn:¬ (8:Int) ≤ ((s.rows.length:Nat):Int):=by omega
 have hmk:=fun bb:Nat=>makes_lent B0 xb lb tb cb mb db wb sb c hc dead w x len lg hroom hnum k D hD hk s SD hS ok bd tv tl TG hT htl (some ⟨bb,0,none⟩) 1 [⟨subC ((s.rows.length:Nat) + 1) p,none,0⟩] [(bb,cl ((subC ((s.rows.length:Nat) + 1) p).row none 0) 69)] (fun B1 e hG=>(own_one bb _).cin (fun g hg=>by rw [List.mem_singleton] at hg;subst hg;exact ⟨rfl,rfl,by show (0:Int) ≤ 0 ∧ (0:Int) < _;omega⟩) hG) (by show 0 < 1;omega) (by show 1 ≤ 2000000;omega) henc
 repeat' (first|refine Cd.seq ?_|refine Cd.reg ?_|refine Ops.nil ?_|refine Ops.mv rfl rfl rfl rfl ?_|refine Ops.asg rfl rfl rfl rfl ?_|refine Ops.ld1 rfl rfl rfl rfl rfl ?_|refine Ops.lenS rfl rfl rfl rfl ?_|refine Ops.addI rfl rfl rfl rfl (by omega) (by omega) rfl ?_|refine Ops.bin rfl rfl rfl rfl rfl ?_|refine Ops.bld rfl rfl rfl rfl ?_|refine Ops.bs1 rfl rfl rfl rfl rfl rfl rfl (noPd rfl) (fun b=>?_)|refine Cd.skip (Cd.next ?_)|refine Cd.condF rfl zp0 ?_)
 rename Nat=>cbk
 refine Ops.callB (hmk cbk) hB rfl (noPd rfl) rfl rfl rfl (fun v A' hR=>?_)
 obtain ⟨SD1,D1,tv1,TG1,k1,rfl,hS1,hD1,hk1,hT1⟩:=hR
 clear hmk
 rw [show ([⟨subC ((s.rows.length:Nat) + 1) p,none,0⟩]:List Cg).map Cg.c = [subC ((s.rows.length:Nat) + 1) p] from rfl] at hS1 hD1 ⊢
 refine zg23 ?_
 exact Ops.nilN (end0 (A':=CoB xb lb tb cb mb db wb sb c tv1 dead :: WlB wb db (mkW c.every w x (bytesS s) (encodeF [subC ((s.rows.length:Nat) + 1) p]).1).1 :: (SD1 ++ (D1 ++ (TG1 ++ SmB px bx xx jx xb p 0 ((s.rows.length:Nat) + 1))))) rfl (fun _ h=>h.split) ⟨0,_,_,.inr ⟨rfl,rfl,hf,⟨hp1,hp2⟩,SD1,D1,tv1,TG1,k1,rfl,hS1,hD1,hk1,hT1⟩,by simp only [List.cons_append,List.append_assoc]⟩)
end Go.Proofs.YtaecdnfkcebbeaaGreat
