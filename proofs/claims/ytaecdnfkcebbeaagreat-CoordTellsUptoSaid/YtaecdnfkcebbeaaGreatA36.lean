import Derived.Test.YtaecdnfkcebbeaaGreatA35
import Derived.Test.YtaecdnfkcebbeaaGreatA31
import Derived.Test.YtaecdnfkcebbeaaGreatA34
import Derived.Test.YtaecdnfkcebbeaaGreatA01
import Derived.Test.YtaecdnfkcebbeaaGreatA33
set_option linter.unusedVariables false
set_option linter.unusedSimpArgs false
namespace Go.Proofs.YtaecdnfkcebbeaaGreat
open Go Go.Sep Go.Proofs
set_option maxRecDepth 10000
structure Cq where
 st:StP
 ls:List Ls.LE
 la:Int
 ws:List (Int × Sw.Sp)
structure CqOk (c:Cf) (q:Cq):Prop where
 ok:StOk q.st
 bd:StBd q.st
 lk:Ls.LOk c.lease q.ls
 lr:∀ x ∈ q.ls,∃ r,q.st.rows[(x.job - 1).toNat]? = some r ∧ r.status = 2 ∧ r.badge = x.badge
 win:∀ t ∈ q.ws,Sw.SpOk c.window.toNat t.2 ∧ ∀ u ∈ t.2.tx,u.size ≤ 32
 hw:∀ (i:Nat) r,q.st.rows[i]? = some r → r.status = 2 → ∃ t ∈ q.ws,t.1 = (i:Int) + 1 ∧ t.2.nx = (q.st.logs.getD i []).length
 bl:∀ r ∈ q.st.rows,r.badge ≤ q.la
 l0:0 ≤ q.la ∧ q.la ≤ q.st.res
 ds:∀ (i j:Nat) r r',q.st.rows[i]? = some r → q.st.rows[j]? = some r' → r.badge = r'.badge → 0 < r.badge → i = j
def wsDel (ws:List (Int × Sw.Sp)) (job:Int):List (Int × Sw.Sp):=ws.filter fun t=>!decide (t.1 = job)
theorem wsDel_mem {ws:List (Int × Sw.Sp)} {job:Int} {t:Int × Sw.Sp}:t ∈ wsDel ws job ↔ t ∈ ws ∧ t.1 ≠ job:=by simp [wsDel]
theorem held_at {rows:List Rw} {b:Int} {i:Nat} {r:Rw} (hr:rows[i]? = some r) (h2:r.status = 2) (hb:r.badge = b) (h0:0 < b) (ds:∀ (i j:Nat) r r',rows[i]? = some r → rows[j]? = some r' → r.badge = r'.badge → 0 < r.badge → i = j):heldAt rows b = some i:=by
 unfold heldAt
 cases hf:rows.findIdx? (fun r=>decide (r.status = 2 ∧ r.badge = b)) with
 | none =>
  rw [List.findIdx?_eq_none_iff] at hf
  have:=hf r (List.mem_of_getElem? hr)
  simp [h2,hb] at this
 | some j =>
  rw [List.findIdx?_eq_some_iff_getElem] at hf
  obtain ⟨hj,h1,_⟩:=hf
  have hj2:rows[j]? = some rows[j]:=List.getElem?_eq_getElem hj
  have h3:=(of_decide_eq_true h1).2
  exact congrArg some (ds j i _ _ hj2 hr (by rw [h3,hb]) (by rw [h3];exact h0))
theorem last_at {rows:List Rw} {b:Int} {i:Nat} {r:Rw} (hr:rows[i]? = some r) (hb:r.badge = b) (h0:0 < b) (ds:∀ (i j:Nat) r r',rows[i]? = some r → rows[j]? = some r' → r.badge = r'.badge → 0 < r.badge → i = j):lastAt rows b = some i:=by
 unfold lastAt
 cases hf:rows.findIdx? (fun r=>decide (r.badge = b ∧ 0 < b)) with
 | none =>
  rw [List.findIdx?_eq_none_iff] at hf
  have:=hf r (List.mem_of_getElem? hr)
  simp [hb] at this
  omega
 | some j =>
  rw [List.findIdx?_eq_some_iff_getElem] at hf
  obtain ⟨hj,h1,_⟩:=hf
  have hj2:rows[j]? = some rows[j]:=List.getElem?_eq_getElem hj
  have h3:=(of_decide_eq_true h1).1
  exact congrArg some (ds j i _ _ hj2 hr (by rw [h3,hb]) (by rw [h3];exact h0))
theorem ds_set {rows:List Rw} {i:Nat} {f:Rw} (ds:∀ (i j:Nat) r r',rows[i]? = some r → rows[j]? = some r' → r.badge = r'.badge → 0 < r.badge → i = j) (hf:∀ (j:Nat) r',j ≠ i → rows[j]? = some r' → f.badge = r'.badge → 0 < f.badge → False) :
  ∀ (a j:Nat) r r',(rows.set i f)[a]? = some r → (rows.set i f)[j]? = some r' → r.badge = r'.badge → 0 < r.badge → a = j:=by
 intro a j r r' ha hj e h0
 by_cases hai:i = a
 ·by_cases hji:i = j
  ·omega
  ·subst hai
   rw [List.getElem?_set_ne hji] at hj
   have hlt:i < rows.length:=by
    have:=(List.getElem?_eq_some_iff.1 ha).1
    rwa [List.length_set] at this
   rw [List.getElem?_set_self hlt] at ha
   injection ha with ha
   subst ha
   exact (hf j r' (fun q=>hji q.symm) hj e h0).elim
 ·rw [List.getElem?_set_ne hai] at ha
  by_cases hji:i = j
  ·subst hji
   have hlt:i < rows.length:=by
    have:=(List.getElem?_eq_some_iff.1 hj).1
    rwa [List.length_set] at this
   rw [List.getElem?_set_self hlt] at hj
   injection hj with hj
   subst hj
   exact (hf a r (fun q=>hai q.symm) ha e.symm (by omega)).elim
  ·rw [List.getElem?_set_ne hji] at hj
   exact ds a j r r' ha hj e h0
theorem ds_same {rows:List Rw} {i:Nat} {f r0:Rw} (ds:∀ (i j:Nat) r r',rows[i]? = some r → rows[j]? = some r' → r.badge = r'.badge → 0 < r.badge → i = j) (hr:rows[i]? = some r0) (hf:f.badge = r0.badge) :
  ∀ (a j:Nat) r r',(rows.set i f)[a]? = some r → (rows.set i f)[j]? = some r' → r.badge = r'.badge → 0 < r.badge → a = j :=
 ds_set ds fun j r' hne hj e h0=>hne (ds j i r' r0 hj hr (by rw [← e,hf]) (by omega))
theorem CqOk.res {c:Cf} {q:Cq} (h:CqOk c q) {n:Int} (h1:q.st.res < n) (h2:n ≤ 1099511627776):stepF q.st (Ch.res n) = some { q.st with res:=n } ∧ CqOk c { q with st:={ q.st with res:=n } }:=by
 have hs:stepF q.st (Ch.res n) = some { q.st with res:=n }:=by
  unfold stepF
  rw [if_pos rfl,if_pos h1]
 refine ⟨hs,⟨stepF_ok h.ok hs,⟨⟨?_,h2⟩,h.bd.rb,h.bd.pz,h.bd.tz⟩,h.lk,h.lr,h.win,h.hw,h.bl,⟨h.l0.1,?_⟩,h.ds⟩⟩
 ·have:=h.bd.rs;show 0 ≤ n;omega
 ·have:=h.l0.2;show q.la ≤ n;omega
@[reducible] def subC (job:Int) (p:ByteArray):Ch:=⟨2,0,job,0,0,0,0,0,p,[]⟩
theorem CqOk.sub {c:Cf} {q:Cq} (h:CqOk c q) {p:ByteArray} (hn:q.st.rows.length < 8) (hck:checkF (subC ((q.st.rows.length:Nat) + 1) p) = 0):∃ st,stepF q.st (subC ((q.st.rows.length:Nat) + 1) p) = some st ∧ CqOk c { q with st:=st }:=by
 have hs:stepF q.st (subC ((q.st.rows.length:Nat) + 1) p) = some { q.st with rows:=q.st.rows ++ [⟨(q.st.rows.length:Nat) + 1,1,0,0,0,0,0,0⟩],progs:=q.st.progs ++ [p],logs:=q.st.logs ++ [[]] }:=by
  unfold stepF
  rw [if_neg (by show ¬ ((2:Int) = 1);decide),if_pos rfl,if_neg (by
   rintro (e|e)
   ·apply e;show ((q.st.rows.length:Nat):Int) + 1 = _;rw [h.ok.np]
   ·omega)]
 have hat:∀ (i:Nat) (r:Rw),(q.st.rows ++ [(⟨(q.st.rows.length:Nat) + 1,1,0,0,0,0,0,0⟩:Rw)])[i]? = some r → q.st.rows[i]? = some r ∨ (r.status = 1 ∧ r.badge = 0):=fun i r hr=>by
  by_cases hi:i < q.st.rows.length
  ·rw [List.getElem?_append_left hi] at hr;exact .inl hr
  ·rw [List.getElem?_append_right (by omega)] at hr
   have:i - q.st.rows.length = 0:=by
    have:=(List.getElem?_eq_some_iff.1 hr).1
    simp at this
    omega
   rw [this] at hr
   injection hr with hr
   subst hr
   exact .inr ⟨rfl,rfl⟩
 refine ⟨_,hs,⟨stepF_ok h.ok hs,stepF_bd h.ok h.bd hck ⟨Int.le_refl _,by show (0:Int) < _;omega⟩ hs,h.lk,fun x hx=>?_,h.win,fun i r hr h2=>?_,fun r hr=>?_,h.l0,fun i j r r' hr hr' e h0=>?_⟩⟩
 ·obtain ⟨r,h1,h2⟩:=h.lr x hx
  exact ⟨r,by show (q.st.rows ++ [_])[(x.job - 1).toNat]? = some r;rw [List.getElem?_append_left (List.getElem?_eq_some_iff.1 h1).1];exact h1,h2⟩
 ·rcases hat i r hr with hr|⟨hr,_⟩
  ·obtain ⟨t,ht,e1,e2⟩:=h.hw i r hr h2
   refine ⟨t,ht,e1,?_⟩
   rw [e2]
   show _ = ((q.st.logs ++ [[]]).getD i []).length
   have hil:i < q.st.logs.length:=by rw [h.ok.nl];exact (List.getElem?_eq_some_iff.1 hr).1
   rw [List.getD_eq_getElem?_getD,List.getD_eq_getElem?_getD,List.getElem?_append_left hil]
  ·omega
 ·obtain ⟨i,hi⟩:=List.getElem?_of_mem hr
  rcases hat i r hi with hi|⟨_,hi⟩
  ·exact h.bl r (List.mem_of_getElem? hi)
  ·rw [hi];exact h.l0.1
 ·rcases hat i r hr with hr|⟨_,hr⟩
  ·rcases hat j r' hr' with hr'|⟨_,hr'⟩
   ·exact h.ds i j r r' hr hr' e h0
   ·omega
  ·omega
end Go.Proofs.YtaecdnfkcebbeaaGreat
namespace Go.Proofs.YtaecdnfkcebbeaaGreat
open Go Go.Sep Go.Proofs
set_option maxRecDepth 10000
set_option maxHeartbeats 40000000
set_option synthInstance.maxSize 2000
@[reducible] def logC (badge:Int) (l:List ByteArray):Ch:=⟨4,0,0,badge,0,0,0,0,⟨#[]⟩,l⟩
def jobF (s:StP) (badge:Int):Int:=match placeF s badge with
 | none=>0
 | some (r,_,_)=>r.job
@[reducible] def ackM (badge:Int) (n:Int):Ms:=⟨14,0,0,0,badge,0,n,0,0,⟨#[]⟩,⟨#[]⟩⟩
theorem ackM_ok (badge n:Int):MsOk (ackM badge n):=⟨Nat.zero_le _,Nat.zero_le _,by show (0:Int) ≤ 0 ∧ (0:Int) < _;omega⟩
theorem PlR.held {s:StP} {badge node life:Int} {p:Pl} (h:PlR s badge p) (hh:heldF s badge node life = true):p.r.job = jobF s badge ∧ p.l.txs = logF s badge:=by
 obtain ⟨r,pg,tx,hpf⟩:∃ r pg tx,placeF s badge = some (r,pg,tx):=by
  unfold heldF at hh
  split at hh
  ·cases hh
  ·rename_i r pg tx hpf;exact ⟨r,pg,tx,hpf⟩
 have e1:=h.1
 rw [hpf,Option.getD_some,Pl.pure] at e1
 injection e1 with e2 e1
 injection e1 with _ e1
 exact ⟨by unfold jobF;rw [hpf,e2],by unfold logF;rw [hpf,e1]⟩
theorem chunk_no (B0:Base) (xb lb tb cb mb db wb sb:Nat) (c:Cf) (tv:Value) (dead:Bool) (node life:Int) (m:Ms) (s:StP) (SD:List Blk) (hD:StA sb s SD) (ok:StOk s) (hh:heldF s m.badge node life = false) :
  ConB Tryz.prog B0 93 #[.agg (heV xb node life m).toArray] (CoB xb lb tb cb mb db wb sb c tv dead :: SD) fun v A=>v = .string ⟨#[]⟩ ∧ A = CoB xb lb tb cb mb db wb sb c tv dead :: SD:=by
 refine ConB.intro (vs:=[_]) Tryz.func93 rfl Tryz.ntmps93 rfl (fun B hB=>?_)
 repeat' (first|refine Cd.seq ?_|refine Cd.reg ?_|refine Ops.asg rfl rfl rfl rfl ?_|refine Ops.ldN rfl rfl rfl rfl ?_|refine Ops.box rfl rfl rfl rfl (noPd rfl) (fun b=>?_))
 refine Ops.callB (chheld_spec B0 xb lb tb cb mb db wb sb c tv dead node life m s SD hD ok) hB rfl (noPd rfl) rfl rfl rfl (fun v A' hR=>?_)
 obtain ⟨p,rfl,rfl,hp⟩:=hR
 rw [hh]
 repeat' (first|refine Cd.seq ?_|refine Cd.reg ?_|refine Ops.nil ?_|refine Ops.mv rfl rfl rfl rfl ?_|refine Ops.asg rfl rfl rfl rfl ?_|refine Ops.un rfl rfl rfl rfl ?_|refine Ops.ext rfl rfl rfl rfl rfl ?_|refine Ops.alloc rfl rfl rfl (noPd rfl) (fun b=>?_)|refine Ops.stN rfl rfl rfl rfl rfl rfl (noPd rfl) ?_|refine Cd.condT rfl rfl ?_)
 exact Cd.ret (ret1 (A':=CoB xb lb tb cb mb db wb sb c tv dead :: SD) rfl (Res.tmp rfl) (fun _ h=>h.split) ⟨rfl,rfl⟩)
theorem one_cin {b:Nat} {badge:Int} {l:List ByteArray} {la:Option Addr} {lk:Nat} {G:List Blk} (hO:Sw.OwnT (.slice la l.length lk) l G) (hl:l.length ≤ 2000000) {B:Base} (hG:Holds B ((b,cl ((logC badge l).row la lk) 69) :: G)) :
  CIn B (some ⟨b,0,none⟩) [⟨logC badge l,la,lk⟩] :=
 ⟨Own.rin (own_one b ⟨logC badge l,la,lk⟩) (hG.sub fun p hp=>by rw [List.mem_singleton] at hp;subst hp;exact List.mem_cons_self ..),
  fun g hg=>(by rw [List.mem_singleton] at hg;subst hg;exact RIn.sin (Own.rin hO (hG.sub fun p hp=>List.mem_cons_of_mem _ hp))),
  fun g hg=>(by rw [List.mem_singleton] at hg;subst hg;exact hl),
  fun g hg=>(by rw [List.mem_singleton] at hg;subst hg;show (0:Int) ≤ 0 ∧ (0:Int) < _;omega)⟩
theorem chunk_yes (B0:Base) (xb lb tb cb mb db wb sb:Nat) (c:Cf) (hc:CfOk c) (dead:Bool) (w:Wl) (x:Dk) (len:Nat) (lg:LgOk w x len) (hroom:20480 ≤ roomF len) (hnum:w.h.number + 2 < 1099511627776) (k:Nat) (D:List Blk) (hD:DkA db x k D) (hk:k ≤ 700000000000) (s:StP) (SD:List Blk) (hS:StA sb s SD) (ok:StOk s) (bd:StBd s) (tv:Value) (tl:List Cg) (TG:List Blk) (hT:OwnC tv tl TG) (htl:tl.length ≤ 1000000000)
  (mes:List ME) (mck_:Nat) (node life:Int) (m:Ms) (hix:m.index ≤ 9223372036854775807) (hh:heldF s m.badge node life = true)
  (wn wm:Nat) (sp:Sw.Sp) (es:List ME) (ck:Nat) (hsp:Sw.SpOk c.window.toNat sp) (hes:Sw.EsOk sp es ck) (hjob:mget mes (jobF s m.badge) = some (ptr wn)) (hlen:(logF s m.badge).length ≤ 32)
  (te:Int) (l:List ByteArray) (sp1:Sw.Sp) (htk:Sw.takeF c.window.toNat sp m.index m.text = (te,l,sp1)) (henc:l ≠ [] → (encodeF [logC m.badge l]).2 = 0) :
  ConB Tryz.prog B0 93 #[.agg (heV xb node life m).toArray] (CoB xb lb tb cb mb db wb sb c tv dead :: (Sw.WB wn wm c.window.toNat sp.nx es ck ++ ((mb,mpo mes mck_) :: WlB wb db w :: (SD ++ (D ++ TG)))))
   fun v A=>v = .string (encF (ackM m.badge ((logF s m.badge).length + l.length))).1 ∧ ∃ wn1 wm1 es1 ck1,Sw.EsOk sp1 es1 ck1 ∧
    ((l = [] ∧ A = CoB xb lb tb cb mb db wb sb c tv dead :: (Sw.WB wn1 wm1 c.window.toNat sp1.nx es1 ck1 ++ ((mb,mpo (mput mes mck_ (jobF s m.badge) (ptr wn1)) (mck mes mck_ (jobF s m.badge))) :: WlB wb db w :: (SD ++ (D ++ TG))))) ∨
    (l ≠ [] ∧ ∃ la lk G SD1 D1 tv1 TG1 k1,A = CoB xb lb tb cb mb db wb sb c tv1 dead :: (Sw.WB wn1 wm1 c.window.toNat sp1.nx es1 ck1 ++ ((mb,mpo (mput mes mck_ (jobF s m.badge) (ptr wn1)) (mck mes mck_ (jobF s m.badge))) :: WlB wb db (mkW c.every w x (bytesS s) (encodeF [logC m.badge l]).1).1 :: (SD1 ++ (D1 ++ (TG1 ++ G))))) ∧ Sw.OwnT (.slice la l.length lk) l G ∧
     StA sb (applyF s [logC m.badge l]).2 SD1 ∧ DkA db (mkW c.every w x (bytesS s) (encodeF [logC m.badge l]).1).2 k1 D1 ∧ k1 ≤ k + 20000 ∧ OwnC tv1 (tl ++ [⟨logC m.badge l,la,lk⟩]) TG1)):=by
 have hgr:=Sw.takeF_grow hsp m.index m.text
 have hok1:=Sw.takeF_ok hsp m.index m.text
 have hts:=fun n b=>Sw.take_spec n b c.window.toNat sp es ck m.index m.text hsp hes hix
 rw [htk] at hgr hok1
 simp only [htk] at hts
 dsimp only at hgr hok1 hts
 have hl32:l.length ≤ 32:=by have:=hok1.n;omega
 refine ConB.intro (vs:=[_]) Tryz.func93 rfl Tryz.ntmps93 rfl (fun B hB=>?_)
 repeat' (first|refine Cd.seq ?_|refine Cd.reg ?_|refine Ops.asg rfl rfl rfl rfl ?_|refine Ops.ldN rfl rfl rfl rfl ?_|refine Ops.box rfl rfl rfl rfl (noPd rfl) (fun b=>?_))
 rename Nat=>hb
 refine Ops.callB (chheld_spec B0 xb lb tb cb mb db wb sb c tv dead node life m s SD hS ok) hB rfl (noPd rfl) rfl rfl rfl (fun v A' hR=>?_)
 obtain ⟨p,rfl,rfl,hp⟩:=hR
 rw [hh]
 obtain ⟨hpj,hpl⟩:=hp.held hh
 rw [← hpj] at hjob ⊢
 rw [← hpl] at hlen ⊢
 clear hp hpl
 repeat' (first|refine Cd.seq ?_|refine Cd.reg ?_|refine Ops.nil ?_|refine Ops.mv rfl rfl rfl rfl ?_|refine Ops.asg rfl rfl rfl rfl ?_|refine Ops.un rfl rfl rfl rfl ?_|refine Ops.ext rfl rfl rfl rfl rfl ?_|refine Ops.alloc rfl rfl rfl (noPd rfl) (fun b=>?_)|refine Ops.stN rfl rfl rfl rfl rfl rfl (noPd rfl) ?_|refine Cd.condF rfl rfl ?_|refine Cd.skip (Cd.next ?_))
 rename Nat=>pb
 refine Cd.draw [(0,0,[]),(1,1,[]),(2,0,[]),(3,0,[]),(4,0,[]),(5,1,[]),(6,0,[]),(7,0,[]),(8,1,[]),(9,1,[]),(10,2,[]),(11,0,[])] (by kernel_rfl) (by kernel_rfl) (by simp only [picked,nth];exact rfl) ?_
 refine zg26 ?_
 rw [hjob,Option.getD_some]
 refine Ops.call (Sw.clone_spec wn wm c.window.toNat sp.nx es ck) rfl (noPd rfl) rfl rfl rfl (fun v A' hR=>?_)
 obtain ⟨wn1,wm1,rfl,rfl⟩:=hR
 refine zg7 ?_
 refine Ops.call (hts wn1 wm1) rfl (noPd rfl) rfl rfl rfl (fun v A' hR=>?_)
 obtain ⟨sv,G,es1,ck1,rfl,hO,rfl,hes1⟩:=hR
 obtain ⟨la,lk,rfl⟩:∃ a c,sv = .slice a l.length c:=by
  obtain ⟨a,c,q⟩:=Own.form hO
  exact ⟨a,c,by rw [q,List.length_map]⟩
 by_cases hl0:l = []
 ·have hz:¬ (0:Int) < (l.length:Int):=by rw [hl0];decide
  refine zg17 ?_
  refine Cd.draw [(0,0,[]),(1,1,[]),(2,0,[]),(3,0,[]),(4,0,[]),(5,1,[]),(6,0,[]),(7,0,[]),(8,1,[]),(9,0,[]),(10,2,[])] (by kernel_rfl) (by kernel_rfl) (by simp only [picked,nth];exact rfl) ?_
  refine zg44 ?_
  refine Ops.call (told_spec (ackM m.badge ((p.l.txs.length:Int) + l.length)) (ackM_ok _ _)) rfl (noPd rfl) rfl rfl rfl (fun v A' hR=>?_)
  obtain ⟨rfl,rfl⟩:=hR
  refine zg1 ?_
  exact Cd.ret (ret1 (A':=CoB xb lb tb cb mb db wb sb c tv dead :: (Sw.WB wn1 wm1 c.window.toNat sp1.nx es1 ck1 ++ ((mb,mpo (mput mes mck_ p.r.job (ptr wn1)) (mck mes mck_ p.r.job)) :: WlB wb db w :: (SD ++ (D ++ TG))))) rfl (Res.tmp rfl) (fun _ h=>h.split) ⟨rfl,wn1,wm1,es1,ck1,hes1,.inl ⟨hl0,rfl⟩⟩)
 ·have hpos:(0:Int) < (l.length:Int):=by have:=List.length_pos_iff.2 hl0;omega
  have hmk:=fun bb:Nat=>makes_lent B0 xb lb tb cb mb db wb sb c hc dead w x len lg hroom hnum k D hD hk s SD hS ok bd tv tl TG hT htl (some ⟨bb,0,none⟩) 1 [⟨logC m.badge l,la,lk⟩] ((bb,cl ((logC m.badge l).row la lk) 69) :: G) (fun B1 e hG=>one_cin hO (by omega) hG) (by show 0 < 1;omega) (by show 1 ≤ 2000000;omega) (henc hl0)
  repeat' (first|refine Cd.seq ?_|refine Cd.reg ?_|refine Ops.nil ?_|refine Ops.mv rfl rfl rfl rfl ?_|refine Ops.asg rfl rfl rfl rfl ?_|refine Ops.fa0 rfl rfl rfl rfl ?_|refine Ops.fa rfl rfl rfl rfl ?_|refine Ops.ld1 rfl rfl rfl rfl rfl ?_|refine Ops.lenS rfl rfl rfl rfl ?_|refine Ops.bin rfl rfl rfl rfl rfl ?_|refine Ops.ext rfl rfl rfl rfl rfl ?_|refine Ops.bld rfl rfl rfl rfl ?_|refine Ops.bs1 rfl rfl rfl rfl rfl rfl rfl (noPd rfl) (fun b=>?_)|refine Cd.condT rfl zp0 ?_)
  rename Nat=>cbk
  refine Ops.callB (hmk cbk) hB rfl (noPd rfl) rfl rfl rfl (fun v A' hR=>?_)
  obtain ⟨SD1,D1,tv1,TG1,k1,rfl,hS1,hD1,hk1,hT1⟩:=hR
  clear hmk
  rw [show ([⟨logC m.badge l,la,lk⟩]:List Cg).map Cg.c = [logC m.badge l] from rfl] at hS1 hD1 ⊢
  refine zg0 ?_
  refine Cd.draw [(0,0,[]),(1,1,[]),(2,0,[]),(3,0,[]),(4,0,[]),(5,1,[]),(6,0,[]),(7,0,[]),(8,1,[]),(9,0,[]),(10,2,[])] (by kernel_rfl) (by kernel_rfl) (by simp only [picked,nth];exact rfl) ?_
  refine zg44 ?_
  refine Ops.call (told_spec (ackM m.badge ((p.l.txs.length:Int) + l.length)) (ackM_ok _ _)) rfl (noPd rfl) rfl rfl rfl (fun v A' hR=>?_)
  obtain ⟨rfl,rfl⟩:=hR
  refine zg1 ?_
  exact Cd.ret (ret1 (A':=CoB xb lb tb cb mb db wb sb c tv1 dead :: (Sw.WB wn1 wm1 c.window.toNat sp1.nx es1 ck1 ++ ((mb,mpo (mput mes mck_ p.r.job (ptr wn1)) (mck mes mck_ p.r.job)) :: WlB wb db (mkW c.every w x (bytesS s) (encodeF [logC m.badge l]).1).1 :: (SD1 ++ (D1 ++ (TG1 ++ G)))))) rfl (Res.tmp rfl) (fun _ h=>h.split) ⟨rfl,wn1,wm1,es1,ck1,hes1,.inr ⟨hl0,la,lk,G,SD1,D1,tv1,TG1,k1,rfl,hO,hS1,hD1,hk1,hT1⟩⟩)
@[reducible] def reqM (kind session number:Int):Ms:=⟨kind,session,number,0,0,0,0,0,0,⟨#[]⟩,⟨#[]⟩⟩
theorem reqM_ok (k s n:Int):MsOk (reqM k s n):=⟨Nat.zero_le _,Nat.zero_le _,by show (0:Int) ≤ 0 ∧ (0:Int) < _;omega⟩
theorem request_old (xb lb tb cb mb db wb sb:Nat) (c:Cf) (tv:Value) (dead:Bool) (node life:Int) (hn1:2 ≤ node) (hn2:node ≤ 9) (m:Ms) (sv:Value) (rs:List Se.Dk) (G:List Blk) (hO:Se.OwnK sv rs G) (hI:Se.RowsI rs)
  (what:Int) (reply:ByteArray) (hask:Se.askV (Se.rowAt rs (node - 2)) life m.session m.number = (what,reply)) (hw:what ≠ 3) :
  Con Tryz.prog 92 #[.agg (heV xb node life m).toArray] (CoB xb lb tb cb mb db wb sb c tv dead :: Se.TabB tb sv G)
   fun v A=>v = .string (if what = 1 then (encF (reqM 8 m.session m.number)).1 else if what = 2 then reply else ⟨#[]⟩) ∧ A = CoB xb lb tb cb mb db wb sb c tv dead :: Se.TabB tb sv G:=by
 have hak:=Se.ask_fun tb sv rs G (node - 2) life m.session m.number hO hI
 rw [hask] at hak
 dsimp only at hak
 refine Con.intro (vs:=[_]) Tryz.func92 rfl Tryz.ntmps92 rfl (fun B=>?_)
 repeat' (first|refine Cd.seq ?_|refine Cd.reg ?_|refine Ops.asg rfl rfl rfl rfl ?_|refine Ops.fa0 rfl rfl rfl rfl ?_|refine Ops.fa rfl rfl rfl rfl ?_|refine Ops.ld1 rfl rfl rfl rfl rfl ?_|refine Ops.bld rfl rfl rfl rfl ?_|refine Ops.box rfl rfl rfl rfl (noPd rfl) (fun b=>?_)|refine Ops.alloc rfl rfl rfl (noPd rfl) (fun b=>?_)|refine Ops.stN rfl rfl rfl rfl rfl rfl (noPd rfl) ?_)
 rename_i hb
 rename Nat=>mx
 refine Cd.draw [(0,0,[]),(1,1,[]),(2,0,[]),(3,0,[]),(4,0,[]),(5,1,[]),(6,1,[]),(8,0,[]),(9,0,[]),(10,1,[]),(11,0,[]),(12,1,[]),(13,0,[]),(14,1,[]),(7,2,[1,5,10,12,14]),(15,2,[]),(16,0,[]),(17,0,[]),(18,0,[]),(19,0,[]),(20,0,[])] (by kernel_rfl) (by kernel_rfl) (by simp only [picked,nth];exact rfl) ?_
 refine zg9 ?_
 refine Ops.call (slot_spec xb node life m hn1 hn2) rfl zp1 rfl rfl rfl (fun v A' hR=>?_)
 obtain ⟨rfl,rfl⟩:=hR
 skip
 refine Ops.call hak rfl (noPd rfl) rfl rfl rfl (fun v A' hR=>?_)
 obtain ⟨rfl,rfl⟩:=hR
 by_cases h1:what = 1
 ·rw [if_pos h1]
  refine zg24 ?_
  refine Ops.call (told_spec (reqM 8 m.session m.number) (reqM_ok _ _ _)) rfl (noPd rfl) rfl rfl rfl (fun v A' hR=>?_)
  obtain ⟨rfl,rfl⟩:=hR
  refine zg1 ?_
  exact ze61
 ·rw [if_neg h1]
  by_cases h2:what = 2
  ·rw [if_pos h2]
   refine zg16 ?_
   exact ze61
  ·rw [if_neg h2]
   refine zg17 ?_
   exact ze61
theorem request_new (B0:Base) (xb lb lm tb cb mb db wb sb:Nat) (c:Cf) (tv:Value) (dead:Bool) (node life:Int) (hn1:2 ≤ node) (hn2:node ≤ 9) (m:Ms) (sv:Value) (rs:List Se.Dk) (G:List Blk) (hO:Se.OwnK sv rs G) (hI:Se.RowsI rs)
  (reply:ByteArray) (hask:Se.askV (Se.rowAt rs (node - 2)) life m.session m.number = (3,reply))
  (ls:List Ls.LE) (les:List ME) (lck:Nat) (hL:Ls.TOk c.lease ls les lck) (s:StP) (SD:List Blk) (hS:StA sb s SD) (ok:StOk s) (X0:List Blk)
  (Mid:Ms → Value → List Blk → Prop) (hmid:∀ m1 tv1 X,Mid m1 tv1 X → MsOk m1)
  (hpoll:m.kind = 2 → ∀ mx,ConB Tryz.prog B0 160 #[.agg (heV xb node life m).toArray,ptr mx] (CoB xb lb tb cb mb db wb sb c tv dead :: MgB mx (reqM 0 m.session m.number).row :: (Ls.TB lb lm c.lease les lck ++ (SD ++ X0))) fun v A=>∃ m1 tv1 X,A = CoB xb lb tb cb mb db wb sb c tv1 dead :: MgB mx m1.row :: X ∧ Mid m1 tv1 X)
  (hbeat0:m.kind = 3 → heldF s m.badge node life = false → Mid (reqM 12 m.session m.number) tv (Ls.TB lb lm c.lease les lck ++ (SD ++ X0)))
  (hbeat1:m.kind = 3 → heldF s m.badge node life = true → ∀ les1 lck1,Ls.TOk c.lease (Ls.renewF c.lease ls m.badge).2 les1 lck1 → Mid (reqM 11 m.session m.number) tv (Ls.TB lb lm c.lease les1 lck1 ++ (SD ++ X0)))
  (hdone:m.kind ≠ 2 → m.kind ≠ 3 → ConB Tryz.prog B0 163 #[.agg (heV xb node life m).toArray] (CoB xb lb tb cb mb db wb sb c tv dead :: (Ls.TB lb lm c.lease les lck ++ (SD ++ X0))) fun v A=>∃ b tv1 X,v = .bool b ∧ A = CoB xb lb tb cb mb db wb sb c tv1 dead :: X ∧ Mid (reqM (if b then 13 else 12) m.session m.number) tv1 X) :
  ConB Tryz.prog B0 92 #[.agg (heV xb node life m).toArray] (CoB xb lb tb cb mb db wb sb c tv dead :: (Se.TabB tb sv G ++ (Ls.TB lb lm c.lease les lck ++ (SD ++ X0))))
   fun v A=>∃ m1 tv1 X G1,v = .string (encF m1).1 ∧ A = CoB xb lb tb cb mb db wb sb c tv1 dead :: (Se.TabB tb sv G1 ++ X) ∧ Se.OwnK sv (Se.putRow rs (node - 2) (Se.answerV (Se.rowAt rs (node - 2)) (encF m1).1)) G1 ∧ Mid m1 tv1 X:=by
 have hak:=Se.ask_fun tb sv rs G (node - 2) life m.session m.number hO hI
 rw [hask] at hak
 dsimp only at hak
 refine ConB.intro (vs:=[_]) Tryz.func92 rfl Tryz.ntmps92 rfl (fun B hB=>?_)
 generalize hc1:Code.seq (Code.seq (Code.region 11 _ _) _) _ = c1
 repeat' (first|refine Cd.seq ?_|refine Cd.reg ?_|refine Ops.asg rfl rfl rfl rfl ?_|refine Ops.fa0 rfl rfl rfl rfl ?_|refine Ops.fa rfl rfl rfl rfl ?_|refine Ops.ld1 rfl rfl rfl rfl rfl ?_|refine Ops.bld rfl rfl rfl rfl ?_|refine Ops.box rfl rfl rfl rfl (noPd rfl) (fun b=>?_)|refine Ops.alloc rfl rfl rfl (noPd rfl) (fun b=>?_)|refine Ops.stN rfl rfl rfl rfl rfl rfl (noPd rfl) ?_)
 rename_i hb
 rename Nat=>mx
 refine Cd.draw [(0,0,[]),(1,1,[]),(2,0,[]),(3,0,[]),(4,0,[]),(5,1,[]),(6,1,[]),(8,0,[]),(9,0,[]),(10,1,[]),(11,0,[]),(12,1,[]),(13,0,[]),(14,1,[]),(7,2,[1,5,10,12,14]),(15,2,[]),(16,0,[]),(17,0,[]),(18,0,[]),(19,0,[]),(20,0,[])] (by kernel_rfl) (by kernel_rfl) (by simp only [picked,nth];exact rfl) ?_
 refine zg9 ?_
 refine Ops.call (slot_spec xb node life m hn1 hn2) rfl zp1 rfl rfl rfl (fun v A' hR=>?_)
 obtain ⟨rfl,rfl⟩:=hR
 skip
 refine Ops.call hak rfl (noPd rfl) rfl rfl rfl (fun v A' hR=>?_)
 obtain ⟨rfl,rfl⟩:=hR
 refine zg19 ?_
 subst hc1
 refine Cd.cut (σ:=Ms × Value × List Blk) (fun t=>Mid t.1 t.2.1 t.2.2) (fun t=>[(1,ptr hb),(3,ptr mx)]) (fun t=>MgB mx t.1.row :: (hb,cl (heV xb node life m) 116) :: CoB xb lb tb cb mb db wb sb c t.2.1 dead :: (Se.TabB tb sv G ++ t.2.2)) ?_ (fun t hM=>?_)
 ·by_cases h2:m.kind = 2
  ·refine zg24 ?_
   refine Ops.callB (hpoll h2 mx) hB rfl (noPd rfl) rfl rfl rfl (fun v A' hR=>?_)
   obtain ⟨m1,tv1,X,rfl,hM⟩:=hR
   skip
   exact Ops.nilN (inB (meet_end (Q:=fun _ _ _=>True) (m1,tv1,X) hM ⟨rfl,rfl,trivial⟩ (fun w h=>h.split)))
  ·by_cases h3:m.kind = 3
   ·refine zg16 ?_
    refine Ops.callB (chheld_spec B0 xb lb tb cb mb db wb sb c tv dead node life m s SD hS ok) hB rfl (noPd rfl) rfl rfl rfl (fun v A' hR=>?_)
    obtain ⟨p,rfl,rfl,hp⟩:=hR
    by_cases hh:heldF s m.badge node life = true
    ·rw [hh]
     repeat' (first|refine Cd.seq ?_|refine Cd.reg ?_|refine Ops.nil ?_|refine Ops.mv rfl rfl rfl rfl ?_|refine Ops.asg rfl rfl rfl rfl ?_|refine Ops.ext rfl rfl rfl rfl rfl ?_|refine Ops.alloc rfl rfl rfl (noPd rfl) (fun b=>?_)|refine Ops.stN rfl rfl rfl rfl rfl rfl (noPd rfl) ?_|refine Cd.condT rfl rfl ?_)
     refine Cd.draw [(0,0,[]),(1,1,[]),(2,0,[]),(3,0,[]),(4,0,[]),(5,1,[]),(6,0,[]),(7,0,[]),(8,1,[]),(9,2,[])] (by kernel_rfl) (by kernel_rfl) (by simp only [picked,nth];exact rfl) ?_
     refine zg2 ?_
     refine Ops.call (Ls.renew_spec lb lm c.lease ls les lck m.badge hL) rfl (noPd rfl) rfl rfl rfl (fun v A' hR=>?_)
     obtain ⟨rfl,les1,lck1,rfl,hL1⟩:=hR
     refine zg26 ?_
     exact Ops.nilN (inB (meet_end (Q:=fun _ _ _=>True) (reqM 11 m.session m.number,tv,Ls.TB lb lm c.lease les1 lck1 ++ (SD ++ X0)) (hbeat1 h3 hh les1 lck1 hL1) ⟨rfl,rfl,trivial⟩ (fun w h=>h.split)))
    ·rw [Bool.not_eq_true] at hh
     rw [hh]
     repeat' (first|refine Cd.seq ?_|refine Cd.reg ?_|refine Ops.nil ?_|refine Ops.mv rfl rfl rfl rfl ?_|refine Ops.asg rfl rfl rfl rfl ?_|refine Ops.ext rfl rfl rfl rfl rfl ?_|refine Ops.alloc rfl rfl rfl (noPd rfl) (fun b=>?_)|refine Ops.stN rfl rfl rfl rfl rfl rfl (noPd rfl) ?_|refine Cd.condF rfl rfl ?_)
     exact Cd.skip (inB (meet_end (Q:=fun _ _ _=>True) (reqM 12 m.session m.number,tv,Ls.TB lb lm c.lease les lck ++ (SD ++ X0)) (hbeat0 h3 hh) ⟨rfl,rfl,trivial⟩ (fun w h=>h.split)))
   ·refine zg16 ?_
    refine Ops.callB (hdone h2 h3) hB rfl (noPd rfl) rfl rfl rfl (fun v A' hR=>?_)
    obtain ⟨b,tv1,X,rfl,rfl,hM⟩:=hR
    cases b
    ·refine zg10 ?_
     exact Cd.skip (inB (meet_end (Q:=fun _ _ _=>True) (reqM 12 m.session m.number,tv1,X) hM ⟨rfl,rfl,trivial⟩ (fun w h=>h.split)))
    ·refine zg26 ?_
     exact Ops.nilN (inB (meet_end (Q:=fun _ _ _=>True) (reqM 13 m.session m.number,tv1,X) hM ⟨rfl,rfl,trivial⟩ (fun w h=>h.split)))
 ·obtain ⟨m1,tv1,X⟩:=t
  dsimp only at hM ⊢
  refine zg8 ?_
  refine Ops.call (told_spec m1 (hmid _ _ _ hM)) rfl (noPd rfl) rfl rfl rfl (fun v A' hR=>?_)
  obtain ⟨rfl,rfl⟩:=hR
  refine zg0 ?_
  refine Cd.draw [(0,0,[]),(1,1,[]),(2,0,[]),(3,0,[]),(4,0,[]),(5,1,[]),(6,1,[]),(8,0,[]),(7,2,[1,5]),(9,2,[])] (by kernel_rfl) (by kernel_rfl) (by simp only [picked,nth];exact rfl) ?_
  refine zg9 ?_
  refine Ops.call (slot_spec xb node life m hn1 hn2) rfl zp1 rfl rfl rfl (fun v A' hR=>?_)
  obtain ⟨rfl,rfl⟩:=hR
  skip
  refine Ops.call (Se.answer_fun tb sv rs G (node - 2) (encF m1).1 hO hI) rfl (noPd rfl) rfl rfl rfl (fun v A' hR=>?_)
  obtain ⟨⟨e,rfl⟩,G1,rfl,hO1⟩:=hR
  refine zg5 ?_
  exact Cd.ret (ret1 (A':=CoB xb lb tb cb mb db wb sb c tv1 dead :: (Se.TabB tb sv G1 ++ X)) rfl (Res.tmp rfl) (fun _ h=>h.split) ⟨m1,tv1,X,G1,rfl,rfl,hO1,hM⟩)
def mkR (every:Int) (w:Wl) (x:Dk) (s:StP) (l:List Ch):Wl × Dk:=if l = [] then (w,x) else mkW every w x (bytesS s) (encodeF l).1
theorem mkR_some {every:Int} {w:Wl} {x:Dk} {s:StP} {l:List Ch} (h:l ≠ []):mkR every w x s l = mkW every w x (bytesS s) (encodeF l).1:=if_neg h
theorem makes_any (B0:Base) (xb lb tb cb mb db wb sb:Nat) (c:Cf) (hc:CfOk c) (dead:Bool) (w:Wl) (x:Dk) (len:Nat) (lg:LgOk w x len) (hroom:20480 ≤ roomF len) (hnum:w.h.number + 2 < 1099511627776) (k:Nat) (D:List Blk) (hD:DkA db x k D) (hk:k ≤ 700000000000) (s:StP) (SD:List Blk) (hS:StA sb s SD) (ok:StOk s) (bd:StBd s) (tv:Value) (tl:List Cg) (TG:List Blk) (hT:OwnC tv tl TG) (htl:tl.length ≤ 1000000000)
  (a:Option Addr) (cp:Nat) (l:List Cg) (LB:List Blk) (hC:∀ B1,Ext B0 B1 → Holds B1 LB → CIn B1 a l) (hl:l.length ≤ 2000000) (henc:l ≠ [] → (encodeF (l.map Cg.c)).2 = 0) :
  ConB Tryz.prog B0 45 #[ptr xb,.slice a l.length cp] (CoB xb lb tb cb mb db wb sb c tv dead :: WlB wb db w :: (SD ++ (D ++ (TG ++ LB))))
   fun v A=>∃ SD1 D1 tv1 TG1 k1,A = CoB xb lb tb cb mb db wb sb c tv1 dead :: WlB wb db (mkR c.every w x s (l.map Cg.c)).1 :: (SD1 ++ (D1 ++ (TG1 ++ LB))) ∧ StA sb (applyF s (l.map Cg.c)).2 SD1 ∧ DkA db (mkR c.every w x s (l.map Cg.c)).2 k1 D1 ∧ k1 ≤ k + 20000 ∧ OwnC tv1 (tl ++ l) TG1:=by
 by_cases h0:l = []
 ·subst h0
  refine ((makes_nil B0 xb a cp).beside (F:=CoB xb lb tb cb mb db wb sb c tv dead :: WlB wb db w :: (SD ++ (D ++ (TG ++ LB))))).mono fun v A hR=>?_
  obtain ⟨A',rfl,rfl⟩:=hR
  exact ⟨SD,D,tv,TG,k,rfl,hS,hD,by omega,by rw [List.append_nil];exact hT⟩
 ·have hm:l.map Cg.c ≠ []:=fun q=>h0 (List.map_eq_nil_iff.1 q)
  rw [mkR_some hm]
  exact makes_lent B0 xb lb tb cb mb db wb sb c hc dead w x len lg hroom hnum k D hD hk s SD hS ok bd tv tl TG hT htl a cp l LB hC (List.length_pos_iff.2 h0) hl (henc h0)
theorem resL_bare (rs:Int):∀ g ∈ resL rs,Bare g:=fun g hg=>by
 unfold resL at hg
 split at hg
 ·cases hg
 ·rw [List.mem_singleton] at hg
  subst hg
  exact ⟨rfl,rfl,by show (0:Int) ≤ 0 ∧ (0:Int) < _;omega⟩
@[reducible] def welM (session:Int):Ms:=⟨7,session,0,0,0,0,0,0,0,⟨#[]⟩,⟨#[]⟩⟩
theorem welM_ok (s:Int):MsOk (welM s):=⟨Nat.zero_le _,Nat.zero_le _,by show (0:Int) ≤ 0 ∧ (0:Int) < _;omega⟩
theorem hello_old (xb lb tb cb mb db wb sb:Nat) (c:Cf) (tv:Value) (dead:Bool) (node life:Int) (hn1:2 ≤ node) (hn2:node ≤ 9) (m:Ms) (sv:Value) (rs:List Se.Dk) (G:List Blk) (hO:Se.OwnK sv rs G)
  (what se:Int) (hw:Se.helloV (Se.rowAt rs (node - 2)) life = (what,se)) (h2:what ≠ 2) :
  Con Tryz.prog 91 #[.agg (heV xb node life m).toArray] (CoB xb lb tb cb mb db wb sb c tv dead :: Se.TabB tb sv G)
   fun v A=>v = .string (if what = 0 then ⟨#[]⟩ else (encF (welM se)).1) ∧ A = CoB xb lb tb cb mb db wb sb c tv dead :: Se.TabB tb sv G:=by
 refine Con.intro (vs:=[_]) Tryz.func91 rfl Tryz.ntmps91 rfl (fun B=>?_)
 repeat' (first|refine Cd.seq ?_|refine Cd.reg ?_|refine Ops.asg rfl rfl rfl rfl ?_|refine Ops.box rfl rfl rfl rfl (noPd rfl) (fun b=>?_))
 rename Nat=>hb
 refine Cd.draw [(0,0,[]),(1,1,[]),(2,0,[]),(3,0,[]),(4,0,[]),(5,1,[]),(6,1,[]),(8,0,[]),(9,0,[]),(10,1,[]),(7,2,[1,5,10]),(11,2,[]),(12,0,[]),(13,0,[]),(14,0,[]),(15,0,[]),(16,0,[])] (by kernel_rfl) (by kernel_rfl) (by simp only [picked,nth];exact rfl) ?_
 refine zg9 ?_
 refine Ops.call (slot_spec xb node life m hn1 hn2) rfl zp1 rfl rfl rfl (fun v A' hR=>?_)
 obtain ⟨rfl,rfl⟩:=hR
 skip
 refine Ops.call (Se.hello_fun tb sv rs G (node - 2) life hO) rfl (noPd rfl) rfl rfl rfl (fun v A' hR=>?_)
 rw [hw] at hR
 obtain ⟨rfl,rfl⟩:=hR
 dsimp only
 by_cases h0:what = 0
 ·rw [if_pos h0]
  refine zg24 ?_
  skip
  exact ze61
 ·rw [if_neg h0]
  refine zg17 ?_
  skip
  refine Ops.call (told_spec (welM se) (welM_ok _)) rfl (noPd rfl) rfl rfl rfl (fun v A' hR=>?_)
  obtain ⟨rfl,rfl⟩:=hR
  refine zg1 ?_
  exact ze61
theorem hello_fresh (B0:Base) (xb lb tb cb mb db wb sb:Nat) (c:Cf) (hc:CfOk c) (dead:Bool) (w:Wl) (x:Dk) (len:Nat) (lg:LgOk w x len) (hroom:20480 ≤ roomF len) (hnum:w.h.number + 2 < 1099511627776) (k:Nat) (D:List Blk) (hD:DkA db x k D) (hk:k ≤ 700000000000) (s:StP) (SD:List Blk) (hS:StA sb s SD) (ok:StOk s) (bd:StBd s) (tv:Value) (tl:List Cg) (TG:List Blk) (hT:OwnC tv tl TG) (htl:tl.length ≤ 1000000000)
  (node life:Int) (hn1:2 ≤ node) (hn2:node ≤ 9) (m:Ms) (sv:Value) (rs:List Se.Dk) (G:List Blk) (hO:Se.OwnK sv rs G) (se:Int) (hw:Se.helloV (Se.rowAt rs (node - 2)) life = (2,se))
  (la re bg r la1 re1:Int) (h0:0 ≤ re) (h1:re ≤ 1099511627776) (h2:0 ≤ la) (hn:nextB c.block la re = ((bg,r,0),la1,re1)) (henc:resL r ≠ [] → (encodeF ((resL r).map Cg.c)).2 = 0) :
  ConB Tryz.prog B0 91 #[.agg (heV xb node life m).toArray] (CoB xb lb tb cb mb db wb sb c tv dead :: (Se.TabB tb sv G ++ (CtB cb c.block la re :: WlB wb db w :: (SD ++ (D ++ TG)))))
   fun v A=>v = .string (encF (welM bg)).1 ∧ ∃ SD1 D1 tv1 TG1 G1 k1,A = CoB xb lb tb cb mb db wb sb c tv1 dead :: (Se.TabB tb sv G1 ++ (CtB cb c.block la1 re1 :: WlB wb db (mkR c.every w x s ((resL r).map Cg.c)).1 :: (SD1 ++ (D1 ++ TG1)))) ∧ StA sb (applyF s ((resL r).map Cg.c)).2 SD1 ∧ DkA db (mkR c.every w x s ((resL r).map Cg.c)).2 k1 D1 ∧ k1 ≤ k + 20000 ∧ OwnC tv1 (tl ++ resL r) TG1 ∧ Se.OwnK sv (Se.putRow rs (node - 2) (Se.openV (Se.rowAt rs (node - 2)) (node - 2) life bg)) G1:=by
 refine ConB.intro (vs:=[_]) Tryz.func91 rfl Tryz.ntmps91 rfl (fun B hB=>?_)
 repeat' (first|refine Cd.seq ?_|refine Cd.reg ?_|refine Ops.asg rfl rfl rfl rfl ?_|refine Ops.box rfl rfl rfl rfl (noPd rfl) (fun b=>?_))
 rename Nat=>hb
 refine Cd.draw [(0,0,[]),(1,1,[]),(2,0,[]),(3,0,[]),(4,0,[]),(5,1,[]),(6,1,[]),(8,0,[]),(9,0,[]),(10,1,[]),(7,2,[1,5,10]),(11,2,[]),(12,0,[]),(13,0,[]),(14,0,[]),(15,0,[]),(16,0,[])] (by kernel_rfl) (by kernel_rfl) (by simp only [picked,nth];exact rfl) ?_
 refine zg9 ?_
 refine Ops.call (slot_spec xb node life m hn1 hn2) rfl zp1 rfl rfl rfl (fun v A' hR=>?_)
 obtain ⟨rfl,rfl⟩:=hR
 skip
 refine Ops.call (Se.hello_fun tb sv rs G (node - 2) life hO) rfl (noPd rfl) rfl rfl rfl (fun v A' hR=>?_)
 rw [hw] at hR
 obtain ⟨rfl,rfl⟩:=hR
 dsimp only
 refine zg7 ?_
 skip
 refine Ops.call (draws_own xb lb tb cb mb db wb sb c hc tv dead la re bg r la1 re1 h0 h1 h2 hn) rfl (noPd rfl) rfl rfl rfl (fun v A' hR=>?_)
 obtain ⟨a,cp,LG,rfl,rfl,hOL⟩:=hR
 have hrl:(resL r).length ≤ 1:=by unfold resL;split <;> simp
 have hmk:=makes_any B0 xb lb tb cb mb db wb sb c hc dead w x len lg hroom hnum k D hD hk s SD hS ok bd tv tl TG hT htl a cp (resL r) LG (fun B1 e hG=>OwnC.cin hOL (resL_bare r) hG) (by omega) henc
 generalize resL r = rl at hmk hOL hrl ⊢
 refine zg7 ?_
 refine Ops.callB hmk hB rfl (noPd rfl) rfl rfl rfl (fun v A' hR=>?_)
 obtain ⟨SD1,D1,tv1,TG1,k1,rfl,hS1,hD1,hk1,hT1⟩:=hR
 clear hmk
 refine zg0 ?_
 refine Cd.draw [(0,0,[]),(1,1,[]),(2,0,[]),(3,0,[]),(4,0,[]),(5,1,[]),(6,1,[]),(8,0,[]),(9,0,[]),(10,1,[]),(11,0,[]),(7,2,[1,5,10]),(12,2,[])] (by kernel_rfl) (by kernel_rfl) (by simp only [picked,nth];exact rfl) ?_
 refine zg9 ?_
 refine Ops.call (slot_spec xb node life m hn1 hn2) rfl zp1 rfl rfl rfl (fun v A' hR=>?_)
 obtain ⟨rfl,rfl⟩:=hR
 skip
 refine Ops.call (Se.open_fun tb sv rs G (node - 2) life bg hO) rfl (noPd rfl) rfl rfl rfl (fun v A' hR=>?_)
 obtain ⟨⟨er,rfl⟩,G1,rfl,hO1⟩:=hR
 refine zg8 ?_
 refine Ops.call (told_spec (welM bg) (welM_ok _)) rfl (noPd rfl) rfl rfl rfl (fun v A' hR=>?_)
 obtain ⟨rfl,rfl⟩:=hR
 refine zg1 ?_
 exact Cd.ret (ret1 (A':=CoB xb lb tb cb mb db wb sb c tv1 dead :: (Se.TabB tb sv G1 ++ (CtB cb c.block la1 re1 :: WlB wb db (mkR c.every w x s (rl.map Cg.c)).1 :: (SD1 ++ (D1 ++ TG1))))) rfl (Res.tmp rfl) (fun _ h=>h.split) ⟨rfl,SD1,D1,tv1,TG1,G1,k1,rfl,hS1,hD1,hk1,hT1,hO1⟩)
theorem caught1_ret (B0:Base) (bx eb:Nat):DCon Tryz.prog B0 85 #[ptr bx,ptr eb] .returning [] fun u' A=>u' = .returning ∧ A = []:=by
 refine DCon.intro (vs:=[_,_]) Tryz.func85 rfl Tryz.ntmps85 rfl (fun B c₀ cs hx hu=>?_)
 have hrec:recoverD (c₀ :: cs) = none:=by simp [recoverD,hu]
 have hc0:c₀ = { c₀ with mode:=.returning }:=by rw [← hu]
 refine CdS.seq ?_
 refine CdS.rec_no rfl hrec rfl rfl ?_
 refine Ops.nilN (CdS.next ?_)
 refine CdS.of rfl ?_
 rw [hc0]
 haveI:=(⟨Tryz.underlying20⟩:TyD Tryz.prog 20 _)
 refine zg3 ?_
 refine Ops.eqIfaceNil ⟨_,rfl⟩ rfl rfl rfl rfl ?_
 refine zg15 ?_
 exact Ops.nilN (inB (endS (A':=[]) rfl (fun _ h=>h.split) ⟨rfl,rfl⟩))
theorem caught_calm (B0:Base) (xb lb tb cb mb db wb sb:Nat) (c:Cf) (tv:Value) (x:Dk) (k:Nat) (D:List Blk) (hD:DkA db x k D) (hde:x.de = false) (F:List Blk) (f:FuncId) (ca:List Value) [FnOk Tryz.prog f] (R:Value → List Blk → Prop)
  (hdo:ConB Tryz.prog B0 f ca.toArray (CoB xb lb tb cb mb db wb sb c tv false :: (D ++ F)) R) :
  ConB Tryz.prog B0 37 #[ptr xb,.func (.func f) #[] ca.toArray] (CoB xb lb tb cb mb db wb sb c tv false :: (D ++ F)) fun v A=>v = .int .i64 0 ∧ ∃ v0,R v0 A:=by
 refine ConX.calm (X:=fun _ _=>False) (ConX.intro (vs:=[_,_]) Tryz.func37 rfl Tryz.ntmps37 rfl (fun B hB=>?_)) (fun _ _ h=>h)
 repeat' (first|refine Cd.seq ?_|refine Cd.reg ?_|refine Ops.ld1 rfl rfl rfl rfl rfl ?_|refine Ops.box rfl rfl rfl rfl (noPd rfl) (fun b=>?_)|refine Ops.alloc rfl rfl rfl (noPd rfl) (fun b=>?_))
 rename_i bx
 rename Nat=>eb
 refine Ops.call (lives_spec xb lb tb cb mb db wb sb c tv false x k D hD) rfl (noPd rfl) rfl rfl rfl (fun v A' hR=>?_)
 rw [hde,Bool.or_self] at hR
 obtain ⟨rfl,rfl⟩:=hR
 refine zg6 ?_
 refine Ops.dfr (fi:=[]) (ca:=[ptr bx,ptr eb]) (vs:=[]) rfl rfl rfl rfl ?_
 refine zg0 ?_
 refine Ops.callVB (fi:=[]) (ca:=ca) (vs:=[]) hdo hB rfl (noPd rfl) rfl rfl rfl rfl (fun v A' hR=>?_)
 rename Value=>v0
 refine zg26 ?_
 refine Cd.ret (leaveD_ret (caught1_ret B0 bx eb) hB (fun u' A2 hR2=>?_))
 obtain ⟨rfl,rfl⟩:=hR2
 exact .inl ⟨rfl,retX (ret1 (A':=A') rfl (Res.cell1 rfl rfl) (fun _ h=>h.split) ⟨rfl,v0,hR⟩)⟩
end Go.Proofs.YtaecdnfkcebbeaaGreat
