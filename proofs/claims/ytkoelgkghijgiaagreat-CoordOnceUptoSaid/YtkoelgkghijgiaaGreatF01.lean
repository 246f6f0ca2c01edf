import Derived.Test.YtkoelgkghijgiaaGreatA01
import Derived.Test.YtkoelgkghijgiaaGreatA04
import Derived.Test.YtkoelgkghijgiaaGreatD01
import Derived.Test.YtkoelgkghijgiaaGreatB01
import Derived.Test.YtkoelgkghijgiaaGreatA16
import Derived.Test.YtkoelgkghijgiaaGreatA17
import Derived.Test.YtkoelgkghijgiaaGreatRows
import Derived.WalkKit
import Derived.ProofKit
import Derived.OpenShut
import Derived.ShutString
import Derived.ChangeOld
import Derived.Below
import Derived.JoinedCond
import Derived.Lib.SmallJoins
set_option linter.unusedVariables false
set_option linter.unusedSimpArgs false
namespace Go.Proofs.YtkoelgkghijgiaaGreat.Sw
open Go Go.Sep Go.Proofs
set_option maxRecDepth 10000
theorem takeF_twice {win:Nat} {s:Sp} (h:SpOk win s) (i:Int) (t x:ByteArray) (hx:x.size ≤ 32) (hne:(takeF win s i t).1 ≠ 152) :
  (takeF win (takeF win s i t).2.2 i x).2.1 = [] ∧ (takeF win (takeF win s i t).2.2 i x).2.2.hb = (takeF win s i t).2.2.hb ∧ (takeF win (takeF win s i t).2.2 i x).2.2.nx = (takeF win s i t).2.2.nx ∧
   ((takeF win (takeF win s i t).2.2 i x).1 = 0 → (takeF win s i t).1 = 0 ∧ (takeF win s i t).2.1 = []):=by
 by_cases h1:32 < t.size
 ·exfalso;apply hne;unfold takeF;rw [if_pos h1]
 by_cases h2:i < s.nx ∨ (s.nx:Int) + win ≤ i ∨ 32 ≤ i
 ·have e:takeF win s i t = (151,[],s):=by unfold takeF;rw [if_neg h1,if_pos h2]
  have e':takeF win s i x = (151,[],s):=by unfold takeF;rw [if_neg (by omega),if_pos h2]
  rw [e]
  show (takeF win s i x).2.1 = [] ∧ (takeF win s i x).2.2.hb = s.hb ∧ (takeF win s i x).2.2.nx = s.nx ∧ ((takeF win s i x).1 = 0 → _)
  rw [e']
  exact ⟨rfl,rfl,rfl,fun h=>by cases h⟩
 ·have hl:=h.hl
  have hn:=h.n
  have hkl:i.toNat < s.hb.length:=by omega
  by_cases h3:i.toNat = s.nx
  ·
   have hg:=takeF_grow h i t
   have hpos:0 < (takeF win s i t).2.1.length:=by
    unfold takeF
    rw [if_neg h1,if_neg h2]
    show 0 < (drained _ _ _).1.length
    have hy:(s.hb.set i.toNat true)[s.nx]? = some true:=by rw [← h3,List.getElem?_set_self hkl]
    have htl:s.nx < (if s.hb[i.toNat]? = some true then s.tx else s.tx.set i.toNat t).length:=by
     have:=h.tl
     split
     ·omega
     ·rw [List.length_set];omega
    rw [drained_go (t:=(if s.hb[i.toNat]? = some true then s.tx else s.tx.set i.toNat t)[s.nx]) (by omega) hy (List.getElem?_eq_getElem htl)]
    exact Nat.succ_pos _
   generalize (takeF win s i t).2.2 = s' at hg ⊢
   have h4:takeF win s' i x = (151,[],s'):=by
    unfold takeF
    rw [if_neg (by omega),if_pos (.inl (by omega))]
   rw [h4]
   exact ⟨rfl,rfl,rfl,fun h=>by cases h⟩
  ·have hst:(s.hb.set i.toNat true)[s.nx]? ≠ some true:=by rw [List.getElem?_set_ne h3];exact h.free
   have e:takeF win s i t = (0,[],⟨s.nx,s.hb.set i.toNat true,if s.hb[i.toNat]? = some true then s.tx else s.tx.set i.toNat t⟩):=by
    unfold takeF
    rw [if_neg h1,if_neg h2,drained_stop hst]
   have hset:(s.hb.set i.toNat true).set i.toNat true = s.hb.set i.toNat true:=by rw [List.set_set]
   have e':∀ tx,∃ tx',takeF win ⟨s.nx,s.hb.set i.toNat true,tx⟩ i x = (0,[],⟨s.nx,s.hb.set i.toNat true,tx'⟩):=fun tx=>by
    unfold takeF
    rw [if_neg (by omega),if_neg h2]
    simp only [hset]
    rw [drained_stop hst]
    exact ⟨_,rfl⟩
   rw [e]
   obtain ⟨tx',e'⟩:=e' (if s.hb[i.toNat]? = some true then s.tx else s.tx.set i.toNat t)
   show (takeF win ⟨_,_,_⟩ i x).2.1 = [] ∧ (takeF win ⟨_,_,_⟩ i x).2.2.hb = _ ∧ (takeF win ⟨_,_,_⟩ i x).2.2.nx = _ ∧ ((takeF win ⟨_,_,_⟩ i x).1 = 0 → _)
   rw [e']
   exact ⟨rfl,rfl,rfl,fun _=>⟨rfl,rfl⟩⟩
theorem takeF_again {win:Nat} {s:Sp} (h:SpOk win s) (i:Int) (t:ByteArray):(takeF win (takeF win s i t).2.2 i t).2.1 = []:=by
 by_cases h1:32 < t.size
 ·have e:∀ s:Sp,takeF win s i t = (152,[],s):=fun s=>by unfold takeF;rw [if_pos h1]
  rw [e]
 ·have hne:(takeF win s i t).1 ≠ 152:=by
   unfold takeF
   rw [if_neg h1]
   split
   ·show (151:Int) ≠ 152;decide
   ·show (0:Int) ≠ 152;decide
  exact (takeF_twice h i t t (by omega) hne).1
end Go.Proofs.YtkoelgkghijgiaaGreat.Sw
namespace Go.Proofs.YtkoelgkghijgiaaGreat.Se
open Go Go.Sep Go.Proofs
theorem hello_again {rs:List Dk} {slot life session:Int} (h:(helloV (rowAt rs slot) life).1 = 2) (hs:cntB session = true) :
  helloV (rowAt (putRow rs slot (openV (rowAt rs slot) slot life session)) slot) life = (1,session):=by
 cases hr:rowAt rs slot with
 | none=>rw [hr] at h;cases h
 | some r =>
  rw [hr] at h
  unfold helloV at h
  dsimp only at h
  split at h
  ·rename_i hc
   split at h
   ·cases h
   ·rename_i hl
    split at h
    ·cases h
    ·have e:openV (some r) slot life session = some ⟨slot,life,session,0,⟨#[]⟩⟩:=by
      unfold openV
      dsimp only
      rw [if_pos ⟨hc,hs,by omega⟩]
     rw [e,rowAt_put hr]
     unfold helloV
     dsimp only
     rw [if_pos hc,if_neg (by omega),if_pos rfl]
  ·cases h
theorem ask_again {rs:List Dk} {slot life session number:Int} {reply:ByteArray} (h:(askV (rowAt rs slot) life session number).1 = 3) (hn:number ≤ 1099511627776) :
  askV (rowAt (putRow rs slot (answerV (rowAt rs slot) reply)) slot) life session number = (2,reply):=by
 cases hr:rowAt rs slot with
 | none=>rw [hr] at h;cases h
 | some r =>
  rw [hr] at h
  unfold askV at h
  dsimp only at h
  split at h
  ·cases h
  ·rename_i hl
   split at h
   ·cases h
   ·rename_i h1
    split at h
    ·cases h
    ·split at h
     ·rename_i h2
      have e:answerV (some r) reply = some { r with last:=r.last + 1,reply:=reply }:=by
       unfold answerV
       dsimp only
       rw [if_pos ⟨fun q=>hl (.inl q),by omega⟩]
      rw [e,rowAt_put hr]
      unfold askV
      dsimp only
      rw [if_neg hl,if_neg h1,if_pos h2]
     ·cases h
end Go.Proofs.YtkoelgkghijgiaaGreat.Se
namespace Go.Proofs.YtkoelgkghijgiaaGreat
open Go Go.Sep Go.Proofs
set_option maxRecDepth 10000
theorem req_number {m:Ms} (h:wcheckF m = 0) (hk:m.kind = 2 ∨ m.kind = 3 ∨ m.kind = 4):m.number ≤ 1099511627776:=by
 have:=check_may h fN (by rcases hk with e|e|e <;> rw [e] <;> simp [fieldsF])
 have:=of_decide_eq_true this
 exact this.2
def Alike (o o1:Co):Prop:=o1.q.st = o.q.st ∧ o1.rs = o.rs ∧ o1.q.ls = o.q.ls
theorem Alike.rfl_ (o:Co):Alike o o:=⟨rfl,rfl,rfl⟩
theorem place_logs {s:StP} (ok:StOk s) {b:Int} {i:Nat} {r:Rw} (hl:lastAt s.rows b = some i) (hr:s.rows[i]? = some r) (t:List ByteArray) :
  ∃ p,placeF s b = some (r,p,s.logs.getD i []) ∧ placeF { s with logs:=s.logs.set i t } b = some (r,p,t):=by
 have hi:=(List.getElem?_eq_some_iff.1 hr).1
 obtain ⟨p,hp⟩:∃ p,s.progs[i]? = some p:=⟨_,List.getElem?_eq_getElem (by rw [ok.np];exact hi)⟩
 obtain ⟨g,hg⟩:∃ g,s.logs[i]? = some g:=⟨_,List.getElem?_eq_getElem (by rw [ok.nl];exact hi)⟩
 refine ⟨p,?_,?_⟩
 ·unfold placeF
  rw [hl]
  show (viewL s)[i]? = _
  simp [viewL,List.getElem?_zip_eq_some,hr,hp,hg]
 ·unfold placeF
  show ((lastAt s.rows b).bind _) = _
  rw [hl]
  show (s.rows.zip (s.progs.zip (s.logs.set i t)))[i]? = _
  have hs:(s.logs.set i t)[i]? = some t:=List.getElem?_set_self (by rw [ok.nl];exact hi)
  simp [List.getElem?_zip_eq_some,hr,hp,hs]
theorem log_alike {c:Cf} {q:Cq} (h:CqOk c q) {b node life:Int} (hh:heldF q.st b node life = true) {l:List ByteArray} {st:StP} (hs:applyF q.st [logC b l] = ((0,0),st)) :
  heldF st b node life = true ∧ jobF st b = jobF q.st b ∧ logF st b = logF q.st b ++ l:=by
 obtain ⟨i,r,hl,hr,h2,hb,h0,hno,hli,hj,hlg⟩:=held_row h.ok hh
 have e:st = { q.st with logs:=q.st.logs.set i (q.st.logs.getD i [] ++ l) }:=by
  have hs':applyG q.st q.st 0 [logC b l] = ((0,0),st):=hs
  rw [applyG] at hs'
  split at hs'
  ·injection hs' with a1 _;injection a1 with _ a2;cases a2
  ·have hst:∀ x,stepF q.st (logC b l) = some x → x = { q.st with logs:=q.st.logs.set i (q.st.logs.getD i [] ++ l) }:=fun x hx=>by
    unfold stepF at hx
    rw [if_neg (by show ¬ ((4:Int) = 1);decide),if_neg (by show ¬ ((4:Int) = 2);decide),if_neg (by show ¬ ((4:Int) = 3);decide),if_pos (by rfl)] at hx
    have hx2:(match lastAt q.st.rows b with|none=>none|some i=>if (q.st.rows.getD i ⟨0,0,0,0,0,0,0,0⟩).status ≠ 2 ∨ 32 < (q.st.logs.getD i []).length + l.length then none else some { q.st with logs:=q.st.logs.set i (q.st.logs.getD i [] ++ l) }) = some x:=hx
    rw [hl] at hx2
    dsimp only at hx2
    split at hx2
    ·cases hx2
    ·injection hx2 with hx2;exact hx2.symm
   cases hx:stepF q.st (logC b l) with
   | none=>rw [hx] at hs';injection hs' with a1 _;injection a1 with _ a2;cases a2
   | some x =>
    rw [hx] at hs'
    dsimp only at hs'
    rw [applyG] at hs'
    injection hs' with _ hs'
    rw [← hs',hst x hx]
 subst e
 obtain ⟨p,p1,p2⟩:=place_logs h.ok hl hr (q.st.logs.getD i [] ++ l)
 refine ⟨?_,?_,?_⟩
 ·unfold heldF at hh ⊢
  rw [p1] at hh
  rw [p2]
  exact hh
 ·unfold jobF;rw [p1,p2]
 ·unfold logF;rw [p1,p2]
theorem hear_again {c:Cf} {len n:Nat} {o o1 o2:Co} (h:CoOk c len n o) (hc:CfOk c) (hn:n ≤ 2000000) {node life:Int} {data rp rp2:ByteArray} (h1:HearR c o node life data rp o1) (h2:HearR c o1 node life data rp2 o2):rp2 = rp ∧ Alike o1 o2:=by
 unfold HearR at h1 h2
 by_cases hq:(decF data).2 ≠ 0 ∨ runB c node life = false ∨ ¬ (1 ≤ (decF data).1.kind ∧ (decF data).1.kind ≤ 5)
 ·rw [if_pos hq] at h1 h2
  obtain ⟨rfl,rfl⟩:=h1
  obtain ⟨rfl,rfl⟩:=h2
  exact ⟨rfl,Alike.rfl_ _⟩
 rw [if_neg hq] at h1 h2
 by_cases hk1:(decF data).1.kind = 1
 ·rw [if_pos hk1] at h1 h2
  obtain ⟨rfl,rfl⟩:=h1
  obtain ⟨rfl,rfl⟩:=h2
  by_cases hh:(Se.helloV (Se.rowAt o.rs (node - 2)) life).1 = 2
  ·have hl:=h.ln
   have hl0:=h.cq.l0
   have ha:=Se.hello_again (session:=o.q.la + 1) hh (decide_eq_true (by omega))
   have e1:helloO c o node life = ((encF (welM (o.q.la + 1))).1,o.mk_ c ((resL (resOf c o.q)).map Cg.c) o.q.ls (o.q.la + 1) o.q.ws (Se.putRow o.rs (node - 2) (Se.openV (Se.rowAt o.rs (node - 2)) (node - 2) life (o.q.la + 1)))):=if_pos hh
   rw [e1]
   generalize hm:o.mk_ c ((resL (resOf c o.q)).map Cg.c) o.q.ls (o.q.la + 1) o.q.ws (Se.putRow o.rs (node - 2) (Se.openV (Se.rowAt o.rs (node - 2)) (node - 2) life (o.q.la + 1))) = m1
   have hr:m1.rs = Se.putRow o.rs (node - 2) (Se.openV (Se.rowAt o.rs (node - 2)) (node - 2) life (o.q.la + 1)):=by rw [← hm];rfl
   have e2:helloO c m1 node life = ((encF (welM (o.q.la + 1))).1,m1):=by
    unfold helloO
    rw [hr,ha,if_neg (by show ¬ ((1:Int) = 2);decide),if_neg (by show ¬ ((1:Int) = 0);decide)]
   dsimp only
   rw [e2]
   exact ⟨rfl,Alike.rfl_ _⟩
  ·have e1:∃ b,helloO c o node life = (b,o):=⟨_,if_neg hh⟩
   obtain ⟨b,e1⟩:=e1
   rw [e1]
   dsimp only
   rw [e1]
   exact ⟨rfl,Alike.rfl_ _⟩
 rw [if_neg hk1] at h1 h2
 have hdec:decF data = ((decF data).1,0):=Prod.ext rfl (Decidable.by_contra fun q=>hq (.inl q))
 obtain ⟨g1,g2⟩:=dec_good hdec
 by_cases hk5:(decF data).1.kind = 5
 ·rw [if_pos hk5] at h1 h2
  generalize (decF data).1 = m at h1 h2
  rcases h1 with ⟨hh,rfl,rfl⟩|⟨hh,sp,te,l,sp1,hm,hnx,htk,rfl,rfl⟩
  ·rcases h2 with ⟨_,rfl,rfl⟩|⟨hh2,_⟩
   ·exact ⟨rfl,Alike.rfl_ _⟩
   ·rw [hh] at hh2;cases hh2
  ·obtain ⟨w1,w2⟩:=h.cq.win _ hm
   have hag:=Sw.takeF_again w1 m.index m.text
   rw [htk] at hag
   dsimp only at hag
   obtain ⟨k1,k2⟩:=h.cq.chunk hc hh w1 w2 hnx htk
   have hst:∃ st,applyF o.q.st (if l = [] then [] else [logC m.badge l]) = ((0,0),st) ∧ heldF st m.badge node life = true ∧ jobF st m.badge = jobF o.q.st m.badge ∧ logF st m.badge = logF o.q.st m.badge ++ l:=by
    by_cases hl:l = []
    ·rw [if_pos hl,hl]
     exact ⟨o.q.st,rfl,hh,rfl,(List.append_nil _).symm⟩
    ·rw [if_neg hl]
     obtain ⟨_,st,hs,_⟩:=k2 hl
     exact ⟨st,hs,log_alike h.cq hh hs⟩
   obtain ⟨st,hs,q1,q2,q3⟩:=hst
   generalize hm1:o.mk_ c (if l = [] then [] else [logC m.badge l]) o.q.ls o.q.la ((jobF o.q.st m.badge,sp1) :: wsDel o.q.ws (jobF o.q.st m.badge)) o.rs = m1 at h2
   have es:m1.q.st = st:=by rw [← hm1];show (applyF _ _).2 = _;rw [hs]
   have ew:m1.q.ws = (jobF o.q.st m.badge,sp1) :: wsDel o.q.ws (jobF o.q.st m.badge):=by rw [← hm1];rfl
   rcases h2 with ⟨hh2,_⟩|⟨hh2,sp',te',l',sp1',hm',hnx',htk',rfl,rfl⟩
   ·rw [es,q1] at hh2;cases hh2
   ·rw [es,q2,ew] at hm'
    have e3:sp' = sp1:=by
     rcases List.mem_cons.1 hm' with e|e
     ·injection e
     ·exact absurd rfl (wsDel_mem.1 e).2
    subst e3
    rw [htk'] at hag
    dsimp only at hag
    subst hag
    rw [es,q3]
    refine ⟨by rw [List.length_append,List.length_nil];push_cast;rw [Int.add_zero],?_,rfl,rfl⟩
    show (applyF m1.q.st []).2 = m1.q.st
    rfl
 ·rw [if_neg hk5] at h1 h2
  have hnum:(decF data).1.number ≤ 1099511627776:=req_number g2 (by have q3:1 ≤ (decF data).1.kind ∧ (decF data).1.kind ≤ 5:=Decidable.by_contra (fun q=>hq (.inr (.inr q)));omega)
  generalize (decF data).1 = m at h1 h2 hnum
  rcases h1 with ⟨ha,rfl,rfl⟩|⟨ha,m1,o3,hmid,rfl,rfl⟩
  ·rcases h2 with ⟨_,rfl,rfl⟩|⟨ha2,_⟩
   ·exact ⟨rfl,Alike.rfl_ _⟩
   ·exact absurd ha2 ha
  ·have hag:=Se.ask_again (reply:=(encF m1).1) ha hnum
   rcases h2 with ⟨_,rfl,rfl⟩|⟨ha2,_⟩
   ·dsimp only
    rw [hag]
    exact ⟨rfl,Alike.rfl_ _⟩
   ·dsimp only at ha2
    rw [hag] at ha2
    cases ha2
end Go.Proofs.YtkoelgkghijgiaaGreat
namespace Go.Proofs.YtkoelgkghijgiaaGreat
open Go Go.Sep Go.Proofs Go.Proofs.Tryz
set_option maxRecDepth 10000
set_option maxHeartbeats 40000000
set_option synthInstance.maxSize 2000
theorem samesaid_spec (node life:Int) (reply:ByteArray) (v1 v2:Value) (J1 J2:List Blk) (h1:SaidR node life reply v1 J1) (h2:SaidR node life reply v2 J2) :
  Con prog 20 #[v1,v2] (J1 ++ J2) fun v A=>v = .bool true ∧ A = J1 ++ J2:=by
 refine zqI (vs:=[_,_]) func20 ntmps20 fun B=>?_
 rcases h1 with ⟨hr,rfl,rfl⟩|⟨hr,g1,rfl,rfl⟩
 ·rcases h2 with ⟨_,rfl,rfl⟩|⟨hr2,_⟩
  ·refine zg4 ?_
   refine Cd.loopK (σ:=Unit) (fun _=>True) (fun _=>[(0,.slice none 0 0),(1,.slice none 0 0),(5,.int .i64 0)]) (fun _=>[]) (fun _=>0) () trivial ⟨rfl,rfl,rfl,trivial⟩ (fun w h=>h.split) (fun _ _=>?_)
   refine zg7 ?_
   exact Cd.ret (ret1 (A':=[]) rfl (Res.tmp rfl) (fun w h=>h.split) ⟨rfl,rfl⟩)
  ·exact absurd hr hr2
 ·rcases h2 with ⟨hr2,_⟩|⟨_,g2,rfl,rfl⟩
  ·exact absurd hr2 hr
  ·refine zg4 ?_
   have hk:RowsOk 6 [dgV 0 0 0 node life reply]:=fun r hr=>by
    rw [List.mem_singleton] at hr
    subst hr
    exact ⟨rfl,rfl⟩
   refine Cd.loopK (fun i:Nat=>i ≤ 1) (fun i=>[(0,.slice (some ⟨g1,0,none⟩) 1 1),(1,.slice (some ⟨g2,0,none⟩) 1 1),(5,.int .i64 i)]) (fun _=>[(g1,cl ([dgV 0 0 0 node life reply].flatten ++ []) 101),(g2,cl ([dgV 0 0 0 node life reply].flatten ++ []) 101)]) (fun i=>1 - i) 0 (Nat.zero_le _) ⟨rfl,rfl,rfl,trivial⟩ (fun w h=>(h.split:Sat _ [(g1,cl (dgV 0 0 0 node life reply) 101),(g2,cl (dgV 0 0 0 node life reply) 101)] w)) (fun i hi=>?_)
   by_cases hil:i < 1
   ·have hil':(i:Int) < (1:Nat):=by omega
    have hxr:[dgV 0 0 0 node life reply][(i:Int).toNat]? = some (dgV 0 0 0 node life reply):=by
     rw [show (i:Int).toNat = 0 from by omega];rfl
    refine zg2 ?_
    refine zdr [qz 0,qz 1,qz 2,qy 3,qz 4,qz 5,qz 6,qy 7,qz 8] ?_
    refine zg14 ?_
    exact Ops.nilN (round_end (i + 1:Nat) (by show i + 1 ≤ 1;omega) (by show 1 - (i + 1) < 1 - i;omega) ⟨rfl,rfl,rfl,trivial⟩ (fun w h=>h.split))
   ·have hil':¬ (i:Int) < (1:Nat):=by omega
    refine zg2 ?_
    exact Cd.ret (ret1 (A':=[(g1,cl (dgV 0 0 0 node life reply) 101),(g2,cl (dgV 0 0 0 node life reply) 101)]) rfl (Res.tmp rfl) (fun w h=>(h.split:Sat _ [(g1,cl ([dgV 0 0 0 node life reply].flatten ++ []) 101),(g2,cl ([dgV 0 0 0 node life reply].flatten ++ []) 101)] w)) ⟨rfl,rfl⟩)
structure OnS where
 i:Nat
 o:Co
 A:List Blk
structure OnI (c:Cf) (len0 xb db len:Nat) (t:OnS):Prop where
 i:t.i ≤ len
 o:CoOk c len0 (2 * t.i) t.o
 a:CoP xb db c (2 * t.i) t.o t.A
 r:t.o.rs.length ≤ 8
theorem same13_co (B0:Base) (v1 v2:Value) (o o1:Co) (h:Alike o o1) (G1 G2:List Blk) (h1:Se.OwnK v1 (o.rs.filter Se.liveB) G1) (h2:Se.OwnK v2 (o1.rs.filter Se.liveB) G2) (hl:o.rs.length ≤ 8) :
  ConB prog B0 18 #[v1,v2] (G1 ++ G2) fun v A=>v = .bool true ∧ A = G1 ++ G2:=by
 rw [h.2.1] at h2
 exact (Se.same13 v1 v2 _ G1 G2 h1 h2 (by have:=List.length_filter_le Se.liveB o.rs;omega)).toB
theorem same12_co (B0:Base) (v1 v2:Value) (c:Cf) (o o1:Co) (h:Alike o o1) (hk:Ls.LOk c.lease o.q.ls) (G1 G2:List Blk) (h1:Rs 71 5 v1 (o.q.ls.map Ls.LE.row) G1) (h2:Rs 71 5 v2 (o1.q.ls.map Ls.LE.row) G2) :
  ConB prog B0 19 #[v1,v2] (G1 ++ G2) fun v A=>v = .bool true ∧ A = G1 ++ G2:=by
 rw [h.2.2] at h2
 exact (Ls.same12 v1 v2 _ G1 G2 h1 h2 (by have:=hk.few;omega)).toB
theorem once_no (B0:Base) (c:Cf) (hc:¬ CfOk c) (sa:Option Addr) (len cap:Nat):ConB prog B0 3 #[.agg c.row.toArray,.slice sa len cap] [] fun v A=>v = .bool true ∧ A = []:=by
 refine zqJ (vs:=[_,_]) func3 ntmps3 fun B hB=>?_
 repeat' (first|refine zs1 ?_|refine Ops.box rfl rfl rfl rfl (noPd rfl) (fun b=>?_))
 refine zqA (begun_no c hc) fun v A' hR=>?_
 obtain ⟨rfl,rfl⟩:=hR
 refine zg4 ?_
 refine zqA (rcheck18_spec c) fun v A' hR=>?_
 obtain ⟨rfl,rfl⟩:=hR
 rw [show checkC c = 180 from if_neg hc]
 refine zg3 ?_
 refine zqB (fixed_spec B0) hB fun v A' hR=>?_
 obtain ⟨rfl,rfl⟩:=hR
 refine zg6 ?_
 exact ze9
theorem once_yes (B0:Base) (c:Cf) (hc:CfOk c) (sa:Option Addr) (len cap:Nat) (ops:List LOp) (hs:ScrIn B0 sa len ops) (hlen:len ≤ 131072):ConB prog B0 3 #[.agg c.row.toArray,.slice sa len cap] [] fun v A=>v = .bool true ∧ A = []:=by
 obtain ⟨q1,q2,q3,q4⟩:=lenC_room hc
 obtain ⟨hol,hops⟩:=hs
 refine zqJ (vs:=[_,_]) func3 ntmps3 fun B hB=>?_
 repeat' (first|refine zs1 ?_|refine Ops.box rfl rfl rfl rfl (noPd rfl) (fun b=>?_))
 rename Nat=>cb
 refine zqB (begun_yes B0 c hc) hB fun v A' hR=>?_
 obtain ⟨db,xb,rfl,hP⟩:=hR
 rename List Blk=>A0
 refine zg4 ?_
 refine Cd.loopK (OnI c (lenC c) xb db len) (fun t=>[(1,.slice sa len cap),(2,ptr cb),(6,ptr xb),(7,.int .i64 t.i)]) (fun t=>t.A) (fun t=>len - t.i) ⟨0,co0 c,A0⟩ ⟨Nat.zero_le _,co0_ok hc,hP,co0_rsl hc⟩ ⟨rfl,rfl,rfl,rfl,trivial⟩ (fun w h=>h.split) (fun t ht=>?_)
 clear hP A0
 obtain ⟨i,o,A⟩:=t
 obtain ⟨hi,hok,hA,hrl⟩:=ht
 dsimp only at hi hok hA hrl ⊢
 by_cases hil:i < len
 ·have hil':(i:Int) < len:=by omega
  obtain ⟨p,hp⟩:∃ p,ops[i]? = some p:=⟨_,List.getElem?_eq_getElem (by omega)⟩
  obtain ⟨hpo,b,off,rfl,hrd⟩:=hops i p hp
  have hrw:∀ A j u,p.row[j]? = some u → Rd B.plain A b (off + (i:Int).toNat * 18 + j) u:=fun A j u hu=>by rw [Int.toNat_natCast];exact (hrd A j u hu).ext hB
  have hn2:2 * i + 1 + 1 = 2 * (i + 1):=by omega
  generalize hcb:Code.seq (Code.block 1 _) _ = c1
  refine zg2 ?_
  subst hcb
  refine Cd.cut (σ:=OnS) (fun t=>t.i = i ∧ CoOk c (lenC c) (2 * (i + 1)) t.o ∧ CoP xb db c (2 * (i + 1)) t.o t.A ∧ t.o.rs.length ≤ 8) (fun _=>[(1,.slice (some ⟨b,off,none⟩) len cap),(2,ptr cb),(6,ptr xb),(7,.int .i64 i)]) (fun t=>t.A) ?_ (fun t ht=>?_)
  ·refine Cd.block ?_
   refine zg15 ?_
   refine Ops.ldRN (r:=p.row) rfl rfl rfl rfl (hrw _) rfl ?_
   by_cases k1:p.kind = 1
   ·repeat' (first|refine zs4 ?_|refine Ops.alloc rfl rfl rfl (noPd rfl) (fun b=>?_))
    rename Nat=>pb
    have hss:=enc_sz hpo.x
    refine zqA (encode7_is p.m hpo.x) fun v A' hR=>?_
    obtain ⟨rfl,rfl⟩:=hR
    generalize (encF p.m).1 = s at hss ⊢
    refine zg4 ?_
    refine zqB (co_hear B0 xb db c hc (lenC c) (2 * i) q1 (by omega) o hok A hA p.node p.life s (by omega)) hB fun v A' hR=>?_
    obtain ⟨rp,o1,said,J,A1,rfl,hH,hP1,hS1,rfl⟩:=hR
    have hok1:=(hok.hear hc q1 (by omega) hH).1
    have hr1:o1.rs.length ≤ 8:=by rw [hH.rsl];exact hrl
    refine zg1 ?_
    refine zqB (co_view_ B0 xb db c (lenC c) (2 * i + 1) o1 hok1 A1 hP1) hB fun v A' hR=>?_
    obtain ⟨V1,A2,rfl,hV1,hP2⟩:=hR
    obtain ⟨va1,_,_,rfl,_⟩:=id hV1
    refine zg0 ?_
    refine zqB (co_sessions B0 xb db c (2 * i + 1) o1 A2 hP2 (by omega)) hB fun v A' hR=>?_
    obtain ⟨H1,A3,rfl,hO1,hP3⟩:=hR
    obtain ⟨ha1,hc1,rfl⟩:=hO1.form
    refine zg0 ?_
    refine zqB (co_leases B0 xb db c (2 * i + 1) o1 A3 hP3) hB fun v A' hR=>?_
    obtain ⟨K1,A4,rfl,hL1,hP4⟩:=hR
    obtain ⟨la1,lc1,rfl⟩:=hL1.form
    repeat' (first|refine zs3 ?_|refine Ops.alloc rfl rfl rfl (noPd rfl) (fun b=>?_))
    refine zqB (co_hear B0 xb db c hc (lenC c) (2 * i + 1) q1 (by omega) o1 hok1 A4 hP4 p.node p.life s (by omega)) hB fun v A' hR=>?_
    obtain ⟨rp2,o2,said2,J2,A5,rfl,hH2,hP5,hS2,rfl⟩:=hR
    have hok2:=(hok1.hear hc q1 (by omega) hH2).1
    obtain ⟨rfl,hal⟩:=hear_again hok hc (by omega) hH hH2
    refine zg1 ?_
    refine zdr [qz 0,qz 1,qz 2,qz 3,qz 4,qz 5,qz 6,qy 7,qz 8,(9,2,[7]),(10,2,[]),qz 11,qz 12,qz 13,qz 14,qz 15,(16,2,[]),(17,2,[]),qz 18,qz 19,qz 20,qz 21,qz 22,(23,2,[]),(24,2,[]),qz 25,qz 26] ?_
    refine zg3 ?_
    refine Ops.callB (co_view_ B0 xb db c (lenC c) (2 * i + 1 + 1) o2 hok2 A5 hP5) hB rfl zp9 rfl rfl rfl (fun v A' hR=>?_)
    obtain ⟨V2,A6,rfl,hV2,hP6⟩:=hR
    rw [hal.1] at hV2
    obtain ⟨va2,_,_,rfl,_⟩:=id hV2
    refine Ops.callB (same_spec B0 _ _ o1.q.st hok1.cq.ok V1 V2 hV1 hV2) hB rfl (noPd rfl) rfl rfl rfl (fun v A' hR=>?_)
    obtain ⟨rfl,rfl⟩:=hR
    refine zg3 ?_
    refine zqB (co_sessions B0 xb db c (2 * i + 1 + 1) o2 A6 hP6 (by rw [hal.2.1];omega)) hB fun v A' hR=>?_
    obtain ⟨H2,A7,rfl,hO2,hP7⟩:=hR
    obtain ⟨ha2,hc2,rfl⟩:=hO2.form
    refine Ops.callB (same13_co B0 _ _ o1 o2 hal H1 H2 hO1 hO2 hr1) hB rfl (noPd rfl) rfl rfl rfl (fun v A' hR=>?_)
    obtain ⟨rfl,rfl⟩:=hR
    refine zg3 ?_
    refine zqB (co_leases B0 xb db c (2 * i + 1 + 1) o2 A7 hP7) hB fun v A' hR=>?_
    obtain ⟨K2,A8,rfl,hL2,hP8⟩:=hR
    obtain ⟨la2,lc2,rfl⟩:=hL2.form
    refine Ops.callB (same12_co B0 _ _ c o1 o2 hal hok1.cq.lk K1 K2 hL1 hL2) hB rfl (noPd rfl) rfl rfl rfl (fun v A' hR=>?_)
    obtain ⟨rfl,rfl⟩:=hR
    refine zg4 ?_
    all_goals skip
    refine zqA (samesaid_spec p.node p.life rp2 said said2 J J2 hS1 hS2) fun v A' hR=>?_
    obtain ⟨rfl,rfl⟩:=hR
    refine zg4 ?_
    rw [hn2] at hok2 hP8
    exact Cd.skip (inB (meet_end (Q:=fun _ _ _=>True) (⟨i,o2,A8⟩:OnS) ⟨rfl,hok2,hP8,by rw [hal.2.1];exact hr1⟩ ⟨rfl,rfl,rfl,rfl,trivial⟩ (fun w h=>h.split)))
   by_cases k0:p.kind = 0
   ·repeat' (first|refine Cd.seq ?_|refine Cd.reg ?_|refine Ops.nil ?_|refine Ops.mv rfl rfl rfl rfl ?_|refine Ops.fa0 rfl rfl rfl rfl ?_|refine Ops.ld1 rfl rfl rfl rfl rfl ?_|refine Ops.ldN rfl rfl rfl rfl ?_|refine Ops.bin rfl rfl rfl rfl rfl ?_|refine Ops.pickT rfl rfl rfl rfl rfl ?_|refine Ops.alloc rfl rfl rfl (noPd rfl) (fun b=>?_)|refine Ops.stN rfl rfl rfl rfl rfl rfl (noPd rfl) ?_|refine Ops.gSkip rfl rfl rfl ?_|refine Cd.condT rfl rfl ?_|refine Cd.condT rfl zp0 ?_|((fail_if_success refine Ops.probe rfl ?_);refine Ops.gT rfl rfl zp0 ?_))
    refine zqB (does2_spec B0 xb db c hc (lenC c) (2 * i) q1 (by omega) o hok A hA p hpo) hB fun v A' hR=>?_
    obtain ⟨⟨bb,rfl⟩,o1,hok1,hD,hA1⟩:=hR
    have hr1:=hD.rsl
    rename List Blk=>A1
    refine zg0 ?_
    rw [← hn2]
    exact ze18
   by_cases k3:p.kind = 3
   ·repeat' (first|refine Cd.seq ?_|refine Cd.reg ?_|refine Ops.nil ?_|refine Ops.mv rfl rfl rfl rfl ?_|refine Ops.fa0 rfl rfl rfl rfl ?_|refine Ops.ld1 rfl rfl rfl rfl rfl ?_|refine Ops.ldN rfl rfl rfl rfl ?_|refine Ops.bin rfl rfl rfl rfl rfl ?_|refine Ops.pickF rfl rfl rfl rfl rfl ?_|refine Ops.alloc rfl rfl rfl (noPd rfl) (fun b=>?_)|refine Ops.stN rfl rfl rfl rfl rfl rfl (noPd rfl) ?_|refine Cd.condT rfl zp0 ?_|((fail_if_success refine Ops.probe rfl ?_);refine Ops.gF rfl rfl zp0 ?_))
    refine zqB (does2_spec B0 xb db c hc (lenC c) (2 * i) q1 (by omega) o hok A hA p hpo) hB fun v A' hR=>?_
    obtain ⟨⟨bb,rfl⟩,o1,hok1,hD,hA1⟩:=hR
    have hr1:=hD.rsl
    rename List Blk=>A1
    refine zg0 ?_
    rw [← hn2]
    exact ze18
   ·repeat' (first|refine Cd.seq ?_|refine Cd.reg ?_|refine Ops.nil ?_|refine Ops.mv rfl rfl rfl rfl ?_|refine Ops.fa0 rfl rfl rfl rfl ?_|refine Ops.ld1 rfl rfl rfl rfl rfl ?_|refine Ops.bin rfl rfl rfl rfl rfl ?_|refine Ops.pickF rfl rfl rfl rfl rfl ?_|refine Ops.alloc rfl rfl rfl (noPd rfl) (fun b=>?_)|refine Ops.stN rfl rfl rfl rfl rfl rfl (noPd rfl) ?_|refine Cd.skip (Cd.next ?_)|refine Cd.condT rfl zp0 ?_|refine Cd.condF rfl zp0 ?_|((fail_if_success refine Ops.probe rfl ?_);refine Ops.gF rfl rfl zp0 ?_))
    rw [← hn2]
    exact Cd.exit (inTx (inBs (meet_end (Q:=fun _ _ _=>True) (⟨i,o,A⟩:OnS) ⟨rfl,hok.later.later,hA.on.on,hrl⟩ ⟨rfl,rfl,rfl,rfl,trivial⟩ (fun w h=>h.split))))
  ·obtain ⟨j,o2,A2⟩:=t
   obtain ⟨ej,g1,g2,g3⟩:=ht
   obtain rfl:i = j:=ej.symm
   dsimp only at g1 g2 g3 ⊢
   refine zg9 ?_
   exact Ops.nilN (round_end (⟨i + 1,o2,A2⟩:OnS) ⟨by show i + 1 ≤ len;omega,g1,g2,g3⟩ (by show len - (i + 1) < len - i;omega) ⟨rfl,rfl,rfl,rfl,trivial⟩ (fun w h=>h.split))
 ·have hil':¬ (i:Int) < len:=by omega
  refine zg2 ?_
  refine zqB (fixed_spec B0) hB fun v A' hR=>?_
  obtain ⟨rfl,rfl⟩:=hR
  refine zg0 ?_
  exact ze9
theorem once_spec (B0:Base) (c:Cf) (sa:Option Addr) (len cap:Nat) (ops:List LOp) (hs:ScrIn B0 sa len ops) (hlen:len ≤ 131072):ConB prog B0 3 #[.agg c.row.toArray,.slice sa len cap] [] fun v A=>v = .bool true ∧ A = []:=by
 by_cases hc:CfOk c
 ·exact once_yes B0 c hc sa len cap ops hs hlen
 ·exact once_no B0 c hc sa len cap
end Go.Proofs.YtkoelgkghijgiaaGreat
namespace Go.Proofs.YtkoelgkghijgiaaGreat.coordOnceDone
open Go Go.Sep Go.Proofs Go.Proofs.Tryz
open Go.ChangeShapes Go.WideShapes Go.ChangeAt Go.RowKit
set_option synthInstance.maxSize 2000
instance (priority:=700) flat11 {P:Program} {ft start:Nat} {fl:List (TypeId × Nat)} {k1 k2 k3 k4 k5 k6 k7 k8 k9 k10 k11:LK} {k0:List LK} [h1:FlatT P ft [k1,k2,k3,k4,k5,k6,k7,k8,k9,k10,k11]] [h2:FlatF P fl (start + 11) k0]:FlatF P ((ft,start) :: fl) start (k1 :: k2 :: k3 :: k4 :: k5 :: k6 :: k7 :: k8 :: k9 :: k10 :: k11 :: k0):=FlatF.step h1 h2 rfl
theorem own:ownKnob prog.godebug = none:=by kernel_rfl
theorem laidOut:laidOutB prog = true:=by kernel_rfl
theorem script_of {w:World} {a:Option Addr} {len:Nat} (h:InRows w 18 [.int .i64,.int .i64,.int .i64,.int .i64,.int .i64,.int .i64,.int .i64,.int .i64,.int .i64,.int .i64,.int .i64,.int .i64,.int .i64,.int .i64,.int .u64,.str,.str,.str] a len):∃ ops,ScrIn (baseOf w) a len ops:=by
 obtain ⟨l,hl,hp⟩:=exists_list (α:=LOp) (p:=fun i o=>o.Ok ∧ ∃ b off,a = some ⟨b,off,none⟩ ∧ ∀ (A:List Blk) (j:Nat) (u:Value),o.row[j]? = some u → Rd (baseOf w) A b (off + i * 18 + j) u) len (fun i hi=>by
  obtain ⟨b,o,cs,rfl,hlen,hall,hc⟩:=h i hi
  match cs,hlen with
  | [v0,v1,v2,v3,v4,v5,v6,v7,v8,v9,v10,v11,v12,v13,v14,v15,v16,v17],_ =>
   obtain ⟨⟨n0,rfl,_⟩,⟨n1,rfl,_⟩,⟨n2,rfl,_⟩,⟨n3,rfl,_⟩,⟨n4,rfl,_⟩,⟨n5,rfl,_⟩,⟨n6,rfl,_⟩,⟨n7,rfl,_⟩,⟨n8,rfl,_⟩,⟨n9,rfl,_⟩,⟨n10,rfl,_⟩,⟨n11,rfl,_⟩,⟨n12,rfl,_⟩,⟨n13,rfl,_⟩,⟨n14,rfl,hx⟩,⟨s15,rfl,_⟩,⟨s16,rfl,_⟩,⟨s17,rfl,h17⟩,_⟩:=hall
   refine ⟨⟨n0,n1,n2,n3,n4,n5,⟨n6,n7,n8,n9,n10,n11,n12,n13,n14,s15,s16⟩,s17⟩,⟨?_,?_⟩,b,o,rfl,fun A j u hu=>rd_base (hc j u hu)⟩
   ·simp only [Lit.wf,IntKind.wrap,IntKind.bits,IntKind.signed,Bool.false_and,Bool.false_eq_true,if_false,beq_iff_eq,decide_eq_true_eq,Bool.and_eq_true] at hx
    have e1:IntKind.u64.min = 0:=by decide
    have e2:IntKind.u64.max = 18446744073709551615:=by decide
    show (0:Int) ≤ n14 ∧ n14 < 18446744073709551616
    omega
   ·have h2:maxLen < 9223372036854775808:=by decide
    show s17.size < _
    omega)
 exact ⟨l,hl,hp⟩
set_option maxRecDepth 100000 in
theorem config_of {H:Type} {enc:TypeId × Value → H} {W:World} {base:Nat} {spare:Nat → Bool} {held:Bool} {v:Value} {d:DataW H} {p:List MemPlace} (hv:Value.okWide prog W .any base 23 v) (h:DataW.Trod enc prog W 0 spare held 23 v d p):∃ c:Cf,v = .agg c.row.toArray:=by
 obtain ⟨cs,rfl,hsz⟩:=okWide_struct underlying23 hv
 obtain ⟨fuel,hf⟩:=h
 obtain ⟨xs,n,_,_,_,hlen,hfl⟩:=DataW.trod_struct underlying23 hf
 have h9:cs.size = 9:=hsz.trans (by kernel_rfl)
 obtain ⟨l⟩:=cs
 match l,xs,h9,hlen with
 | [v0,v1,v2,v3,v4,v5,v6,v7,v8],[y0,y1,y2,y3,y4,y5,y6,y7,y8],_,_ =>
  have g0:DataW.trod enc prog W 0 spare held n 3 [v0] = some y0:=hfl 0 _ rfl
  obtain ⟨a0,e0,_,_⟩:=DataW.trod_int underlying3 g0
  injection e0 with e0 _
  subst e0
  have g1:DataW.trod enc prog W 0 spare held n 3 [v1] = some y1:=hfl 1 _ rfl
  obtain ⟨a1,e1,_,_⟩:=DataW.trod_int underlying3 g1
  injection e1 with e1 _
  subst e1
  have g2:DataW.trod enc prog W 0 spare held n 3 [v2] = some y2:=hfl 2 _ rfl
  obtain ⟨a2,e2,_,_⟩:=DataW.trod_int underlying3 g2
  injection e2 with e2 _
  subst e2
  have g3:DataW.trod enc prog W 0 spare held n 3 [v3] = some y3:=hfl 3 _ rfl
  obtain ⟨a3,e3,_,_⟩:=DataW.trod_int underlying3 g3
  injection e3 with e3 _
  subst e3
  have g4:DataW.trod enc prog W 0 spare held n 3 [v4] = some y4:=hfl 4 _ rfl
  obtain ⟨a4,e4,_,_⟩:=DataW.trod_int underlying3 g4
  injection e4 with e4 _
  subst e4
  have g5:DataW.trod enc prog W 0 spare held n 3 [v5] = some y5:=hfl 5 _ rfl
  obtain ⟨a5,e5,_,_⟩:=DataW.trod_int underlying3 g5
  injection e5 with e5 _
  subst e5
  have g6:DataW.trod enc prog W 0 spare held n 3 [v6] = some y6:=hfl 6 _ rfl
  obtain ⟨a6,e6,_,_⟩:=DataW.trod_int underlying3 g6
  injection e6 with e6 _
  subst e6
  have g7:DataW.trod enc prog W 0 spare held n 3 [v7] = some y7:=hfl 7 _ rfl
  obtain ⟨a7,e7,_,_⟩:=DataW.trod_int underlying3 g7
  injection e7 with e7 _
  subst e7
  have g8:DataW.trod enc prog W 0 spare held n 3 [v8] = some y8:=hfl 8 _ rfl
  obtain ⟨a8,e8,_,_⟩:=DataW.trod_int underlying3 g8
  injection e8 with e8 _
  subst e8
  exact ⟨⟨a0,a1,a2,a3,a4,a5,a6,a7,a8⟩,rfl⟩
theorem coord_once (w:World) (c:Cf) (sa:Option Addr) (len cap:Nat) (ops:List LOp) (hs:ScrIn (baseOf w) sa len ops) (hlen:len ≤ 131072):Calls prog 3 #[.agg c.row.toArray,.slice sa len cap] w fun e w'=>e = .returned (.bool true) ∧ RowKit.Below w.heap.size w w' :=
 ((once_spec (baseOf w) c sa len cap ops hs hlen) (baseOf w) w (Ext.refl _) (sat_baseOf w)).mono fun e w' ⟨v,A',he,⟨hv,_⟩,hS⟩=>⟨by rw [he,hv],hS.below⟩
set_option maxRecDepth 100000 in
theorem lifted (os:Os) (started:os.Started) (H:Type) (enc:TypeId × Value → H) (F:Stop.Interp) :
  ReturnsInHanded {} Tryz.checked os 3 .any ((Rows.OpenSpec.upto Rows.coordOnceSpec).pre6 enc prog Tryz.f3 Rows.coordOnceUptoRow.domain false) (((Rows.OpenSpec.upto Rows.coordOnceSpec).at F).post enc prog Tryz.f3 false true false false):=by
 refine returnsInHanded_of_cond (C:=Tryz.checked) (s:=Rows.OpenSpec.upto Rows.coordOnceSpec) (k:=Rows.uptoSmall) rfl own started (by kernel_rfl) func3
  (OpenSpec.witness (enc:=enc) (C:=Tryz.checked) (s:=Rows.OpenSpec.upto Rows.coordOnceSpec) (k:=Rows.uptoSmall) rfl false ⟨#[],#[.agg #[.int .i64 0,.int .i64 0,.int .i64 0,.int .i64 0,.int .i64 0,.int .i64 0,.int .i64 0,.int .i64 0,.int .i64 0],.slice none 0 0],[]⟩ 8 (by kernel_rfl) (by kernel_rfl) (by kernel_rfl)
   (x:=([.agg [.lit (.int .i64 0),.lit (.int .i64 0),.lit (.int .i64 0),.lit (.int .i64 0),.lit (.int .i64 0),.lit (.int .i64 0),.lit (.int .i64 0),.lit (.int .i64 0),.lit (.int .i64 0)],.nil],[],[])) (by kernel_rfl) rfl (by kernel_rfl)) ?_
 intro W base args ds gs before hval0 hW hcnd hk _
 have hval:∀ (j:Nat) t v,Tryz.f3.params[j]? = some t → args[j]? = some v → Value.okWide prog W .any base t v:=hval0
 have hW':=hW
 obtain ⟨p,q,hA0,hV,rfl,hfz,hnd⟩:=hW
 have hA:DataW.TrodAll enc prog W 0 (fun _=>true) true Tryz.f3.params.toList args.toList ds p:=hA0
 rw [Tryz.params3] at hA hval
 obtain ⟨v0,vs0,d0,ds0,p0,q0,hargs,rfl,rfl,h0,r0⟩:=trodAll_cons hA
 obtain ⟨v1,vs1,d1,ds1,p1,q1,rfl,rfl,rfl,h1,r1⟩:=trodAll_cons r0
 obtain ⟨rfl,rfl,rfl⟩:=trodAll_nil r1
 obtain rfl:args = #[v0,v1]:=by cases args;simp_all
 obtain ⟨rfl,rfl⟩:=trodVars_none hV
 obtain ⟨c,rfl⟩:=config_of (hval 0 23 v0 rfl rfl) h0
 have k0:=h0
 have lt0:∀ x ∈ p0,x.block < W.heap.size:=by obtain ⟨m,hm⟩:=k0;exact DataW.trod_lt m _ _ _ hm
 obtain ⟨a1,len1,cap1,rfl⟩:=okWide_slice underlying24 (hval 1 24 v1 rfl rfl)
 have k1:=h1
 have lt1:∀ x ∈ p1,x.block < W.heap.size:=by obtain ⟨m,hm⟩:=k1;exact DataW.trod_lt m _ _ _ hm
 obtain ⟨hrows,hlen⟩:InRows W 18 [.int .i64,.int .i64,.int .i64,.int .i64,.int .i64,.int .i64,.int .i64,.int .i64,.int .i64,.int .i64,.int .i64,.int .i64,.int .i64,.int .i64,.int .u64,.str,.str,.str] a1 len1 ∧ (d1 = .nil ∧ len1 = 0 ∨ ∃ el sp,d1 = .slice el sp ∧ el.length = len1 ∧ len1 ≤ el.length + sp.length):=by
  obtain ⟨fuel,hf⟩:=h1
  exact in_rows underlying24 inferInstance inferInstance (by decide) hf (fun _=>rfl)
 have hag:∀ el sp,d1 = .slice el sp → 8 * el.length ≤ Rows.uptoBulkAll el:=fun el sp e=>by
  obtain ⟨fuel,hf⟩:=k1
  exact Bk.bulk_aggs el (Bk.el_aggs underlying24 underlying40 hf el sp e)
 obtain ⟨ops,hc⟩:=script_of hrows
 have hmax:len1 ≤ 131072:=by
  rcases hlen with ⟨_,rfl⟩|⟨el,sp,e1,rfl,_⟩
  ·omega
  ·have h8:=hag el sp e1
   have h:=of_decide_eq_true hk
   rw [e1] at h
   simp only [List.cons_append,List.nil_append,Rows.uptoBulkAll,Rows.uptoBulk] at h
   omega
 clear hA0 hval0
 refine (coord_once W c a1 len1 cap1 ops hc hmax).mono fun e W' ⟨he,bel⟩=>?_
 subst he
 exact ⟨_,rfl,_,_,_,[],_,[],hW',trodAll_mk1 (shut_bool underlying4 _),(trodAll_cons_mk (Below.trod laidOut (by kernel_rfl) (of_decide_eq_true (by kernel_rfl)) k0 bel lt0) (trodAll_cons_mk (Below.trod laidOut (by kernel_rfl) (of_decide_eq_true (by kernel_rfl)) k1 bel lt1) trodAll_mk0)),rfl,bel.frame _,fun h=>by cases h⟩
end Go.Proofs.YtkoelgkghijgiaaGreat.coordOnceDone
