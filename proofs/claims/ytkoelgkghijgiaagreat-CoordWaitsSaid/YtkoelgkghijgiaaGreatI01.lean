import Derived.Test.YtkoelgkghijgiaaGreatA17
import Derived.Test.YtkoelgkghijgiaaGreatA16
import Derived.Test.YtkoelgkghijgiaaGreatA01
import Derived.Test.YtkoelgkghijgiaaGreatA04
import Derived.Test.YtkoelgkghijgiaaGreatC01
import Derived.Test.YtkoelgkghijgiaaGreatA03
import Derived.Test.YtkoelgkghijgiaaGreatA11
import Derived.Test.YtkoelgkghijgiaaGreatRows
import Derived.WalkKit
import Derived.ProofKit
import Derived.OpenShut
import Derived.ShutString
import Derived.ChangeOld
import Derived.Below
import Derived.SizedLaws
import Derived.Lib.SmallJoins
set_option linter.unusedVariables false
set_option linter.unusedSimpArgs false
namespace Go.Proofs.YtkoelgkghijgiaaGreat
open Go Go.Sep Go.Proofs
set_option maxRecDepth 10000
set_option maxHeartbeats 40000000
structure One (c:Cf) (o:Co) (r:Rw) (ls:List Ls.LE) (ses last:Int) (p:ByteArray):Prop where
 rows:o.q.st.rows = [r]
 att:o.q.st.att = c.attempts
 progs:o.q.st.progs = [p]
 logs:∃ lg,o.q.st.logs = [lg]
 ls:o.q.ls = ls
 row:∃ rp,Se.rowAt o.rs 0 = some ⟨0,1,ses,last,rp⟩
theorem applyG_inv {s0 s st:StP} {i:Nat} {c:Ch} {l:List Ch} (h:applyG s0 s i (c :: l) = ((0,0),st)):∃ s',stepF s c = some s' ∧ applyG s0 s' (i + 1) l = ((0,0),st):=by
 rw [applyG] at h
 split at h
 ·injection h with h1 _;injection h1 with _ h2;cases h2
 ·cases hs:stepF s c with
  | none=>rw [hs] at h;injection h with h1 _;injection h1 with _ h2;cases h2
  | some s'=>rw [hs] at h;exact ⟨s',rfl,h⟩
theorem applyG_end {s0 s st:StP} {i:Nat} (h:applyG s0 s i [] = ((0,0),st)):st = s:=by
 rw [applyG] at h
 injection h with _ h
 exact h.symm
theorem step_res {s s':StP} {n:Int} (h:stepF s (Ch.res n) = some s'):s' = { s with res:=n }:=by
 unfold stepF at h
 rw [if_pos (by rfl)] at h
 split at h
 ·injection h with h;exact h.symm
 ·cases h
theorem step_resL {s0 s st:StP} {i:Nat} {rs:Int} {l:List Ch} (h:applyG s0 s i ((resL rs).map Cg.c ++ l) = ((0,0),st)):∃ (n:Int) (j:Nat),applyG s0 { s with res:=n } j l = ((0,0),st):=by
 unfold resL at h
 split at h
 ·exact ⟨s.res,i,h⟩
 ·obtain ⟨s',h1,h2⟩:=applyG_inv h
  rw [step_res h1] at h2
  exact ⟨rs,_,h2⟩
theorem One.tick {c:Cf} {o:Co} {r:Rw} {x:Ls.LE} {ses last:Int} {p:ByteArray} (h:One c o r [x] ses last p) (hx:2 ≤ x.left):One c (o.tick c) r [Ls.dec x] ses last p:=by
 have e1:Ls.overF o.q.ls = []:=by rw [h.ls];exact Ls.overF_one1 (by omega)
 have e2:Ls.restF o.q.ls = [Ls.dec x]:=by
  rw [h.ls]
  have:¬ (x.left - 1 = 0):=by omega
  simp [Ls.restF,Ls.dec,this]
 have est:(o.tick c).q.st = o.q.st:=by unfold Co.tick;rw [e1];rfl
 exact ⟨by rw [est];exact h.rows,by rw [est];exact h.att,by rw [est];exact h.progs,by rw [est];exact h.logs,e2,h.row⟩
theorem One.over {c:Cf} {o:Co} {r:Rw} {x:Ls.LE} {ses last:Int} {p:ByteArray} (h:One c o r [x] ses last p) (hx:x.left = 1) (h2:r.status = 2) (hb:r.badge = x.badge) (h0:1 ≤ x.badge ∧ x.badge ≤ 1099511627776):One c (o.tick c) (r.free c.attempts) [] ses last p:=by
 have e1:Ls.overF o.q.ls = [Ls.dec x]:=by rw [h.ls];exact Ls.overF_one0 (by omega)
 have e2:Ls.restF o.q.ls = []:=by
  rw [h.ls]
  have:x.left - 1 = 0:=by omega
  simp [Ls.restF,Ls.dec,this]
 have hat:heldAt [r] x.badge = some 0:=by
  unfold heldAt
  simp [List.findIdx?_cons,h2,hb]
 have hst:stepF o.q.st (expC (Ls.dec x)) = some { o.q.st with rows:=[r.free c.attempts] }:=by
  unfold stepF
  rw [if_neg (by show ¬ ((5:Int) = 1);decide),if_neg (by show ¬ ((5:Int) = 2);decide),if_neg (by show ¬ ((5:Int) = 3);decide),if_neg (by show ¬ ((5:Int) = 4);decide),if_pos (by rfl),h.rows]
  have:heldAt [r] (expC (Ls.dec x)).badge = some 0:=hat
  rw [this]
  show some ({ o.q.st with rows:=[r.free o.q.st.att] }:StP) = some { o.q.st with rows:=[r.free c.attempts] }
  rw [h.att]
 have hap:applyF o.q.st [expC (Ls.dec x)] = ((0,0),{ o.q.st with rows:=[r.free c.attempts] }):=by
  show applyG o.q.st o.q.st 0 [_] = _
  rw [applyG_cons (exp_check h0) hst];rfl
 have est:(o.tick c).q.st = { o.q.st with rows:=[r.free c.attempts] }:=by
  have e:(o.tick c).q.st = (applyF o.q.st ((expL (Ls.overF o.q.ls)).map Cg.c)).2:=rfl
  rw [e,e1]
  show (applyF o.q.st [expC (Ls.dec x)]).2 = _
  rw [hap]
 exact ⟨by rw [est],by rw [est];exact h.att,by rw [est];exact h.progs,by rw [est];exact h.logs,e2,h.row⟩
theorem ask_next {ses last:Int} {rp:ByteArray} (h0:0 ≤ last):Se.askV (some ⟨0,1,ses,last,rp⟩) 1 ses (last + 1) = (3,⟨#[]⟩):=by
 unfold Se.askV
 dsimp only
 rw [if_neg (by omega),if_neg (by omega),if_neg (by omega),if_pos rfl]
theorem One.asks {c:Cf} {o o1:Co} {r:Rw} {ls:List Ls.LE} {ses last:Int} {p:ByteArray} (h:One c o r ls ses last p) (h0:0 ≤ last ∧ last < 1099511627776) (hrun:runB c 2 1 = true) {m:Ms} (hw:wcheckF m = 0) (hx:0 ≤ m.rbits ∧ m.rbits < 18446744073709551616) (hk:2 ≤ m.kind ∧ m.kind ≤ 4) (hs:m.session = ses) (hn:m.number = last + 1) {reply:ByteArray} (hh:HearR c o 2 1 (encF m).1 reply o1) :
  ∃ m1 o2,MidR c o 2 1 m m1 o2 ∧ reply = (encF m1).1 ∧ o1.q = o2.q ∧ ∃ rp,Se.rowAt o1.rs 0 = some ⟨0,1,ses,last + 1,rp⟩:=by
 unfold HearR at hh
 rw [dec_enc hw hx] at hh
 dsimp only at hh
 rw [if_neg (fun q=>by rcases q with q|q|q;exact q rfl;rw [hrun] at q;cases q;omega),if_neg (by omega),if_neg (by omega)] at hh
 obtain ⟨rp,hrow⟩:=h.row
 have ha:Se.askV (Se.rowAt o.rs (2 - 2)) 1 m.session m.number = (3,⟨#[]⟩):=by
  rw [hs,hn]
  show Se.askV (Se.rowAt o.rs 0) 1 ses (last + 1) = _
  rw [hrow]
  exact ask_next h0.1
 rcases hh with ⟨ha2,_⟩|⟨_,m1,o2,hm,hr,rfl⟩
 ·rw [ha] at ha2;exact absurd rfl ha2
 ·refine ⟨m1,o2,hm,hr,rfl,(encF m1).1,?_⟩
  show Se.rowAt (Se.putRow o.rs 0 (Se.answerV (Se.rowAt o.rs 0) (encF m1).1)) 0 = _
  have e:Se.answerV (Se.rowAt o.rs 0) (encF m1).1 = some ⟨0,1,ses,last + 1,(encF m1).1⟩:=by
   rw [hrow]
   unfold Se.answerV
   dsimp only
   rw [if_pos ⟨by decide,by omega⟩]
  rw [e]
  exact Se.rowAt_put hrow
theorem head_one {r:Rw} (h:r.status = 1):headF18 [r] = 1:=by
 unfold headF18 idxF
 simp [List.findIdx?_cons,h]
theorem place_one {st:StP} {r:Rw} {p:ByteArray} {lg:List ByteArray} {b:Int} (h1:st.rows = [r]) (h2:st.progs = [p]) (h3:st.logs = [lg]) {x:Rw × ByteArray × List ByteArray} (h:placeF st b = some x):x = (r,p,lg):=by
 unfold placeF at h
 cases hl:lastAt st.rows b with
 | none=>rw [hl] at h;cases h
 | some i =>
  rw [hl] at h
  have h:(viewL st)[i]? = some x:=h
  have hv:viewL st = [(r,p,lg)]:=by unfold viewL;rw [h1,h2,h3];rfl
  rw [hv] at h
  cases i with
  | zero=>injection h with h;exact h.symm
  | succ i=>cases h
theorem place_here {st:StP} {r:Rw} {p:ByteArray} {lg:List ByteArray} {b:Int} (h1:st.rows = [r]) (h2:st.progs = [p]) (h3:st.logs = [lg]) (hb:r.badge = b) (h0:0 < b):placeF st b = some (r,p,lg):=by
 have hl:lastAt st.rows b = some 0:=by
  rw [h1];unfold lastAt
  simp [List.findIdx?_cons,hb,h0]
 unfold placeF
 rw [hl]
 show (viewL st)[0]? = _
 unfold viewL
 rw [h1,h2,h3];rfl
theorem One.poll {c:Cf} {o o1:Co} {len n:Nat} (hok:CoOk c len n o) (hc:CfOk c) (hn:n ≤ 2000000) {r:Rw} {ses last:Int} {p:ByteArray} (h:One c o r [] ses last p) (h0:0 ≤ last ∧ last < 1099511627776) (hses:1 ≤ ses ∧ ses ≤ 1099511627776) (h1:r.status = 1) {reply:ByteArray}
  (hh:HearR c o 2 1 (encF (reqM 2 ses (last + 1))).1 reply o1) :
  ∃ b,(1 ≤ b ∧ b ≤ 1099511627776) ∧ reply = (encF (offerM (reqM 2 ses (last + 1)) 1 b p)).1 ∧ One c o1 (r.give b 2 1) [⟨1,b,2,1,c.lease⟩] ses (last + 1) p:=by
 obtain ⟨⟨r1,r2⟩,_⟩:=id hc
 have hrun:runB c 2 1 = true:=decide_eq_true (by omega)
 have hw:wcheckF (reqM 2 ses (last + 1)) = 0:=by
  rw [← check7_eq]
  have h2:1 ≤ last + 1 ∧ last + 1 ≤ 1099511627776:=by omega
  simp [check7F,reqM,nmL,nmT,r7e,r7d,r7c,r7b,r7a,rightF,hasF,mostF,bits7,put7,hses,h2]
  rfl
 obtain ⟨m1,o2,hm,hr,hq,hrow⟩:=h.asks h0 hrun hw ⟨Int.le_refl _,by show (0:Int) < _;omega⟩ ⟨by show (2:Int) ≤ 2;omega,by show (2:Int) ≤ 4;omega⟩ rfl rfl hh
 have hhd:headF18 o.q.st.rows = 1:=by rw [h.rows];exact head_one h1
 have hla:=hok.ln
 have hl0:=hok.cq.l0
 obtain ⟨lg,hlg⟩:=h.logs
 rcases hm with ⟨_,q,_⟩|⟨_,_,r',p',hp',rfl,rfl⟩|⟨q,_⟩|⟨q,_⟩|⟨q,_⟩|⟨q,_⟩
 ·rw [hhd] at q;cases q
 ·rw [hhd] at hr hq
  obtain ⟨st,rx,px,g1,_⟩:=hok.cq.grant hc (next_there hok hn) rfl (by rw [hhd];decide) (slot:=2 - 2) (life:=1) (by omega) ⟨by omega,by omega⟩
  rw [hhd] at g1
  have hcs:(grantCs c o 2 1).map Cg.c = (resL (resOf c o.q)).map Cg.c ++ [grantC 1 (o.q.la + 1) (2 - 2) 1]:=by
   show (pollL (resOf c o.q) (headF18 o.q.st.rows) (o.q.la + 1) (2 - 2) 1).map Cg.c = _
   rw [hhd]
   unfold pollL
   rw [List.map_append];rfl
  rw [hcs] at hp' hq
  have g1':applyG o.q.st o.q.st 0 ((resL (resOf c o.q)).map Cg.c ++ [grantC 1 (o.q.la + 1) (2 - 2) 1]) = ((0,0),st):=by
   rw [← hcs]
   have e:grantCs c o 2 1 = pollL (resOf c o.q) 1 (o.q.la + 1) (2 - 2) 1:=by show pollL _ (headF18 o.q.st.rows) _ _ _ = _;rw [hhd]
   rw [e]
   exact g1
  obtain ⟨nn,j,g2⟩:=step_resL g1'
  obtain ⟨s',g3,g4⟩:=applyG_inv g2
  have g5:=applyG_end g4
  have est:st = { o.q.st with res:=nn,rows:=[r.give (o.q.la + 1) 2 1],logs:=[[]] }:=by
   rw [g5]
   unfold stepF at g3
   rw [if_neg (by show ¬ ((3:Int) = 1);decide),if_neg (by show ¬ ((3:Int) = 2);decide),if_pos (by rfl)] at g3
   split at g3
   ·cases g3
   ·dsimp only at g3
    rw [if_pos (by decide),h.rows,hlg] at g3
    (try dsimp only at g3)
    have e0:([r]:List Rw)[((1:Int) - 1).toNat]? = some r:=rfl
    rw [e0] at g3
    (try dsimp only at g3)
    split at g3
    ·cases g3
    ·injection g3 with g3
     exact g3.symm
  have hap:applyF o.q.st ((resL (resOf c o.q)).map Cg.c ++ [grantC 1 (o.q.la + 1) (2 - 2) 1]) = ((0,0),st):=g1'
  rw [hap] at hp'
  have hst:o1.q.st = st:=by
   rw [hq]
   show (applyF o.q.st _).2 = st
   rw [hap]
  have hls:o1.q.ls = [⟨1,o.q.la + 1,2,1,c.lease⟩]:=by
   rw [hq]
   show (Ls.grantF c.lease o.q.ls 1 (o.q.la + 1) 2 1).2 = _
   rw [h.ls]
   unfold Ls.grantF
   rw [if_neg (by omega),if_neg (fun q=>by obtain ⟨x,hx,_⟩:=q;cases hx)]
   rfl
  have hpe:=place_one (r:=r.give (o.q.la + 1) 2 1) (p:=p) (lg:=[]) (by rw [est]) (by rw [est];exact h.progs) (by rw [est]) hp'
  injection hpe with _ hpe
  injection hpe with hpe _
  rw [hpe] at hr
  exact ⟨o.q.la + 1,⟨by omega,by omega⟩,hr,by rw [hst,est],by rw [hst,est];exact h.att,by rw [hst,est];exact h.progs,⟨[],by rw [hst,est]⟩,hls,hrow⟩
 ·cases q
 ·cases q
 ·exact absurd rfl q
 ·exact absurd rfl q
theorem poll_check {ses n:Int} (hs:1 ≤ ses ∧ ses ≤ 1099511627776) (hn:1 ≤ n ∧ n ≤ 1099511627776):wcheckF (reqM 2 ses n) = 0:=by
 rw [← check7_eq]
 simp [check7F,reqM,nmL,nmT,r7e,r7d,r7c,r7b,r7a,rightF,hasF,mostF,bits7,put7,hs,hn]
 rfl
@[reducible] def beatM (ses n b:Int):Ms:=⟨3,ses,n,0,b,0,0,0,0,⟨#[]⟩,⟨#[]⟩⟩
theorem beat_check {ses n b:Int} (hs:1 ≤ ses ∧ ses ≤ 1099511627776) (hn:1 ≤ n ∧ n ≤ 1099511627776) (hb:1 ≤ b ∧ b ≤ 1099511627776):wcheckF (beatM ses n b) = 0:=by
 rw [← check7_eq]
 simp [check7F,beatM,nmL,nmT,r7e,r7d,r7c,r7b,r7a,rightF,hasF,mostF,bits7,put7,hs,hn,hb]
 rfl
theorem offer_check {ses n b:Int} {p:ByteArray} (hs:1 ≤ ses ∧ ses ≤ 1099511627776) (hn:1 ≤ n ∧ n ≤ 1099511627776) (hb:1 ≤ b ∧ b ≤ 1099511627776) (hp:1 ≤ p.size ∧ p.size ≤ 1024):wcheckF (offerM (reqM 2 ses n) 1 b p) = 0:=by
 rw [← check7_eq]
 have hp':(1:Int) ≤ (p.size:Nat) ∧ ((p.size:Nat):Int) ≤ 1024:=by omega
 simp [check7F,offerM,reqM,nmL,nmT,r7e,r7d,r7c,r7b,r7a,rightF,hasF,mostF,bits7,put7,hs,hn,hb,hp']
 rfl
theorem wel_check {s:Int} (hs:1 ≤ s ∧ s ≤ 1099511627776):wcheckF (welM s) = 0:=by
 rw [← check7_eq]
 simp [check7F,welM,nmL,nmT,r7e,r7d,r7c,r7b,r7a,rightF,hasF,mostF,bits7,put7,hs]
 rfl
theorem One.beat {c:Cf} {o o1:Co} (hc:CfOk c) {r:Rw} {x:Ls.LE} {ses last:Int} {p:ByteArray} (h:One c o r [x] ses last p) (h0:0 ≤ last ∧ last < 1099511627776) (hses:1 ≤ ses ∧ ses ≤ 1099511627776) (h2:r.status = 2) (hb:r.badge = x.badge) (hb0:1 ≤ x.badge ∧ x.badge ≤ 1099511627776) (hh:r.node = 2 ∧ r.life = 1) {reply:ByteArray}
  (hr:HearR c o 2 1 (encF (beatM ses (last + 1) x.badge)).1 reply o1):reply = (encF (reqM 11 ses (last + 1))).1 ∧ One c o1 r [{ x with left:=c.lease }] ses (last + 1) p:=by
 obtain ⟨⟨r1,r2⟩,_⟩:=id hc
 have hrun:runB c 2 1 = true:=decide_eq_true (by omega)
 obtain ⟨m1,o2,hm,hre,hq,hrow⟩:=h.asks h0 hrun (beat_check hses (by omega) hb0) ⟨Int.le_refl _,by show (0:Int) < _;omega⟩ ⟨by show (2:Int) ≤ 3;omega,by show (3:Int) ≤ 4;omega⟩ rfl rfl hr
 obtain ⟨lg,hlg⟩:=h.logs
 have hheld:heldF o.q.st x.badge 2 1 = true:=by
  unfold heldF
  rw [place_here h.rows h.progs hlg hb (by omega)]
  dsimp only
  rw [h2,hh.1,hh.2];rfl
 rcases hm with ⟨q,_⟩|⟨q,_⟩|⟨_,q,_⟩|⟨_,_,rfl,rfl⟩|⟨_,q,_⟩|⟨_,q,_⟩
 ·cases q
 ·cases q
 ·rw [show heldF o.q.st (beatM ses (last + 1) x.badge).badge 2 1 = true from hheld] at q;cases q
 ·refine ⟨hre,by rw [hq];exact h.rows,by rw [hq];exact h.att,by rw [hq];exact h.progs,by rw [hq];exact h.logs,?_,hrow⟩
  rw [hq]
  show (Ls.renewF c.lease o.q.ls x.badge).2 = _
  rw [h.ls]
  unfold Ls.renewF Ls.lfind
  simp
 ·exact absurd rfl q
 ·exact absurd rfl q
theorem One.gone {c:Cf} {o o1:Co} (hc:CfOk c) {r:Rw} {ls:List Ls.LE} {ses last:Int} {p:ByteArray} (h:One c o r ls ses last p) (h0:0 ≤ last ∧ last < 1099511627776) (hses:1 ≤ ses ∧ ses ≤ 1099511627776) (h2:r.status ≠ 2) {b:Int} (hb0:1 ≤ b ∧ b ≤ 1099511627776) {reply:ByteArray}
  (hr:HearR c o 2 1 (encF (beatM ses (last + 1) b)).1 reply o1):reply = (encF (reqM 12 ses (last + 1))).1 ∧ One c o1 r ls ses (last + 1) p:=by
 obtain ⟨⟨r1,r2⟩,_⟩:=id hc
 have hrun:runB c 2 1 = true:=decide_eq_true (by omega)
 obtain ⟨m1,o2,hm,hre,hq,hrow⟩:=h.asks h0 hrun (beat_check hses (by omega) hb0) ⟨Int.le_refl _,by show (0:Int) < _;omega⟩ ⟨by show (2:Int) ≤ 3;omega,by show (3:Int) ≤ 4;omega⟩ rfl rfl hr
 obtain ⟨lg,hlg⟩:=h.logs
 have hheld:heldF o.q.st b 2 1 = false:=by
  unfold heldF
  cases hp:placeF o.q.st b with
  | none=>rfl
  | some y =>
   have e:=place_one h.rows h.progs hlg hp
   subst e
   dsimp only
   rw [decide_eq_false h2];rfl
 rcases hm with ⟨q,_⟩|⟨q,_⟩|⟨_,_,rfl,rfl⟩|⟨_,q,_⟩|⟨_,q,_⟩|⟨_,q,_⟩
 ·cases q
 ·cases q
 ·exact ⟨hre,by rw [hq];exact h.rows,by rw [hq];exact h.att,by rw [hq];exact h.progs,by rw [hq];exact h.logs,by rw [hq];exact h.ls,hrow⟩
 ·rw [show heldF o.q.st (beatM ses (last + 1) b).badge 2 1 = false from hheld] at q;cases q
 ·exact absurd rfl q
 ·exact absurd rfl q
theorem one_begins {c:Cf} (hc:CfOk c) {p:ByteArray} (hp:1 ≤ p.size ∧ p.size ≤ 1024) {o1:Co} {reply:ByteArray} (hr:HearR c (submitO c (co0 c) p 0) 2 1 (encF (reqM 1 0 0)).1 reply o1) :
  reply = (encF (welM 1)).1 ∧ One c o1 ⟨1,1,0,0,0,0,0,0⟩ [] 1 0 p:=by
 obtain ⟨⟨r1,r2⟩,_⟩:=id hc
 have hrun:runB c 2 1 = true:=decide_eq_true (by omega)
 have hw:wcheckF (reqM 1 0 0) = 0:=by
  rw [← check7_eq]
  simp [check7F,reqM,nmL,nmT,r7e,r7d,r7c,r7b,r7a,rightF,hasF,mostF,bits7,put7]
  rfl
 have hok:=co0_ok hc
 obtain ⟨_,st,hst,hres,hcq⟩:=sub_fine hok.cq (p:=p) (by show (0:Nat) < 8;omega) hp
 have hst':applyG (co0 c).q.st (co0 c).q.st 0 [subC 1 p] = ((0,0),st):=hst
 obtain ⟨s',g3,g4⟩:=applyG_inv hst'
 have g5:=applyG_end g4
 have est:st = ⟨c.attempts,[⟨1,1,0,0,0,0,0,0⟩],0,[p],[[]]⟩:=by
  rw [g5]
  unfold stepF at g3
  rw [if_neg (by show ¬ ((2:Int) = 1);decide),if_pos (by rfl)] at g3
  split at g3
  ·cases g3
  ·injection g3 with g3
   exact g3.symm
 generalize hso:submitO c (co0 c) p 0 = o0 at hr
 have e0:o0 = (co0 c).mk_ c [subC 1 p] [] 0 [] (co0 c).rs:=by
  rw [← hso]
  exact if_pos ⟨rfl,by show (0:Nat) < 8;omega⟩
 have q1:o0.q.st = st:=by rw [e0];show (applyF _ _).2 = st;rw [show applyF (co0 c).q.st [subC 1 p] = ((0,0),st) from hst]
 have q2:o0.q.la = 0:=by rw [e0];rfl
 have q3:o0.q.ls = []:=by rw [e0];rfl
 have q4:o0.rs = Se.fresh c.runners.toNat:=by rw [e0];rfl
 have hrow:Se.rowAt o0.rs (2 - 2) = some (Se.Dk.zero 0):=by
  rw [q4]
  unfold Se.rowAt Se.fresh Se.hasB
  rw [if_pos (by rw [List.length_map,List.length_range];exact decide_eq_true (by omega)),List.getElem?_map]
  have:(List.range c.runners.toNat)[((2:Int) - 2).toNat]? = some 0:=by
   rw [List.getElem?_range (by show (0:Nat) < _;omega)];rfl
  rw [this];rfl
 unfold HearR at hr
 rw [dec_enc hw ⟨Int.le_refl _,by show (0:Int) < _;omega⟩] at hr
 dsimp only at hr
 rw [if_neg (fun q=>by rcases q with q|q|q;exact q rfl;rw [hrun] at q;cases q;omega),if_pos rfl] at hr
 have hh:Se.helloV (Se.rowAt o0.rs (2 - 2)) 1 = (2,0):=by
  rw [hrow]
  unfold Se.helloV Se.cntB
  dsimp only
  rw [if_pos (by decide),if_neg (by decide),if_neg (by decide)]
 have e1:helloO c o0 2 1 = ((encF (welM (o0.q.la + 1))).1,o0.mk_ c ((resL (resOf c o0.q)).map Cg.c) o0.q.ls (o0.q.la + 1) o0.q.ws (Se.putRow o0.rs (2 - 2) (Se.openV (Se.rowAt o0.rs (2 - 2)) (2 - 2) 1 (o0.q.la + 1)))):=if_pos (by rw [hh])
 rw [e1] at hr
 obtain ⟨hr1,hr2⟩:=hr
 rw [q2] at hr1 hr2
 have hopen:Se.openV (Se.rowAt o0.rs (2 - 2)) (2 - 2) 1 (0 + 1) = some ⟨0,1,1,0,⟨#[]⟩⟩:=by
  rw [hrow]
  unfold Se.openV Se.cntB
  dsimp only
  rw [if_pos ⟨by decide,by decide,by decide⟩]
  rfl
 have hstf:∃ nn,o1.q.st = { st with res:=nn }:=by
  have e:o1.q.st = (applyF o0.q.st ((resL (resOf c o0.q)).map Cg.c)).2:=by rw [hr2];rfl
  rw [e,q1]
  unfold resL
  split
  ·exact ⟨st.res,rfl⟩
  ·show ∃ nn,(applyG st st 0 [Ch.res (resOf c o0.q)]).2 = _
   rw [applyG]
   split
   ·exact ⟨st.res,rfl⟩
   ·cases hs:stepF st (Ch.res (resOf c o0.q)) with
    | none=>exact ⟨st.res,rfl⟩
    | some s2=>exact ⟨_,by rw [step_res hs];rfl⟩
 obtain ⟨nn,hstf⟩:=hstf
 refine ⟨hr1,by rw [hstf,est],by rw [hstf,est],by rw [hstf,est],⟨[],by rw [hstf,est]⟩,by rw [hr2];exact q3,⟨⟨#[]⟩,?_⟩⟩
 have e2:o1.rs = Se.putRow o0.rs 0 (some ⟨0,1,1,0,⟨#[]⟩⟩):=by
  rw [hr2,hopen];rfl
 rw [e2]
 exact Se.rowAt_put hrow
end Go.Proofs.YtkoelgkghijgiaaGreat
namespace Go.Proofs.YtkoelgkghijgiaaGreat
open Go Go.Sep Go.Proofs Go.Proofs.Tryz
set_option maxRecDepth 10000
set_option maxHeartbeats 40000000
set_option synthInstance.maxSize 2000
def HaltAt (rows:List (List Value)):Prop:=∃ w:ByteArray,rows[24]? = some [.string w,.int .i64 0,.bool false,.bool false]
theorem forms_halt:Con prog 65 #[] [] fun v A=>∃ g rows,v = .slice (some ⟨g,0,none⟩) 25 25 ∧ A = [(g,cl (rows.flatten ++ []) 148)] ∧ HaltAt rows ∧ RowsOk 4 rows:=by
 refine zqI (vs:=[]) func65 ntmps65 fun B=>?_
 refine zg3 ?_
 refine Ops.bsN _ rfl rfl rfl rfl rfl rfl rfl rfl rfl rfl (noPd rfl) (fun g=>?_)
 refine zg0 ?_
 refine Cd.ret (ret1 rfl (Res.tmp rfl) (fun _ h=>h) ⟨g,_,rfl,rfl,⟨_,rfl⟩,?_⟩)
 intro r hr
 revert r
 repeat (first|exact List.forall_mem_nil _|refine List.forall_mem_cons.2 ⟨⟨rfl,rfl⟩,?_⟩)
@[reducible] def haltI:Inz:=⟨24,0,0,0,0,0⟩
@[reducible] def FoB (fb:Nat) (w:ByteArray) (m:Nat):Blk:=(fb,cl [.string w,.int .i64 m,.bool false,.bool false] 148)
theorem wrong_halt (op n many:Int) (hop:op = 24) (hn:n = 0) (hm:many = 1):Con prog 102 #[.agg (insR op 0 0 0 n 0).toArray,.int .i64 many] [] fun v A=>v = .int .i64 0 ∧ A = []:=by
 refine zqI (vs:=[_,_]) func102 ntmps102 fun B=>?_
 generalize hc3:Code.seq (Code.region 3 _ _) _ = c3
 have h1:¬ op < 1:=by omega
 have h2:¬ 25 ≤ op:=by omega
 repeat' (first|refine Cd.seq ?_|refine Cd.reg ?_|refine Ops.nil ?_|refine Ops.mv rfl rfl rfl rfl ?_|refine Ops.asg rfl rfl rfl rfl ?_|refine Ops.fa0 rfl rfl rfl rfl ?_|refine Ops.ld1 rfl rfl rfl rfl rfl ?_|refine Ops.bin rfl rfl rfl rfl rfl ?_|refine Ops.pickF rfl rfl rfl rfl rfl ?_|refine Ops.box rfl rfl rfl rfl (noPd rfl) (fun b=>?_)|refine Cd.skip (Cd.next ?_)|refine Cd.condF rfl zp0 ?_|((fail_if_success refine Ops.probe rfl ?_);refine Ops.gF rfl rfl zp0 ?_))
 rename Nat=>ib
 subst hc3
 refine Cd.cut (σ:=Nat × ByteArray) (fun _=>True) (fun t=>[(1,.int .i64 many),(2,ptr ib),(5,ptr t.1)]) (fun t=>[FoB t.1 t.2 0,(ib,cl (insR op 0 0 0 n 0) 82)]) ?_ (fun t ht=>?_)
 ·skip
  refine zdr [qz 1,qy 2,(0,4,[2]),qz 3,qy 4,(5,2,[2,4]),(6,2,[])] ?_
  refine zg5 ?_
  refine Ops.fork' [(1,0,[]),(2,1,[]),(5,4,[2]),(0,2,[2]),(3,0,[]),(4,1,[]),(6,2,[])] (by kernel_rfl) rfl (by simp only [picked,nth];exact rfl) ?_ ?_
  ·skip
   refine Ops.call forms_halt rfl zp5 rfl rfl rfl (fun v A' hR=>?_)
   obtain ⟨g,rows,rfl,rfl,⟨fw,hx⟩,hok⟩:=hR
   have hx:rows[(op:Int).toNat]? = some [.string fw,.int .i64 0,.bool false,.bool false]:=by rw [hop];exact hx
   refine Ops.ixa0 rfl rfl rfl rfl (by omega) (by omega) rfl ?_
   refine Ops.ldRow rfl rfl rfl hok hx rfl ?_
   refine Ops.alloc rfl rfl rfl zp10 (fun fb=>?_)
   refine zg19 ?_
   exact ze33
  ·skip
   repeat' (first|refine Ops.alloc rfl rfl rfl zp3 (fun b=>?_))
   rename Nat=>fb
   refine Ops.call forms_halt rfl zp5 rfl rfl rfl (fun v A' hR=>?_)
   obtain ⟨g,rows,rfl,rfl,⟨fw,hx⟩,hok⟩:=hR
   have hx:rows[(op:Int).toNat]? = some [.string fw,.int .i64 0,.bool false,.bool false]:=by rw [hop];exact hx
   refine zg14 ?_
   exact ze33
 ·obtain ⟨fb,fw⟩:=t
  dsimp only
  generalize hc16:Code.seq (Code.region 16 _ _) _ = c16
  refine zg1 ?_
  refine Ops.bsN [[.int .i64 0],[.int .i64 0],[.int .i64 0]] rfl rfl rfl rfl rfl rfl rfl rfl rfl rfl (noPd rfl) (fun sb=>?_)
  refine zg1 ?_
  have hok:RowsOk 1 [[Value.int .i64 0],[Value.int .i64 0],[Value.int .i64 0]]:=by
   refine List.forall_mem_cons.2 ⟨⟨rfl,rfl⟩,List.forall_mem_cons.2 ⟨⟨rfl,rfl⟩,List.forall_mem_cons.2 ⟨⟨rfl,rfl⟩,List.forall_mem_nil _⟩⟩⟩
  have hat:∀ i:Int,0 ≤ i → i < 3 → ∃ g:Int,g = 0 ∧ [[Value.int .i64 0],[Value.int .i64 0],[Value.int .i64 0]][i.toNat]? = some [.int .i64 g]:=fun i h0 h3=>by
   obtain rfl|rfl|rfl:i = 0 ∨ i = 1 ∨ i = 2:=by omega
   ·exact ⟨0,rfl,rfl⟩
   ·exact ⟨0,rfl,rfl⟩
   ·exact ⟨0,rfl,rfl⟩
  generalize hrs:[[Value.int .i64 0],[Value.int .i64 0],[Value.int .i64 0]] = rs at hok hat ⊢
  obtain ⟨fn,hfn,hfb⟩:∃ fn:Int,fn = 0 ∧ FoB fb fw 0 = (fb,cl [.string fw,.int .i64 fn,.bool false,.bool false] 148):=⟨0,rfl,rfl⟩
  rw [hfb]
  refine Cd.loopK (σ:=Int) (fun i=>0 ≤ i ∧ i ≤ 3) (fun i=>[(1,.int .i64 many),(2,ptr ib),(5,ptr fb),(27,.slice (some ⟨sb,0,none⟩) 3 3),(28,.int .i64 3),(29,.int .i64 i)]) (fun _=>(sb,cl (rs.flatten ++ []) 3) :: [(fb,cl [.string fw,.int .i64 fn,.bool false,.bool false] 148),(ib,cl (insR op 0 0 0 n 0) 82)]) (fun i=>(3 - i).toNat) 0 ⟨by omega,by omega⟩ ⟨rfl,rfl,rfl,rfl,rfl,rfl,trivial⟩ (fun w h=>h.split) (fun i hI=>?_)
  obtain ⟨hi0,hi3⟩:=hI
  by_cases hil:i < 3
  ·obtain ⟨g,c2,hx⟩:=hat i hi0 hil
   have c1:fn ≤ i:=by omega
   refine zg10 ?_
   exact ze4
  ·obtain rfl:i = 3:=by omega
   clear hi0 hi3 hil
   have g3:¬ many < n:=by omega
   have g2:¬ n < 0:=by omega
   refine zg8 ?_
   subst hc16
   refine Cd.seq ?_
   refine zdr [qz 0,qy 1,qz 2,qz 3,qz 4,qy 5,qz 6,qz 7,qz 8,qz 9,qy 10,qz 12,qy 13,(11,2,[13]),qz 14,qz 15,qz 16] ?_
   refine zg3 ?_
   refine Ops.call (canon_spec 0) rfl zp1 rfl rfl rfl (fun v A' hR=>?_)
   obtain ⟨rfl,rfl⟩:=hR
   rw [show ((canonF 0:Nat):Int) = 0 from by decide]
   refine zg7 ?_
   all_goals skip
   all_goals exact Cd.ret (ret1 (A':=[]) rfl (Res.tmp rfl) (fun _ h=>h.split) ⟨rfl,rfl⟩)
theorem pcheck_halt (B0:Base) (fuel:Int) (hf:fuel = 1) (a:Option Addr) (cp:Nat) (l:List Inz) (hl:l = [haltI]) (hC:RIn 6 B0 a (l.map Inz.row)) :
  ConB prog B0 63 #[.agg [.int .i64 fuel,.slice a l.length cp].toArray] [] fun v A=>v = .tuple #[.int .i64 0,.int .i64 0] ∧ A = []:=by
 refine zqJ (vs:=[_]) func63 ntmps63 fun B hB=>?_
 have h1:¬ fuel < 1:=by omega
 have h2:¬ 1024 < fuel:=by omega
 have hll:l.length = 1:=by rw [hl];rfl
 have h3:¬ (l.length:Int) < 1:=by omega
 have h4:¬ (64:Int) < l.length:=by omega
 repeat' (first|refine Cd.seq ?_|refine Cd.reg ?_|refine Ops.nil ?_|refine Ops.mv rfl rfl rfl rfl ?_|refine Ops.asg rfl rfl rfl rfl ?_|refine Ops.fa0 rfl rfl rfl rfl ?_|refine Ops.ld1 rfl rfl rfl rfl rfl ?_|refine Ops.lenS rfl rfl rfl rfl ?_|refine Ops.bin rfl rfl rfl rfl rfl ?_|refine Ops.pickF rfl rfl rfl rfl rfl ?_|refine Ops.box rfl rfl rfl rfl (noPd rfl) (fun b=>?_)|refine Cd.block ?_|refine Cd.skip (Cd.next (Q':=fun _ _ _=>True) ?_)|refine Cd.condF rfl zp0 ?_|((fail_if_success refine Ops.probe rfl ?_);refine Ops.gF rfl rfl zp0 ?_))
 rename Nat=>pb
 refine Cd.loopK (σ:=Nat) (fun i=>i ≤ l.length) (fun i=>[(1,ptr pb),(28,.slice a l.length cp),(29,.int .i64 l.length),(30,.int .i64 i)]) (fun _=>[(pb,cl [.int .i64 fuel,.slice a l.length cp] 85)]) (fun i=>l.length - i) 0 (Nat.zero_le _) ⟨rfl,rfl,rfl,rfl,trivial⟩ (fun w h=>h.split) (fun i hi=>?_)
 by_cases hil:i < l.length
 ·have hil':(i:Int) < l.length:=by omega
  obtain ⟨x,hx⟩:∃ x,l[i]? = some x:=⟨_,List.getElem?_eq_getElem hil⟩
  have hxm:=List.mem_of_getElem? hx
  have hxe:x = haltI:=by rw [hl,List.mem_singleton] at hxm;exact hxm
  obtain ⟨b,off,hab,hrd⟩:=(hC.ext hB) i x.row (by rw [List.getElem?_map,hx];rfl)
  subst hab
  have hrw:∀ A j u,x.row[j]? = some u → Rd B.plain A b (off + (i:Int).toNat * 6 + j) u:=fun A j u hu=>by rw [Int.toNat_natCast];exact hrd A j u hu
  have hw:Con prog 102 #[.agg x.row.toArray,.int .i64 l.length] [] fun v A=>v = .int .i64 0 ∧ A = []:=by
   rw [hxe]
   exact wrong_halt 24 0 l.length rfl rfl (by omega)
  clear hxe hxm
  refine zg15 ?_
  refine Ops.ldRN (r:=x.row) rfl rfl rfl rfl (hrw _) rfl ?_
  repeat' (first|refine zs4 ?_|refine Ops.alloc rfl rfl rfl (noPd rfl) (fun b=>?_))
  refine Ops.call hw rfl (noPd rfl) rfl rfl rfl (fun v A' hR=>?_)
  obtain ⟨rfl,rfl⟩:=hR
  refine zg13 ?_
  exact ze6
 ·have hil':¬ (i:Int) < l.length:=by omega
  refine zg2 ?_
  exact ze10
def haltP:ByteArray:=⟨#[1,1,24]⟩
theorem numB_1:numB 1 = ⟨#[1]⟩:=by unfold numB;rw [numL_small (by omega)];rfl
theorem numB_24:numB 24 = ⟨#[24]⟩:=by unfold numB;rw [numL_small (by omega)];rfl
theorem halt_cat:numB 1 ++ numB 1 ++ numB 24 = haltP:=by rw [numB_1,numB_24];decide
theorem own_halt (g:Nat) (l:List Inz) (hl:l = [haltI]):Own 82 6 (.slice (some ⟨g,0,none⟩) l.length 1) (l.map Inz.row) [(g,cl ((l.map Inz.row).flatten ++ []) 82)]:=by
 subst hl
 exact ⟨fun r hr=>by rw [List.map_cons,List.map_nil,List.mem_singleton] at hr;subst hr;exact ⟨rfl,rfl⟩,.inr ⟨g,1,[],rfl,rfl,rfl,Nat.le_refl _⟩⟩
structure PkS where
 i:Nat
 b:ByteArray
theorem pack_halt (B0:Base) (g:Nat):ConB prog B0 29 #[.agg [.int .i64 1,.slice (some ⟨g,0,none⟩) 1 1].toArray] [(g,cl (haltI.row) 82)] fun v A=>v = .tuple #[.string haltP,.int .i64 0]:=by
 obtain ⟨l,hl⟩:∃ l:List Inz,l = [haltI]:=⟨_,rfl⟩
 have hO:=own_halt g l hl
 have hll:l.length = 1:=by rw [hl];rfl
 have hb:(g,cl haltI.row 82) = ((g,cl ((l.map Inz.row).flatten ++ []) 82):Blk):=by rw [hl];rfl
 have hv:(Value.slice (some ⟨g,0,none⟩) 1 1) = .slice (some ⟨g,0,none⟩) l.length 1:=by rw [hll]
 rw [hb,hv]
 have z1:=numB_size (n:=1) (by omega)
 have z24:=numB_size (n:=24) (by omega)
 refine zqJ (vs:=[_]) func29 ntmps29 fun B hB=>?_
 repeat' (first|refine zs1 ?_|refine Ops.box rfl rfl rfl rfl (noPd rfl) (fun b=>?_))
 rename Nat=>pb
 have hck:=ConB.lend (P:=prog) (B1:=B0) (G:=[(g,cl ((l.map Inz.row).flatten ++ []) 82)]) (A1:=[]) fun B1 e hG=>pcheck_halt B1 1 rfl (some ⟨g,0,none⟩) 1 l hl (Own.rin hO hG)
 refine Ops.callB hck hB rfl (noPd rfl) rfl rfl rfl (fun v A' hR=>?_)
 obtain ⟨A2,⟨rfl,rfl⟩,rfl⟩:=hR
 refine zg4 ?_
 refine zdr [qz 0,qy 1,qz 2,qz 4,qy 5,qy 6,qz 7,(3,2,[5,6]),(8,2,[]),qz 9,qz 10] ?_
 refine zg5 ?_
 refine Ops.cvI rfl rfl rfl rfl ?_
 rw [show IntKind.wrap .u64 (1:Int) = ((1:Nat):Int) from by decide]
 refine zg17 ?_
 refine Ops.cvI rfl rfl rfl rfl ?_
 rw [wrap_u64 (n:=l.length) (by omega)]
 refine Ops.call (num_spec 1 (by omega)) rfl zp6 rfl rfl rfl (fun v A' hR=>?_)
 obtain ⟨rfl,rfl⟩:=hR
 refine zqA (num_spec l.length (by omega)) fun v A' hR=>?_
 obtain ⟨rfl,rfl⟩:=hR
 rw [show numB l.length = numB 1 from by rw [hll]]
 refine Ops.cat rfl rfl rfl rfl (by omega) rfl ?_
 refine zg1 ?_
 have hbs:(numB 1 ++ numB 1).size ≤ 20:=by rw [ByteArray.size_append];omega
 have hcat:=halt_cat
 generalize numB 1 ++ numB 1 = b0 at hbs hcat ⊢
 refine Cd.loopK (σ:=PkS) (fun t=>t.i ≤ l.length ∧ (t.i = 0 → t.b = b0) ∧ (t.i = 1 → t.b = haltP)) (fun t=>[(1,ptr pb),(6,.string t.b),(31,.slice (some ⟨g,0,none⟩) l.length 1),(32,.int .i64 l.length),(33,.int .i64 t.i)]) (fun _=>[(pb,cl [.int .i64 1,.slice (some ⟨g,0,none⟩) l.length 1] 85),(g,cl ((l.map Inz.row).flatten ++ []) 82)]) (fun t=>l.length - t.i) ⟨0,b0⟩ ⟨Nat.zero_le _,fun _=>rfl,(fun q=>by cases q)⟩ ⟨rfl,rfl,rfl,rfl,rfl,trivial⟩ (fun w h=>h.split) (fun t ht=>?_)
 obtain ⟨i,b⟩:=t
 obtain ⟨hi,hi0,hi1⟩:=ht
 dsimp only at hi hi0 hi1 ⊢
 by_cases hil:i < l.length
 ·have hil':(i:Int) < l.length:=by omega
  obtain rfl:b = b0:=hi0 (by omega)
  obtain ⟨x,hx⟩:∃ x,l[i]? = some x:=⟨_,List.getElem?_eq_getElem hil⟩
  have hxe:x = haltI:=by
   have hxm:=List.mem_of_getElem? hx
   rw [hl,List.mem_singleton] at hxm;exact hxm
  obtain ⟨op,xa,xb',xc,xn,xk⟩:=x
  have hxr:(l.map Inz.row)[(i:Int).toNat]? = some (insR op xa xb' xc xn xk):=by rw [Int.toNat_natCast,List.getElem?_map,hx];rfl
  injection hxe with hop ha hb' hc' hn' hk'
  have hok2:=hO.1
  generalize hc8:Code.seq (Code.region 8 _ _) _ = c8
  repeat' (first|refine zs8 ?_|refine Ops.alloc rfl rfl rfl (noPd rfl) (fun b=>?_))
  rename Nat=>ib
  subst hc8
  subst ha hb' hc' hn' hk'
  refine Cd.cut (σ:=Nat × ByteArray) (fun _=>True) (fun t=>[(1,ptr pb),(6,.string b),(31,.slice (some ⟨g,0,none⟩) l.length 1),(32,.int .i64 l.length),(33,.int .i64 i),(8,ptr ib),(9,ptr t.1)]) (fun t=>[FoB t.1 t.2 0,(ib,cl (insR op 0 0 0 0 0) 82),(pb,cl [.int .i64 1,.slice (some ⟨g,0,none⟩) l.length 1] 85),(g,cl ((l.map Inz.row).flatten ++ []) 82)]) ?_ (fun t ht=>?_)
  ·skip
   refine zdr [qz 1,qy 2,(0,4,[2]),qz 3,qy 4,(5,2,[2,4]),(6,2,[])] ?_
   refine zg5 ?_
   refine Ops.fork' [(1,0,[]),(2,1,[]),(5,4,[2]),(0,2,[2]),(3,0,[]),(4,1,[]),(6,2,[])] (by kernel_rfl) rfl (by simp only [picked,nth];exact rfl) ?_ ?_
   ·skip
    refine Ops.call forms_halt rfl zp5 rfl rfl rfl (fun v A' hR=>?_)
    obtain ⟨g,rows,rfl,rfl,⟨fw,hx⟩,hok⟩:=hR
    have hx:rows[(op:Int).toNat]? = some [.string fw,.int .i64 0,.bool false,.bool false]:=by rw [hop];exact hx
    refine Ops.ixa0 rfl rfl rfl rfl (by omega) (by omega) rfl ?_
    refine Ops.ldRow rfl rfl rfl hok hx rfl ?_
    refine Ops.alloc rfl rfl rfl zp10 (fun fb=>?_)
    refine zg19 ?_
    exact ze34
   ·skip
    repeat' (first|refine Ops.alloc rfl rfl rfl zp3 (fun b=>?_))
    rename Nat=>fb
    refine Ops.call forms_halt rfl zp5 rfl rfl rfl (fun v A' hR=>?_)
    obtain ⟨g,rows,rfl,rfl,⟨fw,hx⟩,hok⟩:=hR
    have hx:rows[(op:Int).toNat]? = some [.string fw,.int .i64 0,.bool false,.bool false]:=by rw [hop];exact hx
    refine zg14 ?_
    exact ze34
  ·obtain ⟨fb,fw⟩:=t
   dsimp only
   refine zg1 ?_
   refine Ops.cvI rfl rfl rfl rfl ?_
   rw [show IntKind.wrap .u64 op = ((24:Nat):Int) from by rw [hop];decide]
   refine zqA (num_spec 24 (by omega)) fun v A' hR=>?_
   obtain ⟨rfl,rfl⟩:=hR
   refine Ops.cat rfl rfl rfl rfl (by omega) rfl ?_
   rw [hcat]
   generalize hc15:Code.seq (Code.seq (Code.region 10 _ _) _) _ = c10
   refine zg0 ?_
   subst hc15
   refine Cd.cut (σ:=Unit) (fun _=>True) (fun _=>[(1,ptr pb),(6,.string haltP),(31,.slice (some ⟨g,0,none⟩) l.length 1),(32,.int .i64 l.length),(33,.int .i64 i),(8,ptr ib),(9,ptr fb)]) (fun _=>[FoB fb fw 0,(ib,cl (insR op 0 0 0 0 0) 82),(pb,cl [.int .i64 1,.slice (some ⟨g,0,none⟩) l.length 1] 85),(g,cl ((l.map Inz.row).flatten ++ []) 82)]) ?_ (fun _ _=>?_)
   ·obtain ⟨m,hm0,hfb⟩:∃ m:Nat,m = 0 ∧ FoB fb fw 0 = (fb,cl [.string fw,.int .i64 m,.bool false,.bool false] 148):=⟨0,rfl,rfl⟩
    rw [hfb]
    have hm3:m ≤ 3:=by omega
    refine zg1 ?_
    refine Ops.bsN [[.int .i64 0],[.int .i64 0],[.int .i64 0]] rfl rfl rfl rfl rfl rfl rfl rfl rfl rfl (noPd rfl) (fun sb=>?_)
    refine zg16 ?_
    rw [Int.toNat_natCast]
    refine Cd.loopK (σ:=Unit) (fun _=>True) (fun _=>[(1,ptr pb),(6,.string haltP),(31,.slice (some ⟨g,0,none⟩) l.length 1),(32,.int .i64 l.length),(33,.int .i64 i),(8,ptr ib),(9,ptr fb),(58,.int .i64 m),(59,.int .i64 0)]) (fun _=>[(fb,cl [.string fw,.int .i64 m,.bool false,.bool false] 148),(ib,cl (insR op 0 0 0 0 0) 82),(pb,cl [.int .i64 1,.slice (some ⟨g,0,none⟩) l.length 1] 85),(g,cl ((l.map Inz.row).flatten ++ []) 82)]) (fun _=>0) () trivial ⟨rfl,rfl,rfl,rfl,rfl,rfl,rfl,rfl,rfl,trivial⟩ (fun w h=>h.split) (fun _ _=>?_)
    have hno:¬ (0:Int) < m:=by omega
    refine zg2 ?_
    exact Cd.exit (inTx (roundX (inBs (meet_end (Q:=fun _ _ _=>True) () trivial ⟨rfl,rfl,rfl,rfl,rfl,rfl,rfl,trivial⟩ (fun w h=>h.split)))))
   ·refine zg16 ?_
    exact Ops.nilN (round_end (⟨i + 1,haltP⟩:PkS) ⟨by show i + 1 ≤ l.length;omega,(fun q=>by cases q),fun _=>rfl⟩ zp15 ⟨rfl,rfl,rfl,rfl,rfl,trivial⟩ (fun w h=>h.split))
 ·have hil':¬ (i:Int) < l.length:=by omega
  obtain rfl:b = haltP:=hi1 (by omega)
  refine zg2 ?_
  exact Cd.ret (ret2 (A':=[]) rfl (Res.tmp rfl) (Res.tmp rfl) (fun _ h=>h.split) rfl)
structure UhS where
 i:Nat
 l:List Inz
 jv:Value
 JG:List Blk
def UnpackY (B0:Base) (p:ByteArray):Prop:=ConB prog B0 68 #[.string p] [] fun v A=>∃ (f:Int) (a:Option Addr) (n k:Nat),v = .tuple #[.agg #[.int .i64 f,.slice a n k],.int .i64 0]
theorem rd_1:rdNum haltP 1024 0 0 = (1,1,0):=by decide
theorem rd_2:rdList haltP 64 1 0 = (1,2,0):=by decide
theorem rd_3:rdNum haltP 24 2 0 = (24,3,0):=by decide
theorem rd_4:endF haltP 3 0 = (0,0):=by decide
theorem unpack_halt (B0:Base):UnpackY B0 haltP:=by
 unfold UnpackY
 have hsz:haltP.size = 3:=rfl
 have e1:=rd_1
 have e2:=rd_2
 have e3:=rd_3
 have e4:=rd_4
 generalize haltP = p at hsz e1 e2 e3 e4 ⊢
 refine zqJ (vs:=[_]) func68 ntmps68 fun B hB=>?_
 have hsz':¬ (1024:Int) < p.size:=by omega
 have hb:p.size ≤ 1000000:=by omega
 repeat' (first|refine zs4 ?_|refine Ops.alloc rfl rfl rfl (noPd rfl) (fun b=>?_))
 rename Nat=>zb
 refine zqA (read_spec p) fun v A' hR=>?_
 obtain ⟨rb,rfl,rfl⟩:=hR
 refine zg0 ?_
 refine Ops.callB (rnum_spec B0 rb p 0 1024 0 (Nat.zero_le _) hb (by omega)) hB rfl (noPd rfl) rfl rfl rfl (fun v A' hR=>?_)
 obtain ⟨rfl,rfl⟩:=hR
 rw [e1]
 dsimp only
 refine Ops.cvI rfl rfl rfl rfl ?_
 rw [wrap_i64 (n:=1) (by omega)]
 repeat' (first|refine zs0 ?_|refine Ops.alloc rfl rfl rfl (noPd rfl) (fun b=>?_))
 rename Nat=>pb
 refine zqB (rlist_spec B0 rb p 1 64 0 (by omega) hb (by omega)) hB fun v A' hR=>?_
 obtain ⟨rfl,rfl⟩:=hR
 rw [e2]
 dsimp only
 obtain ⟨n,hn1⟩:∃ n:Nat,n = 1:=⟨1,rfl⟩
 rw [show (((1:Nat):Int)) = ((n:Nat):Int) from by rw [hn1]]
 obtain ⟨fu,hfu⟩:∃ fu:Int,fu = ((n:Nat):Int):=⟨_,rfl⟩
 refine zg1 ?_
 refine Cd.loopK (σ:=UhS) (fun t=>t.i ≤ n ∧ Own 82 6 t.jv (t.l.map Inz.row) t.JG ∧ (t.i = 0 → t.l = []) ∧ (t.i = 1 → t.l = [haltI])) (fun t=>[(0,.string p),(2,ptr zb),(4,ptr rb),(5,ptr pb),(25,.int .i64 n),(26,.int .i64 t.i)])
  (fun t=>(zb,cl [.int .i64 0,.slice none 0 0] 85) :: RdB rb p ((2 + t.i:Nat):Int) 0 :: (pb,cl [.int .i64 n,t.jv] 85) :: t.JG) (fun t=>n - t.i) ⟨0,[],.slice none 0 0,[]⟩ ⟨Nat.zero_le _,Own.none,fun _=>rfl,(fun q=>by cases q)⟩ ⟨rfl,rfl,rfl,rfl,rfl,rfl,trivial⟩ (fun w h=>h.split) (fun t ht=>?_)
 obtain ⟨i,l,jv,JG⟩:=t
 obtain ⟨hi,hO,hl0,hl1⟩:=ht
 dsimp only at hi hO hl0 hl1 ⊢
 obtain ⟨ja,jc,rfl⟩:=Own.form hO
 have hll:(l.map Inz.row).length = l.length:=List.length_map _
 rw [hll] at hO ⊢
 by_cases hin:i < n
 ·have hin':(i:Int) < n:=by omega
  have hi0:i = 0:=by omega
  have hl:=hl0 hi0
  have hlz:l.length = 0:=by rw [hl];rfl
  have hpos:2 + i = 2:=by omega
  rw [hpos]
  generalize hc8:Code.seq (Code.region 8 _ _) _ = c8
  refine zg2 ?_
  refine zqB (rnum_spec B0 rb p 2 24 0 (by omega) hb (by omega)) hB fun v A' hR=>?_
  obtain ⟨rfl,rfl⟩:=hR
  rw [e3]
  dsimp only
  obtain ⟨op,hop'⟩:∃ op:Nat,op = 24:=⟨24,rfl⟩
  rw [show (((24:Nat):Int)) = ((op:Nat):Int) from by rw [hop']]
  have hop:(op:Int) = 24:=by omega
  refine Ops.cvI rfl rfl rfl rfl ?_
  rw [wrap_i64 (n:=op) (by omega)]
  repeat' (first|refine zs0 ?_|refine Ops.alloc rfl rfl rfl (noPd rfl) (fun b=>?_))
  rename Nat=>xb
  subst hc8
  refine Cd.cut (σ:=Nat × ByteArray) (fun _=>True) (fun t=>[(0,.string p),(2,ptr zb),(4,ptr rb),(5,ptr pb),(25,.int .i64 n),(26,.int .i64 i),(6,ptr xb),(7,ptr t.1)])
   (fun t=>FoB t.1 t.2 0 :: (xb,cl (insR op 0 0 0 0 0) 82) :: (zb,cl [.int .i64 0,.slice none 0 0] 85) :: RdB rb p ((3:Nat):Int) 0 :: (pb,cl [.int .i64 n,.slice ja l.length jc] 85) :: JG) ?_ (fun t ht=>?_)
  ·skip
   refine zdr [qz 1,qy 2,(0,4,[2]),qz 3,qy 4,(5,2,[2,4]),(6,2,[])] ?_
   refine zg5 ?_
   refine Ops.fork' [(1,0,[]),(2,1,[]),(5,4,[2]),(0,2,[2]),(3,0,[]),(4,1,[]),(6,2,[])] (by kernel_rfl) rfl (by simp only [picked,nth];exact rfl) ?_ ?_
   ·skip
    refine Ops.call forms_halt rfl zp5 rfl rfl rfl (fun v A' hR=>?_)
    obtain ⟨g,rows,rfl,rfl,⟨fw,hx⟩,hok⟩:=hR
    have hx:rows[(op:Int).toNat]? = some [.string fw,.int .i64 0,.bool false,.bool false]:=by rw [hop];exact hx
    refine Ops.ixa0 rfl rfl rfl rfl (by omega) (by omega) rfl ?_
    refine Ops.ldRow rfl rfl rfl hok hx rfl ?_
    refine Ops.alloc rfl rfl rfl zp10 (fun fb=>?_)
    refine zg19 ?_
    exact ze35
   ·skip
    repeat' (first|refine Ops.alloc rfl rfl rfl zp3 (fun b=>?_))
    rename Nat=>fb
    refine Ops.call forms_halt rfl zp5 rfl rfl rfl (fun v A' hR=>?_)
    obtain ⟨g,rows,rfl,rfl,⟨fw,hx⟩,hok⟩:=hR
    have hx:rows[(op:Int).toNat]? = some [.string fw,.int .i64 0,.bool false,.bool false]:=by rw [hop];exact hx
    refine zg14 ?_
    exact ze35
  ·obtain ⟨fb,fw⟩:=t
   dsimp only
   refine Cd.cut (σ:=Unit) (fun _=>True) (fun _=>[(0,.string p),(2,ptr zb),(4,ptr rb),(5,ptr pb),(25,.int .i64 n),(26,.int .i64 i),(6,ptr xb),(7,ptr fb)])
    (fun _=>FoB fb fw 0 :: (xb,cl (insR op 0 0 0 0 0) 82) :: (zb,cl [.int .i64 0,.slice none 0 0] 85) :: RdB rb p ((3:Nat):Int) 0 :: (pb,cl [.int .i64 n,.slice ja l.length jc] 85) :: JG) ?_ (fun _ _=>?_)
   ·obtain ⟨m,hm0,hfb⟩:∃ m:Nat,m = 0 ∧ FoB fb fw 0 = (fb,cl [.string fw,.int .i64 m,.bool false,.bool false] 148):=⟨0,rfl,rfl⟩
    rw [hfb]
    have hm3:m ≤ 3:=by omega
    refine zg1 ?_
    refine Ops.bsN [[ptrAt xb 1],[ptrAt xb 2],[ptrAt xb 3]] rfl rfl rfl rfl rfl rfl rfl rfl rfl rfl (noPd rfl) (fun sb=>?_)
    refine zg16 ?_
    rw [Int.toNat_natCast]
    refine Cd.loopK (σ:=Unit) (fun _=>True) (fun _=>[(0,.string p),(2,ptr zb),(4,ptr rb),(5,ptr pb),(25,.int .i64 n),(26,.int .i64 i),(6,ptr xb),(7,ptr fb),(44,.int .i64 m),(45,.int .i64 0)])
     (fun _=>(fb,cl [.string fw,.int .i64 m,.bool false,.bool false] 148) :: (xb,cl (insR op 0 0 0 0 0) 82) :: (zb,cl [.int .i64 0,.slice none 0 0] 85) :: RdB rb p ((3:Nat):Int) 0 :: (pb,cl [.int .i64 n,.slice ja l.length jc] 85) :: JG) (fun _=>0) () trivial ⟨rfl,rfl,rfl,rfl,rfl,rfl,rfl,rfl,rfl,rfl,trivial⟩ (fun w h=>h.split) (fun _ _=>?_)
    have hno:¬ (0:Int) < m:=by omega
    refine zg2 ?_
    exact Cd.exit (inTx (roundX (inBs (meet_end (Q:=fun _ _ _=>True) () trivial ⟨rfl,rfl,rfl,rfl,rfl,rfl,rfl,rfl,trivial⟩ (fun w h=>h.split)))))
   ·repeat' (first|refine zs4 ?_|refine Ops.bs1 rfl rfl rfl rfl rfl rfl rfl (noPd rfl) (fun b=>?_))
    refine Ops.app1 (rows:=l.map Inz.row) hO (by rw [hll];omega) (by rw [hll];omega) rfl rfl rfl rfl (by rfl) (by rfl) rfl (noPd rfl) rfl (fun v G' hG'=>?_)
    have hG2:Own 82 6 v ((l ++ [(⟨op,0,0,0,0,0⟩:Inz)]).map Inz.row) G':=by rw [List.map_append];exact hG'
    clear hG'
    obtain ⟨ja2,jc2,rfl⟩:=Own.form hG2
    refine zg9 ?_
    exact Ops.nilN (round_end (⟨i + 1,l ++ [(⟨op,0,0,0,0,0⟩:Inz)],_,G'⟩:UhS) ⟨by show i + 1 ≤ n;omega,hG2,(fun q=>by cases q),fun _=>by rw [hl,hop];rfl⟩ (by show n - (i + 1) < n - i;omega) ⟨rfl,rfl,rfl,rfl,rfl,rfl,trivial⟩ (fun w h=>by rw [show 2 + (i + 1) = 3 from by omega];exact h.split))
 ·have hin':¬ (i:Int) < n:=by omega
  have hi1:i = 1:=by omega
  have hl:=hl1 hi1
  rw [show 2 + i = 3 from by omega]
  refine zg2 ?_
  refine zqA (end_spec rb p 3 0) fun v A' hR=>?_
  obtain ⟨rfl,rfl⟩:=hR
  rw [e4]
  dsimp only
  refine zg4 ?_
  have hck:=ConB.lend (P:=prog) (B1:=B0) (G:=JG) (A1:=[]) fun B1 e hG=>pcheck_halt B1 n (by omega) ja jc l hl (Own.rin hO hG)
  refine Ops.callB hck hB rfl (noPd rfl) rfl rfl rfl (fun v A' hR=>?_)
  obtain ⟨A2,⟨rfl,rfl⟩,rfl⟩:=hR
  refine zg7 ?_
  exact Cd.ret (ret2 (A':=[]) rfl (Res.cellN rfl) (Res.tmp rfl) (fun _ h=>h.split) ⟨_,_,_,_,rfl⟩)
theorem sub1_yes (B0:Base) (xb lb tb cb mb db wb sb px bx xx jx:Nat) (c:Cf) (hc:CfOk c) (dead:Bool) (w:Wl) (x:Dk) (len:Nat) (lg:LgOk w x len) (hroom:20480 ≤ roomF len) (hnum:w.h.number + 2 < 1099511627776) (k:Nat) (D:List Blk) (hD:DkA db x k D) (hk:k ≤ 700000000000) (s:StP) (SD:List Blk) (hS:StA sb s SD) (ok:StOk s) (bd:StBd s) (tv:Value) (tl:List Cg) (TG:List Blk) (hT:OwnC tv tl TG) (htl:tl.length ≤ 1000000000)
  (p:ByteArray) (hup:UnpackY B0 p) (hp1:1 ≤ p.size) (hp2:p.size ≤ 1024) (hf:s.rows.length < 8) (henc:(encodeF [subC ((s.rows.length:Nat) + 1) p]).2 = 0) :
  ConB prog B0 67 #[ptr px,ptr bx,ptr xx,ptr jx] (CoB xb lb tb cb mb db wb sb c tv dead :: WlB wb db w :: (SD ++ (D ++ (TG ++ SmB px bx xx jx xb p 0 0))))
   fun v A=>∃ bad job A1,(bad = 0 ∧ SubR xb lb tb cb mb db wb sb c dead w x k D s SD tv tl TG p bad job A1) ∧ A = A1 ++ SmB px bx xx jx xb p bad job:=by
 have hn:=ok.nr
 refine zqJ (vs:=[_,_,_,_]) func67 ntmps67 fun B hB=>?_
 refine zg1 ?_
 refine Ops.callB hup hB rfl (noPd rfl) rfl rfl rfl (fun v A' hR=>?_)
 obtain ⟨f,a,n,k0,rfl⟩:=hR
 repeat' (first|refine zs2 ?_|refine Ops.alloc rfl rfl rfl (noPd rfl) (fun b=>?_))
 refine zqB (view_own B0 sb s SD hS ok) hB fun v A' hR=>?_
 obtain ⟨VG,⟨va,ps,JG,rfl,rfl,_⟩,rfl⟩:=hR
 refine Ops.fld ⟨_,_,_,underlying49,rfl,underlying47,rfl,rfl⟩ rfl rfl rfl rfl rfl ?_
 have hcn:¬ (8:Int) ≤ ((s.rows.length:Nat):Int):=by omega
 have hmk:=fun bb:Nat=>makes_lent B0 xb lb tb cb mb db wb sb c hc dead w x len lg hroom hnum k D hD hk s SD hS ok bd tv tl TG hT htl (some ⟨bb,0,none⟩) 1 [⟨subC ((s.rows.length:Nat) + 1) p,none,0⟩] [(bb,cl ((subC ((s.rows.length:Nat) + 1) p).row none 0) 103)] (fun B1 e hG=>(own_one bb _).cin (fun g hg=>by rw [List.mem_singleton] at hg;subst hg;exact ⟨rfl,rfl,by show (0:Int) ≤ 0 ∧ (0:Int) < _;omega⟩) hG) (by show 0 < 1;omega) (by show 1 ≤ 2000000;omega) henc
 repeat' (first|refine zs7 ?_|refine Ops.bs1 rfl rfl rfl rfl rfl rfl rfl (noPd rfl) (fun b=>?_))
 rename Nat=>cbk
 refine zqB (hmk cbk) hB fun v A' hR=>?_
 obtain ⟨SD1,D1,tv1,TG1,k1,rfl,hS1,hD1,hk1,hT1⟩:=hR
 clear hmk
 rw [show ([⟨subC ((s.rows.length:Nat) + 1) p,none,0⟩]:List Cg).map Cg.c = [subC ((s.rows.length:Nat) + 1) p] from rfl] at hS1 hD1 ⊢
 refine zg9 ?_
 exact Ops.nilN (end0 (A':=CoB xb lb tb cb mb db wb sb c tv1 dead :: WlB wb db (mkW c.every w x (bytesS s) (encodeF [subC ((s.rows.length:Nat) + 1) p]).1).1 :: (SD1 ++ (D1 ++ (TG1 ++ SmB px bx xx jx xb p 0 ((s.rows.length:Nat) + 1))))) rfl (fun _ h=>h.split) ⟨0,_,_,⟨rfl,.inr ⟨rfl,rfl,hf,⟨hp1,hp2⟩,SD1,D1,tv1,TG1,k1,rfl,hS1,hD1,hk1,hT1⟩⟩,by simp only [List.cons_append,List.append_assoc]⟩)
theorem co_submit_yes (B0:Base) (xb db:Nat) (c:Cf) (hc:CfOk c) (len n:Nat) (hlen:20480 ≤ roomF len) (hn:n ≤ 2000000) (o:Co) (h:CoOk c len n o) (A:List Blk) (hA:CoP xb db c n o A) (p:ByteArray) (hup:UnpackY B0 p) (hps:1 ≤ p.size ∧ p.size ≤ 1024) (hf:o.q.st.rows.length < 8) :
  ConB prog B0 30 #[ptr xb,.string p] A fun v A'=>∃ bad job:Int,v = .tuple #[.int .i64 job,.int .i64 bad] ∧ CoP xb db c (n + 1) (submitO c o p 0) A':=by
 obtain ⟨A0,hp1,hA⟩:=hA
 have hAA:=hA
 obtain ⟨lb,lm,tb,cb,mb,wb,sb,tv,les,lck,sv,G,mes,mck_,SD,k,D,TG,TX,WG,rfl,hL,hO,hW,hS,hD,hk,hT⟩:=hA
 have hde:=h.lg.cm.de
 have hnm:=h.nm
 have htn:=h.tn
 obtain ⟨cgs,hcg,hcm,hct⟩:=hT
 have hcl:cgs.length ≤ 1000000000:=by
  have:cgs.length = o.tl.length:=by rw [← hcm,List.length_map]
  omega
 have hperm:(CoL xb lb lm tb cb mb db wb sb c o.q.la o.q.st.res tv les lck sv G mes mck_ o.w SD D TG TX WG).Perm (CoB xb lb tb cb mb db wb sb c tv false :: (D ++ (Ls.TB lb lm c.lease les lck ++ (Se.TabB tb sv G ++ (CtB cb c.block o.q.la o.q.st.res :: (mb,mpo mes mck_) :: WlB wb db o.w :: (SD ++ (TG ++ (TX ++ WG)))))))):=by
  refine perm_of fun c g ha hc' hp h0=>?_
  simp only [CoL,List.cons_append,List.append_assoc,List.nil_append,ha,hc',h0];omega
 refine ConB.permIn ?_ (hp1.trans hperm)
 refine (submit_over B0 xb lb tb cb mb db wb sb c tv o.x k D hD hde _ p (fun bad job A=>CoP xb db c (n + 1) (submitO c o p 0) A) fun px bx xx jx=>?_).mono fun v A' hR=>hR
 have hne:([subC ((o.q.st.rows.length:Nat) + 1) p]:List Ch) ≠ []:=by simp
 have hg:=(sub1_yes B0 xb lb tb cb mb db wb sb px bx xx jx c hc false o.w o.x len h.lg hlen (by omega) k D hD (by omega) o.q.st SD hS h.cq.ok h.cq.bd tv cgs TG hcg hcl p hup hps.1 hps.2 hf (sub_fine h.cq hf hps).1).beside (F:=Ls.TB lb lm c.lease les lck ++ (Se.TabB tb sv G ++ (CtB cb c.block o.q.la o.q.st.res :: (mb,mpo mes mck_) :: (TX ++ WG))))
 refine (hg.permIn ?_).permOut fun v A' hR=>?_
 ·refine perm_of fun c g ha hc' hp h0=>?_
  simp only [List.cons_append,List.append_assoc,List.nil_append,ha,hc',h0];omega
 ·obtain ⟨A2,⟨bad,job,A1,⟨hbad,hR⟩,rfl⟩,rfl⟩:=hR
  rcases hR with ⟨hb0,hb2,_,_⟩|⟨rfl,rfl,hf,hps,SD1,D1,tv1,TG1,k1,rfl,hS1,hD1,hk1,hT1⟩
  ·exact absurd hbad hb0
  ·obtain ⟨h1,st,h2,hres,h3⟩:=sub_fine h.cq hf hps
   rw [← mkR_some (s:=o.q.st) hne] at hD1 ⊢
   have hh:submitO c o p 0 = o.mk_ c [subC ((o.q.st.rows.length:Nat) + 1) p] o.q.ls o.q.la o.q.ws o.rs:=if_pos ⟨rfl,hf⟩
   refine ⟨_,⟨0,((o.q.st.rows.length:Nat):Int) + 1,CoL xb lb lm tb cb mb db wb sb c o.q.la o.q.st.res tv1 les lck sv G mes mck_ (mkR c.every o.w o.x o.q.st [subC ((o.q.st.rows.length:Nat) + 1) p]).1 SD1 D1 TG1 TX WG,?_,rfl⟩,?_⟩
   ·rw [hh]
    refine ⟨_,List.Perm.refl _,lb,lm,tb,cb,mb,wb,sb,tv1,les,lck,sv,G,mes,mck_,SD1,k1,D1,TG1,TX,WG,?_,hL,hO,hW,hS1,hD1,by omega,?_⟩
    ·show _ = CoL xb lb lm tb cb mb db wb sb c o.q.la (applyF o.q.st [subC ((o.q.st.rows.length:Nat) + 1) p]).2.res _ _ _ _ _ _ _ _ _ _ _ _ _
     rw [h2,hres];rfl
    ·show ToldA tv1 (o.tl ++ _) TG1 TX
     rw [← hcm]
     exact ToldA.bare (l:=[⟨subC ((o.q.st.rows.length:Nat) + 1) p,none,0⟩]) hT1 hct (fun g hg=>by rw [List.mem_singleton] at hg;subst hg;exact ⟨rfl,rfl,by show (0:Int) ≤ 0 ∧ (0:Int) < _;omega⟩)
   ·refine perm_of fun c g ha hc' hp h0=>?_
    simp only [CoL,List.cons_append,List.append_assoc,List.nil_append,ha,hc',h0];omega
def plcF (n m:Int):Int:=if n.tmod m < 0 then n.tmod m + m else n.tmod m
theorem tmod_three (n:Int):-3 < n.tmod 3 ∧ n.tmod 3 < 3:=by
 have h2:=Int.tmod_lt_of_pos n (show (0:Int) < 3 by omega)
 refine ⟨?_,h2⟩
 rcases Int.le_total 0 n with h|h
 ·have:=Int.tmod_nonneg 3 h;omega
 ·have h4:=Int.tmod_nonneg 3 (show 0 ≤ -n by omega)
  have h5:=Int.tmod_lt_of_pos (-n) (show (0:Int) < 3 by omega)
  rw [Int.neg_tmod] at h4 h5
  omega
theorem plc_three (n:Int):0 ≤ plcF n 3 ∧ plcF n 3 < 3:=by
 obtain ⟨h1,h2⟩:=tmod_three n
 unfold plcF
 generalize n.tmod 3 = q at h1 h2 ⊢
 split <;> omega
theorem plc_spec (n m:Int) (hm:1 ≤ m ∧ m ≤ 1000) (hlt:-m < n.tmod m ∧ n.tmod m < m):Con prog 31 #[.int .i64 n,.int .i64 m] [] fun v A=>v = .int .i64 (plcF n m) ∧ A = []:=by
 refine zqI (vs:=[_,_]) func31 ntmps31 fun B=>?_
 unfold plcF
 generalize hq:n.tmod m = q at hlt
 refine zg0 ?_
 refine Ops.remI rfl rfl rfl rfl (by omega) rfl ?_
 rw [hq]
 by_cases h:q < 0
 ·rw [if_pos h]
  refine zg16 ?_
  exact ze9
 ·rw [if_neg h]
  refine zg2 ?_
  exact ze9
theorem plc3_spec (n:Int):Con prog 31 #[.int .i64 n,.int .i64 3] [] fun v A=>v = .int .i64 (plcF n 3) ∧ A = []:=plc_spec n 3 ⟨by omega,by omega⟩ (tmod_three n)
theorem co_tickP (B0:Base) (xb db:Nat) (c:Cf) (hc:CfOk c) (len n:Nat) (hlen:20480 ≤ roomF len) (hn:n ≤ 2000000) (o:Co) (h:CoOk c len n o) (A:List Blk) (hA:CoP xb db c n o A) :
  ConB prog B0 32 #[ptr xb] A fun v A'=>v = .int .i64 0 ∧ CoP xb db c (n + 1) (o.tick c) A':=by
 obtain ⟨A0,hp1,hA0⟩:=hA
 exact ((co_tick B0 xb db c hc len n hlen hn o h A0 hA0).permIn hp1).mono fun v A' hR=>⟨hR.1,hR.2.p⟩
theorem placed_one (B0:Base) (xb db:Nat) (c:Cf) (len n:Nat) (o:Co) (h:CoOk c len n o) (A:List Blk) (hA:CoP xb db c n o A) (r:Rw) (hr:o.q.st.rows = [r]) (job:Int) (hj:job = 1) :
  ConB prog B0 23 #[ptr xb,.int .i64 job] A fun v A'=>(∃ q:Pl,v = .agg q.row.toArray ∧ q.r = r) ∧ CoP xb db c n o A':=by
 have hok:=h.cq.ok
 refine zqJ (vs:=[_,_]) func23 ntmps23 fun B hB=>?_
 repeat' (first|refine zs1 ?_|refine Ops.alloc rfl rfl rfl (noPd rfl) (fun b=>?_))
 rename Nat=>zb
 refine zqB (co_view_ B0 xb db c len n o h A hA) hB fun v A' hR=>?_
 obtain ⟨V,A1,rfl,hV,hP⟩:=hR
 obtain ⟨va,ps,JG,rfl,rfl,hrs,_,hpu⟩:=hV
 have hlen1:o.q.st.rows.length = 1:=by rw [hr];rfl
 have hpl:ps.length = 1:=by
  have e:(ps.map Pl.pure).length = (viewL o.q.st).length:=by rw [hpu]
  rw [List.length_map] at e
  rw [e]
  have:=hok.np;have:=hok.nl
  unfold viewL
  rw [List.length_zip,List.length_zip]
  omega
 obtain ⟨q,hq⟩:∃ q,ps[0]? = some q:=⟨_,List.getElem?_eq_getElem (by omega)⟩
 have hqr:q.r = r:=by
  have e:(ps.map Pl.pure)[0]? = some q.pure:=by rw [List.getElem?_map,hq];rfl
  rw [hpu] at e
  have hm:=List.mem_of_getElem? e
  unfold viewL at hm
  have h2:=(List.of_mem_zip hm).1
  rw [hr,List.mem_singleton] at h2
  exact h2
 have hjr:(ps.map Pl.row)[(job - 1).toNat]? = some q.row:=by
  rw [show (job - 1).toNat = 0 from by omega,List.getElem?_map,hq];rfl
 have hk:=pls_ok ps
 generalize hnn:o.q.st.rows.length = nn at hlen1 hrs ⊢
 obtain ⟨g1,d1,sp1,e1,rfl⟩:=hrs.some_ (by rw [List.length_map];omega)
 injection e1 with z1 z2 z3
 subst z1;subst z3
 clear z2
 have g2:¬ (nn:Int) < job:=by omega
 have g3:¬ job < 1:=by omega
 repeat' (first|refine Cd.seq ?_|refine Cd.reg ?_|refine Ops.nil ?_|refine Ops.mv rfl rfl rfl rfl ?_|refine Ops.fa0 rfl rfl rfl rfl ?_|refine Ops.ld1 rfl rfl rfl rfl rfl ?_|refine Ops.lenS rfl rfl rfl rfl ?_|refine Ops.subI rfl rfl rfl rfl (by omega) (by omega) rfl ?_|refine Ops.bin rfl rfl rfl rfl rfl ?_|refine Ops.pickF rfl rfl rfl rfl rfl ?_|refine Ops.alloc rfl rfl rfl (noPd rfl) (fun b=>?_)|refine Ops.stN rfl rfl rfl rfl rfl rfl (noPd rfl) ?_|refine Cd.skip (Cd.next ?_)|refine Ops.ixa0 rfl rfl rfl rfl (by omega) (by omega) rfl ?_|refine Ops.ldRow rfl rfl rfl (by assumption) (by assumption) rfl ?_|refine Cd.condF rfl zp0 ?_|((fail_if_success refine Ops.probe rfl ?_);refine Ops.gF rfl rfl zp0 ?_))
 exact Cd.ret (ret1 (A':=A1) rfl (Res.cellN rfl) (fun _ h=>h.split) ⟨⟨q,rfl,hqr⟩,hP⟩)
theorem runs_first (B0:Base) (xb db:Nat) (c:Cf) (hc:CfOk c) (len n:Nat) (hlen:20480 ≤ roomF len) (hn:n ≤ 2000000) (o:Co) (h:CoOk c len n o) (A:List Blk) (hA:CoP xb db c n o A) (hlv:o.rs.filter Se.liveB = []) (hrl:o.rs.length ≤ 8)
  (hw:∀ (reply:ByteArray) (o1:Co),HearR c o 2 1 (encF (reqM 1 0 0)).1 reply o1 → reply = (encF (welM 1)).1) (slot:Int) (hsl:slot = 0) :
  ConB prog B0 21 #[ptr xb,.int .i64 slot] A fun v A'=>v = .tuple #[.agg [.int .i64 2,.int .i64 1].toArray,.int .i64 1] ∧ ∃ reply o1,HearR c o 2 1 (encF (reqM 1 0 0)).1 reply o1 ∧ CoOk c len (n + 1) o1 ∧ CoP xb db c (n + 1) o1 A':=by
 have hwh:wcheckF (reqM 1 0 0) = 0:=by
  rw [← check7_eq]
  simp [check7F,reqM,nmL,nmT,r7e,r7d,r7c,r7b,r7a,rightF,hasF,mostF,bits7,put7]
  rfl
 refine zqJ (vs:=[_,_]) func21 ntmps21 fun B hB=>?_
 repeat' (first|refine zs7 ?_|refine Ops.alloc rfl rfl rfl (noPd rfl) (fun b=>?_))
 rename_i zb
 rename Nat=>ab
 have e2:2 + slot = 2:=by omega
 rw [e2]
 refine zqB (co_sessions B0 xb db c n o A hA (by omega)) hB fun v A' hR=>?_
 obtain ⟨H1,A1,rfl,hO1,hP1⟩:=hR
 rw [hlv] at hO1
 obtain ⟨ha1,hc1,rfl⟩:=id hO1.form
 obtain ⟨nn,hn0⟩:∃ nn:Nat,nn = 0:=⟨0,rfl⟩
 rw [show (([]:List Se.Dk).length) = nn from by rw [hn0];rfl]
 refine zg1 ?_
 refine Cd.loopK (σ:=Unit) (fun _=>True) (fun _=>[(0,ptr xb),(4,ptr zb),(6,ptr ab),(7,.slice ha1 nn hc1),(8,.int .i64 0)]) (fun _=>(zb,cl [.int .i64 0,.int .i64 0] 33) :: (ab,cl [.int .i64 2,.int .i64 1] 33) :: A1) (fun _=>0) () trivial ⟨rfl,rfl,rfl,rfl,rfl,trivial⟩ (fun w h=>h.split) (fun _ _=>?_)
 have hno:¬ (0:Int) < nn:=by omega
 obtain ⟨lf,hlf,hab⟩:∃ lf:Int,lf = 1 ∧ (ab,cl [.int .i64 2,.int .i64 1] 33) = ((ab,cl [.int .i64 2,.int .i64 lf] 33):Blk):=⟨1,rfl,rfl⟩
 rw [hab]
 have hlf2:¬ 1099511627776 < lf:=by omega
 refine zg8 ?_
 have hsd:=said_spec B0 xb db c hc len n hlen hn o h A1 hP1 2 lf (reqM 1 0 0) ⟨Int.le_refl _,by show (0:Int) < _;omega⟩ hwh
 refine Ops.callB hsd hB rfl (noPd rfl) rfl rfl rfl (fun v A' hR=>?_)
 obtain ⟨reply,o1,hH,hP,rfl⟩:=hR
 rename List Blk=>A2
 subst hlf
 have hre:=hw reply o1 hH
 have hok1:=(h.hear hc hlen hn hH).1
 rw [hre,saidV_enc (wel_check (by omega)) ⟨Int.le_refl _,by show (0:Int) < _;omega⟩]
 generalize hm1:welM 1 = m1
 have hk7:m1.kind = 7:=by rw [← hm1]
 have hs7:m1.session = 1:=by rw [← hm1]
 repeat' (first|refine zs4 ?_|refine Ops.alloc rfl rfl rfl (noPd rfl) (fun b=>?_))
 rename Nat=>rb
 refine zdr [qy 0,qz 1,qy 2,(3,2,[2]),qz 4] ?_
 refine zg12 ?_
 all_goals skip
 exact Cd.ret (ret2 (A':=A2) rfl (Res.cellN rfl) (Res.tmp rfl) (fun _ h=>h.split) ⟨by rw [hs7],reply,o1,hH,hok1,hP⟩)
end Go.Proofs.YtkoelgkghijgiaaGreat
namespace Go.Sep
open Go
section
variable {P:Program} {N:Fi} {B:Base} {Q:Exit → Act → World → Prop} {T:Tm} {A:List Blk} {ops:Array Oper} {l:List Oper}
variable {d:Nat} {ty:TypeId} {pos:String} {af:Array Edge} {m:Md} {gd:Option (Nat × Bool)}
theorem Ops.fldP {s f t off sz bs:Nat} {g:Bool} {zc:List Value} {x:Operand} {vs:List Value} {v:Value} (hf:∃ (fields:Array Field) (fd:Field),P.underlying s = some (.struct fields) ∧ fields[f]? = some fd ∧ fd.type = t ∧ fd.offset = off)
  (hm:m.rd true = true) (hg:gst ops T gd = some true) (hx:ev T x = some (.agg vs.toArray)) [ht:Ty P t g sz bs zc] [hv:PartV g sz vs off v] (hd:Nat.blt d N.n = true)
  (k:Ops P N B Q ops m.tl l ((d,v) :: T) A):Ops P N B Q ops m (⟨some d,.field s x f,ty,pos,af,gd⟩ :: l) T A :=
 Ops.pureV hm hg hd (fun a w hF=>by
  obtain ⟨fields,fd,h1,h2,h3,h4⟩:=hf
  have h5:=run_part ht hv w
  subst h3
  simp [execOp,hF.eval hx,Instr.field,run_underlying h1,h2,asAgg,h4,h5]) k
end
end Go.Sep
namespace Go.Proofs.YtkoelgkghijgiaaGreat
open Go Go.Sep Go.Proofs Go.Proofs.Tryz
set_option maxRecDepth 10000
set_option maxHeartbeats 40000000
set_option synthInstance.maxSize 2000
@[reducible] def CfB2 (cb:Nat) (c:Cf):Blk:=(cb,cl c.row 23)
@[reducible] def AdB (ab:Nat):Blk:=(ab,cl [.int .i64 2,.int .i64 1] 33)
@[reducible] def leX (b left:Int):Ls.LE:=⟨1,b,2,1,left⟩
structure WtS where
 n:Nat
 o:Co
 A:List Blk
 a:Int
 last:Int
 r:Rw
structure WtI (c:Cf) (len0 xb db:Nat) (ses:Int) (t:WtS):Prop where
 a:1 ≤ t.a ∧ t.a ≤ c.attempts + 1
 o:CoOk c len0 t.n t.o
 p:CoP xb db c t.n t.o t.A
 n:(t.n:Int) ≤ 3000 * t.a
 one:One c t.o t.r [] ses t.last haltP
 l:0 ≤ t.last ∧ t.last ≤ 10 * t.a
 att:t.r.att = t.a - 1
 st:t.a ≤ c.attempts → t.r.status = 1
structure WbS where
 n:Nat
 o:Co
 A:List Blk
 i:Int
 last:Int
structure WbI (c:Cf) (len0 xb db:Nat) (ses b:Int) (r1:Rw) (n0:Nat) (l0 k:Int) (t:WbS):Prop where
 i:0 ≤ t.i ∧ t.i ≤ k
 o:CoOk c len0 t.n t.o
 p:CoP xb db c t.n t.o t.A
 n:(t.n:Int) ≤ n0 + 300 * t.i
 one:One c t.o r1 [leX b c.lease] ses t.last haltP
 l:t.last = l0 + t.i
structure WkS where
 n:Nat
 o:Co
 A:List Blk
 k:Int
structure WkI (c:Cf) (len0 xb db:Nat) (ses b:Int) (r1:Rw) (n0:Nat) (last:Int) (t:WkS):Prop where
 k:1 ≤ t.k ∧ t.k ≤ c.lease
 o:CoOk c len0 t.n t.o
 p:CoP xb db c t.n t.o t.A
 n:(t.n:Int) ≤ n0 + t.k
 one:One c t.o r1 [leX b (c.lease - (t.k - 1))] ses last haltP
theorem WkI.next {c:Cf} {len0 xb db:Nat} {ses b:Int} {r1:Rw} {n0:Nat} {last:Int} {n:Nat} {o:Co} {k:Int} {A A':List Blk} (hc:CfOk c) (hlen:20480 ≤ roomF len0) (hn:n ≤ 2000000) (h:WkI c len0 xb db ses b r1 n0 last ⟨n,o,A,k⟩) (hk:k < c.lease) (hP:CoP xb db c (n + 1) (o.tick c) A'):WkI c len0 xb db ses b r1 n0 last ⟨n + 1,o.tick c,A',k + 1⟩:=by
 obtain ⟨⟨k1,k2⟩,h2,h3,h4,h5⟩:=h
 dsimp only at k1 k2 h2 h3 h4 h5
 refine ⟨⟨by show 1 ≤ k + 1;omega,by show k + 1 ≤ c.lease;omega⟩,(h2.tick hc hlen hn).1,hP,by show ((n + 1:Nat):Int) ≤ n0 + (k + 1);omega,?_⟩
 have h6:=h5.tick (by show 2 ≤ c.lease - (k - 1);omega)
 have e:Ls.dec (leX b (c.lease - (k - 1))) = leX b (c.lease - ((k + 1) - 1)):=by
  show (⟨1,b,2,1,c.lease - (k - 1) - 1⟩:Ls.LE) = ⟨1,b,2,1,c.lease - ((k + 1) - 1)⟩
  rw [show c.lease - (k - 1) - 1 = c.lease - ((k + 1) - 1) from by omega]
 rw [e] at h6
 exact h6
theorem fresh_live (k:Nat):(Se.fresh k).filter Se.liveB = []:=by
 rw [List.filter_eq_nil_iff]
 intro d hd
 unfold Se.fresh at hd
 obtain ⟨i,_,rfl⟩:=List.mem_map.1 hd
 show ¬ (!decide ((0:Int) = 0)) = true
 decide
theorem waits_no (B0:Base) (c:Cf) (hc:¬ CfOk c) (beats:Int):ConB prog B0 7 #[.agg c.row.toArray,.int .i64 beats] [] fun v A=>v = .bool true ∧ A = []:=by
 refine zqJ (vs:=[_,_]) func7 ntmps7 fun B hB=>?_
 repeat' (first|refine zs1 ?_|refine Ops.box rfl rfl rfl rfl (noPd rfl) (fun b=>?_))
 refine zqA (begun_no c hc) fun v A' hR=>?_
 obtain ⟨rfl,rfl⟩:=hR
 refine zg4 ?_
 refine zqA (rcheck18_spec c) fun v A' hR=>?_
 obtain ⟨rfl,rfl⟩:=hR
 rw [show checkC c = 180 from if_neg hc]
 refine zg3 ?_
 refine zqB (fixed_spec B0) hB fun v A' hR=>?_
 obtain ⟨rfl,rfl⟩:=hR
 refine zg6 ?_
 exact ze9
theorem waits_yes (B0:Base) (c:Cf) (hC:CfOk c) (beats:Int):ConB prog B0 7 #[.agg c.row.toArray,.int .i64 beats] [] fun v A=>v = .bool true ∧ A = []:=by
 obtain ⟨q1,q2,q3,q4⟩:=lenC_room hC
 obtain ⟨⟨cr1,cr2⟩,⟨cl1,cl2⟩,_,⟨ca1,ca2⟩,_⟩:=id hC
 refine zqJ (vs:=[_,_]) func7 ntmps7 fun B hB=>?_
 repeat' (first|refine zs1 ?_|refine Ops.box rfl rfl rfl rfl (noPd rfl) (fun b=>?_))
 rename Nat=>cb
 refine zqB (begun_yes B0 c hC) hB fun v A' hR=>?_
 obtain ⟨db,xb,rfl,hP⟩:=hR
 rename List Blk=>A0
 repeat' (first|refine zs2 ?_|refine Ops.bs1 rfl rfl rfl rfl rfl rfl rfl (noPd rfl) (fun b=>?_))
 rename Nat=>g
 refine zqB (pack_halt B0 g) hB fun v A' hR=>?_
 subst hR
 rename List Blk=>AX
 refine zg4 ?_
 refine zqB (co_submit_yes B0 xb db c hC (lenC c) 0 q1 (by omega) (co0 c) (co0_ok hC) A0 hP haltP (unpack_halt B0) ⟨by decide,by decide⟩ (by show (0:Nat) < 8;omega)) hB fun v A' hR=>?_
 obtain ⟨bad,job,rfl,hP1⟩:=hR
 rename List Blk=>A1
 have hok1:=((co0_ok hC).submit hC q1 (by omega) (p:=haltP) (e:=0) (fun _=>⟨by decide,by decide⟩)).1
 have hrs:(submitO c (co0 c) haltP 0).rs = Se.fresh c.runners.toNat:=submitO_rs c (co0 c) haltP 0
 refine zg0 ?_
 refine Ops.callB (runs_first B0 xb db c hC (lenC c) (0 + 1) q1 (by omega) _ hok1 A1 hP1 (by rw [hrs];exact fresh_live _) (by rw [submitO_rsl];exact co0_rsl hC) (fun reply o1 hr=>(one_begins hC ⟨by decide,by decide⟩ hr).1) 0 rfl) hB rfl (noPd rfl) rfl rfl rfl (fun v A' hR=>?_)
 obtain ⟨rfl,reply,o2,hH,hok2,hP2⟩:=hR
 rename List Blk=>A2
 have hone0:=(one_begins hC ⟨by decide,by decide⟩ hH).2
 obtain ⟨ses,hse,hse1⟩:∃ ses:Int,ses = 1 ∧ (1 ≤ ses ∧ ses ≤ 1099511627776):=⟨1,rfl,by omega,by omega⟩
 have hone:One c o2 ⟨1,1,0,0,0,0,0,0⟩ [] ses 0 haltP:=by rw [hse];exact hone0
 clear hone0
 rw [show (Value.tuple #[Value.agg [Value.int .i64 2,Value.int .i64 1].toArray,Value.int .i64 1]) = .tuple #[.agg [.int .i64 2,.int .i64 1].toArray,.int .i64 ses] from by rw [hse]]
 repeat' (first|refine zs2 ?_|refine Ops.alloc rfl rfl rfl (noPd rfl) (fun b=>?_))
 rename Nat=>ab
 refine Cd.loopK (WtI c (lenC c) xb db ses) (fun t=>[(1,.int .i64 beats),(2,ptr cb),(6,ptr xb),(9,ptr ab),(10,.int .i64 ses),(11,.int .i64 t.last),(12,.int .i64 t.a)]) (fun t=>CfB2 cb c :: AdB ab :: t.A) (fun t=>(c.attempts + 1 - t.a).toNat) ⟨0 + 1 + 1,o2,A2,1,0,⟨1,1,0,0,0,0,0,0⟩⟩ ⟨⟨by show (1:Int) ≤ 1;omega,by show (1:Int) ≤ _;omega⟩,hok2,hP2,by show ((0 + 1 + 1:Nat):Int) ≤ 3000 * 1;omega,hone,⟨by show (0:Int) ≤ 0;omega,by show (0:Int) ≤ 10 * 1;omega⟩,rfl,fun _=>rfl⟩ ⟨rfl,rfl,rfl,rfl,rfl,rfl,rfl,trivial⟩ (fun w h=>h.split) (fun t ht=>?_)
 clear hone hH hok2 hP2 hok1 hP1 hP hrs A2 A1 AX A0
 obtain ⟨n,o,A,a,last,r⟩:=t
 obtain ⟨⟨ha1,ha2⟩,hok,hP,hn,hone,⟨hl0,hl1⟩,hatt,hst⟩:=ht
 dsimp only at ha1 ha2 hok hP hn hone hl0 hl1 hatt hst ⊢
 by_cases hac:a ≤ c.attempts
 ·have hst:=hst hac
  refine zg16 ?_
  refine Ops.callB (said_spec B0 xb db c hC (lenC c) n q1 (by omega) o hok A hP 2 1 (reqM 2 ses (last + 1)) ⟨Int.le_refl _,by show (0:Int) < _;omega⟩ (poll_check hse1 (by omega))) hB rfl (noPd rfl) rfl rfl rfl (fun v A' hR=>?_)
  obtain ⟨reply,o1,hH,hP1,rfl⟩:=hR
  rename List Blk=>A1
  have hok1:=(hok.hear hC q1 (by omega) hH).1
  obtain ⟨b,hb,hre,hone1⟩:=hone.poll hok hC (by omega) ⟨hl0,by omega⟩ hse1 hst hH
  rw [hre,saidV_enc (offer_check hse1 (by omega) hb ⟨by decide,by decide⟩) ⟨Int.le_refl _,by show (0:Int) < _;omega⟩]
  obtain ⟨m1,hm1⟩:∃ m1:Ms,m1 = offerM (reqM 2 ses (last + 1)) 1 b haltP:=⟨_,rfl⟩
  have hk9:m1.kind = 9:=by rw [hm1];rfl
  have hbg:m1.badge = b:=by rw [hm1];rfl
  rw [← hm1]
  obtain ⟨r1,hr1⟩:∃ r1:Rw,r1 = r.give b 2 1:=⟨_,rfl⟩
  rw [← hr1] at hone1
  have hr2:r1.status = 2:=by rw [hr1];rfl
  have hrb:r1.badge = b:=by rw [hr1];rfl
  have hrn:r1.node = 2 ∧ r1.life = 1:=by rw [hr1];exact ⟨rfl,rfl⟩
  have hra:r1.att = a:=by rw [hr1];show r.att + 1 = a;omega
  clear hm1 hr1 hre hH hone hok hP
  obtain ⟨pk,hpk⟩:∃ pk:Int,pk = plcF beats 3:=⟨_,rfl⟩
  obtain ⟨pk0,pk3⟩:=plc_three beats
  rw [← hpk] at pk0 pk3
  have hplc:=plc3_spec beats
  rw [← hpk] at hplc
  generalize hc17:Code.seq (Code.seq (Code.region 17 _ _) _) _ = c17
  repeat' (first|refine zs4 ?_|refine Ops.alloc rfl rfl rfl (noPd rfl) (fun b=>?_))
  rename Nat=>rb
  subst hc17
  refine Cd.cut (σ:=WbS) (fun t=>WbI c (lenC c) xb db ses b r1 (n + 1) (last + 1) pk t ∧ t.i = pk) (fun t=>[(1,.int .i64 beats),(2,ptr cb),(6,ptr xb),(9,ptr ab),(10,.int .i64 ses),(11,.int .i64 t.last),(12,.int .i64 a),(13,ptr rb)]) (fun t=>CfB2 cb c :: AdB ab :: Mb7 rb m1 :: t.A) ?_ (fun t ht=>?_)
  ·refine zg1 ?_
   refine Cd.loopK (WbI c (lenC c) xb db ses b r1 (n + 1) (last + 1) pk) (fun t=>[(1,.int .i64 beats),(2,ptr cb),(6,ptr xb),(9,ptr ab),(10,.int .i64 ses),(11,.int .i64 t.last),(12,.int .i64 a),(13,ptr rb),(15,.int .i64 t.i)]) (fun t=>CfB2 cb c :: AdB ab :: Mb7 rb m1 :: t.A) (fun t=>(pk - t.i).toNat) ⟨n + 1,o1,A1,0,last + 1⟩ ⟨⟨by show (0:Int) ≤ 0;omega,pk0⟩,hok1,hP1,by show ((n + 1:Nat):Int) ≤ ((n + 1:Nat):Int) + 300 * 0;omega,hone1,by show last + 1 = last + 1 + 0;omega⟩ ⟨rfl,rfl,rfl,rfl,rfl,rfl,rfl,rfl,rfl,trivial⟩ (fun w h=>h.split) (fun t ht=>?_)
   clear hone1 hok1 hP1
   obtain ⟨n2,o2,A2,i,last2⟩:=t
   obtain ⟨⟨hi0,hi1⟩,hok2,hP2,hn2,hone2,hl2⟩:=ht
   dsimp only at hi0 hi1 hok2 hP2 hn2 hone2 hl2 ⊢
   refine zg0 ?_
   refine Ops.call hplc rfl (noPd rfl) rfl rfl rfl (fun v A' hR=>?_)
   obtain ⟨rfl,rfl⟩:=hR
   by_cases hik:i < pk
   ·generalize hc20:Code.seq (Code.seq (Code.region 20 _ _) _) _ = c20
    refine zg15 ?_
    subst hc20
    refine Cd.cut (σ:=WkS) (fun t=>WkI c (lenC c) xb db ses b r1 n2 last2 t ∧ t.k = c.lease) (fun t=>[(1,.int .i64 beats),(2,ptr cb),(6,ptr xb),(9,ptr ab),(10,.int .i64 ses),(11,.int .i64 last2),(12,.int .i64 a),(13,ptr rb),(15,.int .i64 i)]) (fun t=>CfB2 cb c :: AdB ab :: Mb7 rb m1 :: t.A) ?_ (fun t ht=>?_)
    ·refine zg1 ?_
     refine Cd.loopK (WkI c (lenC c) xb db ses b r1 n2 last2) (fun t=>[(1,.int .i64 beats),(2,ptr cb),(6,ptr xb),(9,ptr ab),(10,.int .i64 ses),(11,.int .i64 last2),(12,.int .i64 a),(13,ptr rb),(15,.int .i64 i),(16,.int .i64 t.k)]) (fun t=>CfB2 cb c :: AdB ab :: Mb7 rb m1 :: t.A) (fun t=>(c.lease - t.k).toNat) ⟨n2,o2,A2,1⟩ ⟨⟨by show (1:Int) ≤ 1;omega,cl1⟩,hok2,hP2,by show (n2:Int) ≤ (n2:Int) + 1;omega,by show One c o2 r1 [leX b (c.lease - (1 - 1))] ses last2 haltP;rw [show c.lease - (1 - 1) = c.lease from by omega];exact hone2⟩ ⟨rfl,rfl,rfl,rfl,rfl,rfl,rfl,rfl,rfl,rfl,trivial⟩ (fun w h=>h.split) (fun t ht=>?_)
     clear hone2 hok2 hP2
     obtain ⟨n3,o3,A3,k⟩:=t
     have ht0:=ht
     obtain ⟨⟨hk0,hk1⟩,hok3,hP3,hn3,hone3⟩:=ht
     dsimp only at hk0 hk1 hok3 hP3 hn3 hone3 ⊢
     by_cases hkl:k < c.lease
     ·refine zg15 ?_
      refine zqB (co_tickP B0 xb db c hC (lenC c) n3 q1 (by omega) o3 hok3 A3 hP3) hB fun v A' hR=>?_
      obtain ⟨rfl,hP4⟩:=hR
      rename List Blk=>A4
      refine zg9 ?_
      exact Ops.nilN (round_end (⟨n3 + 1,o3.tick c,A4,k + 1⟩:WkS) (ht0.next hC q1 (by omega) hkl hP4) (by show (c.lease - (k + 1)).toNat < (c.lease - k).toNat;omega) ⟨rfl,rfl,rfl,rfl,rfl,rfl,rfl,rfl,rfl,rfl,trivial⟩ (fun w h=>h.split))
     ·refine zg13 ?_
      exact Cd.exit (inTx (roundX (inBs (meet_end (Q:=fun _ _ _=>True) (⟨n3,o3,A3,k⟩:WkS) ⟨ht0,by show k = c.lease;omega⟩ ⟨rfl,rfl,rfl,rfl,rfl,rfl,rfl,rfl,rfl,trivial⟩ (fun w h=>h.split)))))
    ·obtain ⟨n3,o3,A3,k⟩:=t
     obtain ⟨⟨⟨hk0,hk1⟩,hok3,hP3,hn3,hone3⟩,hkl⟩:=ht
     dsimp only at hk0 hk1 hok3 hP3 hn3 hone3 hkl ⊢
     refine zg16 ?_
     refine Ops.callB (said_spec B0 xb db c hC (lenC c) n3 q1 (by omega) o3 hok3 A3 hP3 2 1 (beatM ses (last2 + 1) m1.badge) ⟨Int.le_refl _,by show (0:Int) < _;omega⟩ (beat_check hse1 (by omega) (by rw [hbg];exact hb))) hB rfl (noPd rfl) rfl rfl rfl (fun v A' hR=>?_)
     obtain ⟨reply,o4,hH,hP4,rfl⟩:=hR
     rename List Blk=>A4
     have hok4:=(hok3.hear hC q1 (by omega) hH).1
     rw [hbg] at hH
     obtain ⟨hre,hone4⟩:=hone3.beat hC ⟨by omega,by omega⟩ hse1 hr2 hrb hb hrn hH
     rw [hre,saidV_enc (reqM_check (.inr (.inr (.inl rfl))) hse1 (by omega)) ⟨Int.le_refl _,by show (0:Int) < _;omega⟩]
     obtain ⟨m2,hm2⟩:∃ m2:Ms,m2 = reqM 11 ses (last2 + 1):=⟨_,rfl⟩
     have hk11:m2.kind = 11:=by rw [hm2]
     rw [← hm2]
     clear hm2 hre hH
     repeat' (first|refine zs7 ?_|refine Ops.alloc rfl rfl rfl (noPd rfl) (fun b=>?_))
     exact Ops.nilN (round_end (⟨n3 + 1,o4,A4,i + 1,last2 + 1⟩:WbS) ⟨⟨by show 0 ≤ i + 1;omega,by show i + 1 ≤ pk;omega⟩,hok4,hP4,by show ((n3 + 1:Nat):Int) ≤ ((n + 1:Nat):Int) + 300 * (i + 1);omega,hone4,by show last2 + 1 = last + 1 + (i + 1);omega⟩ (by show (pk - (i + 1)).toNat < (pk - i).toNat;omega) ⟨rfl,rfl,rfl,rfl,rfl,rfl,rfl,rfl,rfl,trivial⟩ (fun w h=>h.split))
   ·refine zg13 ?_
    exact Cd.exit (inTx (roundX (inBs (meet_end (Q:=fun _ _ _=>True) (⟨n2,o2,A2,i,last2⟩:WbS) ⟨⟨⟨hi0,hi1⟩,hok2,hP2,hn2,hone2,hl2⟩,by show i = pk;omega⟩ ⟨rfl,rfl,rfl,rfl,rfl,rfl,rfl,rfl,trivial⟩ (fun w h=>h.split)))))
  ·obtain ⟨n2,o2,A2,i,last2⟩:=t
   obtain ⟨⟨⟨hi0,hi1⟩,hok2,hP2,hn2,hone2,hl2⟩,hik⟩:=ht
   dsimp only at hi0 hi1 hok2 hP2 hn2 hone2 hl2 hik ⊢
   clear hone1 hok1 hP1
   refine Cd.cut (σ:=WkS) (fun t=>WkI c (lenC c) xb db ses b r1 n2 last2 t ∧ t.k = c.lease) (fun t=>[(1,.int .i64 beats),(2,ptr cb),(6,ptr xb),(9,ptr ab),(10,.int .i64 ses),(11,.int .i64 last2),(12,.int .i64 a),(13,ptr rb)]) (fun t=>CfB2 cb c :: AdB ab :: Mb7 rb m1 :: t.A) ?_ (fun t ht=>?_)
   ·refine zg1 ?_
    refine Cd.loopK (WkI c (lenC c) xb db ses b r1 n2 last2) (fun t=>[(1,.int .i64 beats),(2,ptr cb),(6,ptr xb),(9,ptr ab),(10,.int .i64 ses),(11,.int .i64 last2),(12,.int .i64 a),(13,ptr rb),(19,.int .i64 t.k)]) (fun t=>CfB2 cb c :: AdB ab :: Mb7 rb m1 :: t.A) (fun t=>(c.lease - t.k).toNat) ⟨n2,o2,A2,1⟩ ⟨⟨by show (1:Int) ≤ 1;omega,cl1⟩,hok2,hP2,by show (n2:Int) ≤ (n2:Int) + 1;omega,by show One c o2 r1 [leX b (c.lease - (1 - 1))] ses last2 haltP;rw [show c.lease - (1 - 1) = c.lease from by omega];exact hone2⟩ ⟨rfl,rfl,rfl,rfl,rfl,rfl,rfl,rfl,rfl,trivial⟩ (fun w h=>h.split) (fun t ht=>?_)
    clear hone2 hok2 hP2
    obtain ⟨n3,o3,A3,k⟩:=t
    have ht0:=ht
    obtain ⟨⟨hk0,hk1⟩,hok3,hP3,hn3,hone3⟩:=ht
    dsimp only at hk0 hk1 hok3 hP3 hn3 hone3 ⊢
    by_cases hkl:k < c.lease
    ·refine zg15 ?_
     refine zqB (co_tickP B0 xb db c hC (lenC c) n3 q1 (by omega) o3 hok3 A3 hP3) hB fun v A' hR=>?_
     obtain ⟨rfl,hP4⟩:=hR
     rename List Blk=>A4
     have hnx:=ht0.next hC q1 (by omega) hkl hP4
     refine zg3 ?_
     refine zqB (placed_one B0 xb db c (lenC c) (n3 + 1) (o3.tick c) hnx.o A4 hP4 r1 hnx.one.rows 1 rfl) hB fun v A' hR=>?_
     obtain ⟨⟨q,rfl,hqr⟩,hP5⟩:=hR
     rename List Blk=>A5
     have hqs:q.r.status = 2:=by rw [hqr];exact hr2
     refine Ops.fldP (t:=62) (off:=0) ⟨_,_,underlying64,rfl,rfl,rfl⟩ rfl rfl rfl rfl ?_
     refine Ops.fldP (t:=3) (off:=1) ⟨_,_,underlying62,rfl,rfl,rfl⟩ rfl rfl rfl rfl ?_
     refine zg13 ?_
     exact Ops.nilN (round_end (⟨n3 + 1,o3.tick c,A5,k + 1⟩:WkS) (ht0.next hC q1 (by omega) hkl hP5) (by show (c.lease - (k + 1)).toNat < (c.lease - k).toNat;omega) ⟨rfl,rfl,rfl,rfl,rfl,rfl,rfl,rfl,rfl,trivial⟩ (fun w h=>h.split))
    ·refine zg13 ?_
     exact Cd.exit (inTx (roundX (inBs (meet_end (Q:=fun _ _ _=>True) (⟨n3,o3,A3,k⟩:WkS) ⟨ht0,by show k = c.lease;omega⟩ ⟨rfl,rfl,rfl,rfl,rfl,rfl,rfl,rfl,trivial⟩ (fun w h=>h.split)))))
   ·obtain ⟨n3,o3,A3,k⟩:=t
    obtain ⟨⟨⟨hk0,hk1⟩,hok3,hP3,hn3,hone3⟩,hkl⟩:=ht
    dsimp only at hk0 hk1 hok3 hP3 hn3 hone3 hkl ⊢
    refine zg0 ?_
    refine zqB (co_tickP B0 xb db c hC (lenC c) n3 q1 (by omega) o3 hok3 A3 hP3) hB fun v A' hR=>?_
    obtain ⟨rfl,hP4⟩:=hR
    rename List Blk=>A4
    have hok4:=(hok3.tick hC q1 (by omega)).1
    have hone4:=hone3.over (by show c.lease - (k - 1) = 1;omega) hr2 hrb hb
    obtain ⟨r2,hr2e⟩:∃ r2:Rw,r2 = r1.free c.attempts:=⟨_,rfl⟩
    rw [← hr2e] at hone4
    have hr2a:r2.att = a:=by rw [hr2e];exact hra
    have hr2s:r2.status = if c.attempts ≤ a then 4 else 1:=by rw [hr2e,← hra];rfl
    clear hr2e
    refine zg0 ?_
    refine zqB (placed_one B0 xb db c (lenC c) (n3 + 1) (o3.tick c) hok4 A4 hP4 r2 hone4.rows 1 rfl) hB fun v A' hR=>?_
    obtain ⟨⟨q,rfl,hqr⟩,hP5⟩:=hR
    rename List Blk=>A5
    have hqs:q.r.status = if c.attempts ≤ a then 4 else 1:=by rw [hqr];exact hr2s
    have hne2:r2.status ≠ 2:=by rw [hr2s];split <;> decide
    generalize hc35:Code.seq (Code.seq (Code.region 35 _ _) _) _ = c35
    refine Ops.fldP (t:=62) (off:=0) ⟨_,_,underlying64,rfl,rfl,rfl⟩ rfl rfl rfl rfl ?_
    refine Ops.fldP (t:=3) (off:=1) ⟨_,_,underlying62,rfl,rfl,rfl⟩ rfl rfl rfl rfl ?_
    refine zg0 ?_
    subst hc35
    refine Cd.cut (σ:=Unit) (fun _=>True) (fun _=>[(1,.int .i64 beats),(2,ptr cb),(6,ptr xb),(9,ptr ab),(10,.int .i64 ses),(11,.int .i64 last2),(12,.int .i64 a),(13,ptr rb)]) (fun _=>CfB2 cb c :: AdB ab :: Mb7 rb m1 :: A5) ?_ (fun _ _=>?_)
    ·by_cases hlt:a < c.attempts
     ·have hqs1:q.r.status = 1:=by rw [hqs,if_neg (by omega)]
      have hne:¬ a = c.attempts:=by omega
      refine zg12 ?_
      exact ze36
     ·have hqs4:q.r.status = 4:=by rw [hqs,if_pos (by omega)]
      have heq:a = c.attempts:=by omega
      refine zg10 ?_
      exact ze36
    ·refine zg16 ?_
     refine Ops.callB (said_spec B0 xb db c hC (lenC c) (n3 + 1) q1 (by omega) (o3.tick c) hok4 A5 hP5 2 1 (beatM ses (last2 + 1) m1.badge) ⟨Int.le_refl _,by show (0:Int) < _;omega⟩ (beat_check hse1 (by omega) (by rw [hbg];exact hb))) hB rfl (noPd rfl) rfl rfl rfl (fun v A' hR=>?_)
     obtain ⟨reply,o5,hH,hP6,rfl⟩:=hR
     rename List Blk=>A6
     have hok5:=(hok4.hear hC q1 (by omega) hH).1
     rw [hbg] at hH
     obtain ⟨hre,hone5⟩:=hone4.gone hC ⟨by omega,by omega⟩ hse1 hne2 hb hH
     rw [hre,saidV_enc (reqM_check (.inr (.inr (.inr (.inl rfl)))) hse1 (by omega)) ⟨Int.le_refl _,by show (0:Int) < _;omega⟩]
     obtain ⟨m2,hm2⟩:∃ m2:Ms,m2 = reqM 12 ses (last2 + 1):=⟨_,rfl⟩
     have hk12:m2.kind = 12:=by rw [hm2]
     rw [← hm2]
     clear hm2 hre hH
     repeat' (first|refine zs7 ?_|refine Ops.alloc rfl rfl rfl (noPd rfl) (fun b=>?_))
     exact Ops.nilN (round_end (⟨n3 + 1 + 1,o5,A6,a + 1,last2 + 1,r2⟩:WtS) ⟨⟨by show 1 ≤ a + 1;omega,by show a + 1 ≤ c.attempts + 1;omega⟩,hok5,hP6,by show ((n3 + 1 + 1:Nat):Int) ≤ 3000 * (a + 1);omega,hone5,⟨by show 0 ≤ last2 + 1;omega,by show last2 + 1 ≤ 10 * (a + 1);omega⟩,by show r2.att = a + 1 - 1;omega,fun q=>by
      have q:a + 1 ≤ c.attempts:=q
      show r2.status = 1
      rw [hr2s,if_neg (by omega)]⟩ (by show (c.attempts + 1 - (a + 1)).toNat < (c.attempts + 1 - a).toNat;omega) ⟨rfl,rfl,rfl,rfl,rfl,rfl,rfl,trivial⟩ (fun w h=>h.split))
 ·refine zg13 ?_
  refine zqB (fixed_spec B0) hB fun v A' hR=>?_
  obtain ⟨rfl,rfl⟩:=hR
  refine zg0 ?_
  exact ze9
theorem waits_spec (B0:Base) (c:Cf) (beats:Int):ConB prog B0 7 #[.agg c.row.toArray,.int .i64 beats] [] fun v A=>v = .bool true ∧ A = []:=by
 by_cases hc:CfOk c
 ·exact waits_yes B0 c hc beats
 ·exact waits_no B0 c hc beats
end Go.Proofs.YtkoelgkghijgiaaGreat
namespace Go.Proofs.YtkoelgkghijgiaaGreat.coordWaitsDone
open Go Go.Sep Go.Proofs Go.Proofs.Tryz
open Go.ChangeShapes Go.WideShapes Go.ChangeAt Go.RowKit
theorem own:ownKnob prog.godebug = none:=by kernel_rfl
theorem laidOut:laidOutB prog = true:=by kernel_rfl
set_option maxRecDepth 100000 in
theorem config_of {H:Type} {enc:TypeId × Value → H} {W:World} {base:Nat} {spare:Nat → Bool} {held:Bool} {v:Value} {d:DataW H} {p:List MemPlace} (hv:Value.okWide prog W .any base 23 v) (h:DataW.Trod enc prog W 0 spare held 23 v d p):∃ c:Cf,v = .agg c.row.toArray:=by
 obtain ⟨cs,rfl,hsz⟩:=okWide_struct underlying23 hv
 obtain ⟨fuel,hf⟩:=h
 obtain ⟨xs,n,_,_,_,hlen,hfl⟩:=DataW.trod_struct underlying23 hf
 have h9:cs.size = 9:=hsz.trans (by kernel_rfl)
 obtain ⟨l⟩:=cs
 match l,xs,h9,hlen with
 | [v0,v1,v2,v3,v4,v5,v6,v7,v8],[y0,y1,y2,y3,y4,y5,y6,y7,y8],_,_ =>
  have g0:DataW.trod enc prog W 0 spare held n 3 [v0] = some y0:=hfl 0 _ rfl
  obtain ⟨a0,e0,_,_⟩:=DataW.trod_int underlying3 g0
  injection e0 with e0 _
  subst e0
  have g1:DataW.trod enc prog W 0 spare held n 3 [v1] = some y1:=hfl 1 _ rfl
  obtain ⟨a1,e1,_,_⟩:=DataW.trod_int underlying3 g1
  injection e1 with e1 _
  subst e1
  have g2:DataW.trod enc prog W 0 spare held n 3 [v2] = some y2:=hfl 2 _ rfl
  obtain ⟨a2,e2,_,_⟩:=DataW.trod_int underlying3 g2
  injection e2 with e2 _
  subst e2
  have g3:DataW.trod enc prog W 0 spare held n 3 [v3] = some y3:=hfl 3 _ rfl
  obtain ⟨a3,e3,_,_⟩:=DataW.trod_int underlying3 g3
  injection e3 with e3 _
  subst e3
  have g4:DataW.trod enc prog W 0 spare held n 3 [v4] = some y4:=hfl 4 _ rfl
  obtain ⟨a4,e4,_,_⟩:=DataW.trod_int underlying3 g4
  injection e4 with e4 _
  subst e4
  have g5:DataW.trod enc prog W 0 spare held n 3 [v5] = some y5:=hfl 5 _ rfl
  obtain ⟨a5,e5,_,_⟩:=DataW.trod_int underlying3 g5
  injection e5 with e5 _
  subst e5
  have g6:DataW.trod enc prog W 0 spare held n 3 [v6] = some y6:=hfl 6 _ rfl
  obtain ⟨a6,e6,_,_⟩:=DataW.trod_int underlying3 g6
  injection e6 with e6 _
  subst e6
  have g7:DataW.trod enc prog W 0 spare held n 3 [v7] = some y7:=hfl 7 _ rfl
  obtain ⟨a7,e7,_,_⟩:=DataW.trod_int underlying3 g7
  injection e7 with e7 _
  subst e7
  have g8:DataW.trod enc prog W 0 spare held n 3 [v8] = some y8:=hfl 8 _ rfl
  obtain ⟨a8,e8,_,_⟩:=DataW.trod_int underlying3 g8
  injection e8 with e8 _
  subst e8
  exact ⟨⟨a0,a1,a2,a3,a4,a5,a6,a7,a8⟩,rfl⟩
theorem coord_waits (w:World) (c:Cf) (beats:Int):Calls prog 7 #[.agg c.row.toArray,.int .i64 beats] w fun e w'=>e = .returned (.bool true) ∧ RowKit.Below w.heap.size w w' :=
 ((waits_spec (baseOf w) c beats) (baseOf w) w (Ext.refl _) (sat_baseOf w)).mono fun e w' ⟨v,A',he,⟨hv,_⟩,hS⟩=>⟨by rw [he,hv],hS.below⟩
set_option maxRecDepth 100000 in
theorem lifted (os:Os) (started:os.Started) (H:Type) (enc:TypeId × Value → H) :
  ReturnsInHanded {} Tryz.checked os 7 .any (Rows.coordWaitsSpec.pre6 enc prog Tryz.f7 Rows.coordWaitsRow.domain false) (Rows.coordWaitsSpec.post enc prog Tryz.f7 false true false false):=by
 refine returnsInHanded_of_change_sized (C:=Tryz.checked) own started (by kernel_rfl) func7
  (ChangeSpec.witness6 (enc:=enc) (C:=Tryz.checked) false ⟨#[],#[.agg #[.int .i64 0,.int .i64 0,.int .i64 0,.int .i64 0,.int .i64 0,.int .i64 0,.int .i64 0,.int .i64 0,.int .i64 0],.int .i64 0],[]⟩ 8 (by kernel_rfl) (by kernel_rfl) (by kernel_rfl) (by kernel_rfl)) ?_
 intro W base args ds gs before hval0 hW hcnd hsz _
 have hval:∀ (j:Nat) t v,Tryz.f7.params[j]? = some t → args[j]? = some v → Value.okWide prog W .any base t v:=hval0
 have hW':=hW
 obtain ⟨p,q,hA0,hV,rfl,hfz,hnd⟩:=hW
 have hA:DataW.TrodAll enc prog W 0 (fun _=>true) true Tryz.f7.params.toList args.toList ds p:=hA0
 rw [Tryz.params7] at hA hval
 obtain ⟨v0,vs0,d0,ds0,p0,q0,hargs,rfl,rfl,h0,r0⟩:=trodAll_cons hA
 obtain ⟨v1,vs1,d1,ds1,p1,q1,rfl,rfl,rfl,h1,r1⟩:=trodAll_cons r0
 obtain ⟨rfl,rfl,rfl⟩:=trodAll_nil r1
 obtain rfl:args = #[v0,v1]:=by cases args;simp_all
 obtain ⟨rfl,rfl⟩:=trodVars_none hV
 obtain ⟨c,rfl⟩:=config_of (hval 0 23 v0 rfl rfl) h0
 have k0:=h0
 have lt0:∀ x ∈ p0,x.block < W.heap.size:=by obtain ⟨m,hm⟩:=k0;exact DataW.trod_lt m _ _ _ hm
 obtain ⟨a1,rfl,rfl,rfl,w1⟩:=open_int underlying3 (hval 1 3 v1 rfl rfl) h1
 clear hA0 hval0
 refine (coord_waits W c a1).mono fun e W' ⟨he,bel⟩=>?_
 subst he
 exact ⟨_,rfl,_,_,_,[],_,[],hW',trodAll_mk1 (shut_bool underlying4 _),(trodAll_cons_mk (Below.trod laidOut (by kernel_rfl) (of_decide_eq_true (by kernel_rfl)) k0 bel lt0) (trodAll_cons_mk (shut_int underlying3 w1) trodAll_mk0)),rfl,bel.frame _,fun h=>by cases h⟩
end Go.Proofs.YtkoelgkghijgiaaGreat.coordWaitsDone
