import Derived.Test.YtkoelgkghijgiaaGreatA01
import Derived.Test.YtkoelgkghijgiaaGreatA14
import Derived.Test.YtkoelgkghijgiaaGreatA04
set_option linter.unusedVariables false
set_option linter.unusedSimpArgs false
namespace Go.Proofs.YtkoelgkghijgiaaGreat
open Go Go.Sep Go.Proofs
set_option maxRecDepth 10000
theorem Sw.drain_win (tx:List ByteArray) (W:Nat):∀ (f nx:Nat) (hb:List Bool),nx ≤ W → (∀ k,hb[k]? = some true → k < W) → (Sw.drain tx f nx hb).2.1 ≤ W ∧ ∀ t ∈ (Sw.drain tx f nx hb).1,t ∈ tx ∨ t = .empty
 | 0,nx,hb,h,hw=>⟨h,fun t ht=>(by cases ht)⟩
 | f + 1,nx,hb,h,hw=>by
  unfold Sw.drain
  split
  ·rename_i hh
   have ih:=Sw.drain_win tx W f (nx + 1) (hb.set nx false) (hw nx hh) (fun k hk=>by
    by_cases e:nx = k
    ·subst e;exact hw nx hh
    ·rw [List.getElem?_set_ne e] at hk;exact hw k hk)
   refine ⟨ih.1,fun t ht=>?_⟩
   rcases List.mem_cons.1 ht with rfl|ht
   ·cases hx:tx[nx]? with
    | none=>exact .inr rfl
    | some u=>exact .inl (List.mem_of_getElem? hx)
   ·exact ih.2 t ht
  ·exact ⟨h,fun t ht=>(by cases ht)⟩
theorem Sw.takeF_win {win:Nat} {s:Sw.Sp} (h:Sw.SpOk win s) (hx:∀ u ∈ s.tx,u.size ≤ 32) (i:Int) (t:ByteArray) :
  (Sw.takeF win s i t).2.1.length ≤ win ∧ (∀ u ∈ (Sw.takeF win s i t).2.1,u.size ≤ 32) ∧ ∀ u ∈ (Sw.takeF win s i t).2.2.tx,u.size ≤ 32:=by
 unfold Sw.takeF
 split
 ·exact ⟨Nat.zero_le _,fun u hu=>(by cases hu),hx⟩
 ·split
  ·exact ⟨Nat.zero_le _,fun u hu=>(by cases hu),hx⟩
  ·rename_i h1 h2
   have htx:∀ u ∈ (if s.hb[i.toNat]? = some true then s.tx else s.tx.set i.toNat t),u.size ≤ 32:=fun u hu=>by
    split at hu
    ·exact hx u hu
    ·rcases List.mem_or_eq_of_mem_set hu with hu|rfl
     ·exact hx u hu
     ·omega
   have hd:=Sw.drain_win (if s.hb[i.toNat]? = some true then s.tx else s.tx.set i.toNat t) (s.nx + win) (33 - s.nx) s.nx (s.hb.set i.toNat true) (by omega) (fun k hk=>by
    by_cases e:i.toNat = k
    ·omega
    ·rw [List.getElem?_set_ne e] at hk
     exact (h.inw k hk).2)
   have hg:=Sw.takeF_grow h i t
   unfold Sw.takeF at hg
   rw [if_neg h1,if_neg h2] at hg
   dsimp only at hg ⊢
   refine ⟨?_,fun u hu=>?_,htx⟩
   ·have:=hd.1
    unfold Sw.drained at hg ⊢
    omega
   ·rcases hd.2 u hu with hu|rfl
    ·exact htx u hu
    ·exact Nat.zero_le _
theorem check_all {c:Ch} (hk:1 ≤ c.kind ∧ c.kind ≤ 6) (h1:rg1 c = true) (h2:rg2 c = true) (h3:rg3 c = true) (h4:rg4 c = true) (h5:rg5 c = true) (h6:rg6 c = true) (h7:rg7 c = true):checkF c = 0:=by
 unfold checkF
 rw [if_neg (by omega),h1,h2,h3,h4,h5,h6,h7]
 rfl
theorem res_check {n:Int} (h:1 ≤ n ∧ n ≤ 1099511627776):checkF (Ch.res n) = 0 :=
 check_all (by show 1 ≤ (1:Int) ∧ (1:Int) ≤ 6;omega) (by show rgt true _ (decide (1 ≤ n ∧ n ≤ 1099511627776)) = true;rw [decide_eq_true h];rfl) rfl rfl rfl rfl rfl rfl
theorem sub_check {job:Int} {p:ByteArray} (h:1 ≤ job ∧ job ≤ 8) (hp:1 ≤ p.size ∧ p.size ≤ 1024):checkF (subC job p) = 0 :=
 check_all (by show 1 ≤ (2:Int) ∧ (2:Int) ≤ 6;omega) rfl zp22 (by show rgt true _ (decide ((1:Int) ≤ (p.size:Nat) ∧ ((p.size:Nat):Int) ≤ 1024)) = true;rw [show decide ((1:Int) ≤ (p.size:Nat) ∧ ((p.size:Nat):Int) ≤ 1024) = true from decide_eq_true (by omega)];rfl) rfl rfl rfl rfl
theorem grant_check {job bg slot life:Int} (h:1 ≤ job ∧ job ≤ 8) (hb:1 ≤ bg ∧ bg ≤ 1099511627776) (hs:0 ≤ slot ∧ slot ≤ 7) (hl:1 ≤ life ∧ life ≤ 1099511627776):checkF (grantC job bg slot life) = 0 :=
 check_all (by show 1 ≤ (3:Int) ∧ (3:Int) ≤ 6;omega) rfl zp22 rfl zp18 (by show rgt true _ (decide (0 ≤ slot ∧ slot ≤ 7) && decide (1 ≤ life ∧ life ≤ 1099511627776)) = true;rw [decide_eq_true hs,decide_eq_true hl];rfl) rfl rfl
theorem log_check {bg:Int} {l:List ByteArray} (hb:1 ≤ bg ∧ bg ≤ 1099511627776) (h1:1 ≤ l.length) (h8:l.length ≤ 8) (ht:∀ t ∈ l,t.size ≤ 32):checkF (logC bg l) = 0 :=
 check_all (by show 1 ≤ (4:Int) ∧ (4:Int) ≤ 6;omega) rfl rfl rfl zp18 rfl (by
  show rgt true _ (textsF l) = true
  have:l.any longT = false:=by
   rw [List.any_eq_false]
   intro t h
   have:=ht t h
   simp only [longT,decide_eq_true_eq]
   omega
  unfold textsF
  rw [show decide (1 ≤ l.length ∧ l.length ≤ 8) = true from decide_eq_true ⟨h1,h8⟩,this];rfl) rfl
theorem settle_check {bg code bits:Int} (hb:1 ≤ bg ∧ bg ≤ 1099511627776) (hc:0 ≤ code ∧ code ≤ 7) (hx:code = 0 ∨ bits = 0):checkF (settleC bg code bits) = 0 :=
 check_all (by show 1 ≤ (6:Int) ∧ (6:Int) ≤ 6;omega) rfl rfl rfl zp18 rfl rfl (by
  show rgt true _ (decide (0 ≤ code ∧ code ≤ 7) && (decide (code = 0) || decide (bits = 0))) = true
  rw [decide_eq_true hc]
  rcases hx with hx|hx
  ·rw [decide_eq_true hx];rfl
  ·rw [decide_eq_true hx,Bool.or_true];rfl)
theorem numB_int {n:Int} (h:n ≤ 1099511627776):(numB n.toNat).size ≤ 6:=numB_le (k:=5) (by omega)
theorem put_res (n:Int) (h:n ≤ 1099511627776):(putB (Ch.res n)).size ≤ 16:=by
 show (numB (1:Int).toNat ++ numB n.toNat).size ≤ 16
 rw [ByteArray.size_append]
 have h1:=numB_int (n:=1) (by omega)
 have h2:=numB_int h
 omega
theorem put_sub (job:Int) (p:ByteArray) (h:job ≤ 8) (hp:p.size ≤ 1024):(putB (subC job p)).size ≤ 1040:=by
 show ((numB (2:Int).toNat ++ numB job.toNat) ++ frameF p).size ≤ 1040
 rw [ByteArray.size_append,ByteArray.size_append]
 have h1:=numB_int (n:=2) (by omega)
 have h2:=numB_int (n:=job) (by omega)
 have h3:=(frameF_le hp).1
 omega
theorem put_grant (job bg slot life:Int) (h:job ≤ 8) (hb:bg ≤ 1099511627776) (hs:slot ≤ 7) (hl:life ≤ 1099511627776):(putB (grantC job bg slot life)).size ≤ 40:=by
 show (((numB (3:Int).toNat ++ numB job.toNat) ++ numB bg.toNat) ++ (numB slot.toNat ++ numB life.toNat)).size ≤ 40
 simp only [ByteArray.size_append]
 have h1:=numB_int (n:=3) (by omega)
 have h2:=numB_int (n:=job) (by omega)
 have h3:=numB_int hb
 have h4:=numB_int (n:=slot) (by omega)
 have h5:=numB_int hl
 omega
theorem textsN_le {l:List ByteArray} (h:∀ t ∈ l,t.size ≤ 32):∀ i,(textsN l i).size ≤ i * 33
 | 0=>Nat.le_refl _
 | i + 1=>by
  have h1:=textsN_le h i
  rw [textsN,ByteArray.size_append,Nat.succ_mul]
  have:(l.getD i .empty).size ≤ 32:=by
   rw [List.getD_eq_getElem?_getD]
   cases hx:l[i]? with
   | none=>exact Nat.zero_le _
   | some u=>exact h u (List.mem_of_getElem? hx)
  have:=(frameF_le (t:=l.getD i .empty) (by omega)).2 this
  omega
theorem put_log (bg:Int) (l:List ByteArray) (hb:bg ≤ 1099511627776) (h8:l.length ≤ 8) (h:∀ t ∈ l,t.size ≤ 32):(putB (logC bg l)).size ≤ 300:=by
 show ((numB (4:Int).toNat ++ numB bg.toNat) ++ (numB l.length ++ textsN l l.length)).size ≤ 300
 simp only [ByteArray.size_append]
 have h1:=numB_int (n:=4) (by omega)
 have h2:=numB_int hb
 have h3:=numB_le (k:=0) (n:=l.length) (by omega)
 have h4:=textsN_le h l.length
 have h5:l.length * 33 ≤ 8 * 33:=Nat.mul_le_mul_right _ h8
 omega
theorem put_settle (bg code bits:Int) (hb:bg ≤ 1099511627776) (hc:code ≤ 7):(putB (settleC bg code bits)).size ≤ 40:=by
 show ((numB (6:Int).toNat ++ numB bg.toNat) ++ (numB code.toNat ++ hiB bits.toNat 8)).size ≤ 40
 simp only [ByteArray.size_append,hiB_size]
 have h1:=numB_int (n:=6) (by omega)
 have h2:=numB_int hb
 have h3:=numB_int (n:=code) (by omega)
 omega
theorem enc_one {c:Ch} (hck:checkF c = 0) (hp:(putB c).size ≤ 1100):(encodeF [c]).2 = 0:=by
 refine enc_fine (by simp) (by simp) (fun d hd=>by rw [List.mem_singleton] at hd;subst hd;exact hck) ?_
 have:=encN_le (l:=[c]) (m:=1100) (fun d hd=>by rw [List.mem_singleton] at hd;subst hd;exact hp) (by simp) 1
 show (encN [c] 1).size ≤ 2048
 omega
@[reducible] def spN:Sw.Sp:=⟨0,List.replicate 32 false,List.replicate 32 ⟨#[]⟩⟩
theorem spN_ok {win:Nat} (h1:1 ≤ win) (h2:win ≤ 8):Sw.SpOk win spN:=by
 have hno:∀ k,(List.replicate 32 false)[k]? ≠ some true:=fun k h=>by
  have:=List.eq_of_mem_replicate (List.mem_of_getElem? h)
  cases this
 exact ⟨h1,h2,Nat.zero_le _,by simp,by simp,hno _,fun k hk=>absurd hk (hno k)⟩
theorem spN_tx:∀ u ∈ spN.tx,u.size ≤ 32:=fun u hu=>by
 rw [List.eq_of_mem_replicate hu];exact Nat.zero_le _
theorem next_res {bl la re bg rs la1 re1:Int} (h1:1 ≤ bl) (h0:0 ≤ la) (hl:la ≤ re) (hr:re ≤ 1099511627776) (hn:nextB bl la re = ((bg,rs,0),la1,re1)) :
  bg = la + 1 ∧ la1 = la + 1 ∧ bg ≤ re1 ∧ re1 ≤ 1099511627776 ∧ ((rs = 0 ∧ re1 = re) ∨ (re < rs ∧ re1 = rs ∧ 1 ≤ rs)):=by
 unfold nextB at hn
 split at hn
 ·simp only [Prod.mk.injEq] at hn;omega
 ·split at hn
  ·simp only [Prod.mk.injEq] at hn;omega
  ·simp only [Prod.mk.injEq] at hn;omega
theorem applyG_cons {s0 s s':StP} {i:Nat} {c:Ch} {l:List Ch} (hck:checkF c = 0) (hs:stepF s c = some s'):applyG s0 s i (c :: l) = applyG s0 s' (i + 1) l:=by
 rw [applyG,if_neg (by omega),hs]
theorem applyG_app {s0:StP}:∀ (l1 l2:List Ch) (s:StP) (i:Nat) (s1:StP),applyG s0 s i l1 = ((0,0),s1) → ∃ j,applyG s0 s i (l1 ++ l2) = applyG s0 s1 j l2
 | [],l2,s,i,s1,h=>by
  rw [applyG] at h
  injection h with _ h
  exact ⟨i,by rw [List.nil_append,h]⟩
 | c :: l1,l2,s,i,s1,h=>by
  rw [applyG] at h
  split at h
  ·injection h with h _;injection h with _ h;cases h
  ·rename_i hck
   cases hs:stepF s c with
   | none=>rw [hs] at h;injection h with h _;injection h with _ h;cases h
   | some s' =>
    rw [hs] at h
    dsimp only at h
    obtain ⟨j,hj⟩:=applyG_app l1 l2 s' (i + 1) s1 h
    exact ⟨j,by rw [List.cons_append,applyG_cons (by omega) hs,hj]⟩
theorem CqOk.draw {c:Cf} {q:Cq} (h:CqOk c q) (hc:CfOk c) {bg rs la1 re1:Int} (hn:nextB c.block q.la q.st.res = ((bg,rs,0),la1,re1)) :
  applyF q.st ((resL rs).map Cg.c) = ((0,0),{ q.st with res:=re1 }) ∧ CqOk c { q with st:={ q.st with res:=re1 } } ∧ bg = q.la + 1 ∧ la1 = q.la + 1 ∧ bg ≤ re1 ∧ re1 ≤ 1099511627776 ∧ (resL rs ≠ [] → (encodeF ((resL rs).map Cg.c)).2 = 0):=by
 obtain ⟨_,_,_,_,_,_,⟨b1,b2⟩,_⟩:=id hc
 have hrs:=h.bd.rs
 obtain ⟨e1,e2,e3,e4,e5⟩:=next_res b1 h.l0.1 h.l0.2 hrs.2 hn
 rcases e5 with ⟨e5,e6⟩|⟨e5,e6,e7⟩
 ·subst e5;subst e6
  have hl:resL 0 = []:=if_pos rfl
  rw [hl]
  exact ⟨rfl,h,e1,e2,e3,e4,fun q=>absurd rfl q⟩
 ·subst e6
  have hl:resL re1 = [⟨Ch.res re1,none,0⟩]:=if_neg (by omega)
  rw [hl]
  obtain ⟨h1,h2⟩:=h.res e5 e4
  have hck:=res_check (n:=re1) ⟨e7,e4⟩
  exact ⟨by show applyG q.st q.st 0 [Ch.res re1] = _;rw [applyG_cons hck h1];rfl,h2,e1,e2,e3,e4,fun _=>enc_one hck (by have:=put_res re1 e4;show (putB (Ch.res re1)).size ≤ 1100;omega)⟩
theorem head_at {rows:List Rw} {job:Int} (hj:headF18 rows = job) (h0:job ≠ 0):∃ i r,job = ((i:Nat):Int) + 1 ∧ rows[i]? = some r ∧ r.status = 1:=by
 unfold headF18 idxF at hj
 split at hj
 ·rename_i i hf
  rw [List.findIdx?_eq_some_iff_getElem] at hf
  obtain ⟨h1,h2,_⟩:=hf
  exact ⟨i,rows[i],by omega,List.getElem?_eq_getElem h1,of_decide_eq_true h2⟩
 ·omega
theorem place_at {s:StP} (ok:StOk s) {b:Int} {i:Nat} {r:Rw} (hl:lastAt s.rows b = some i) (hr:s.rows[i]? = some r):∃ p,placeF s b = some (r,p,s.logs.getD i []):=by
 have hi:=(List.getElem?_eq_some_iff.1 hr).1
 have h1:s.progs[i]? = some (s.progs[i]'(by rw [ok.np];exact hi)):=List.getElem?_eq_getElem _
 have h2:s.logs[i]? = some (s.logs[i]'(by rw [ok.nl];exact hi)):=List.getElem?_eq_getElem _
 refine ⟨s.progs[i]'(by rw [ok.np];exact hi),?_⟩
 unfold placeF
 rw [hl,Option.bind_some]
 unfold viewL
 have h3:(s.rows.zip (s.progs.zip s.logs))[i]? = some (r,s.progs[i]'(by rw [ok.np];exact hi),s.logs[i]'(by rw [ok.nl];exact hi)):=List.getElem?_zip_eq_some.2 ⟨hr,List.getElem?_zip_eq_some.2 ⟨h1,h2⟩⟩
 rw [h3,List.getD_eq_getElem?_getD,h2]
 rfl
theorem CqOk.grant {c:Cf} {q:Cq} (h:CqOk c q) (hc:CfOk c) {bg rs la1 re1 job slot life:Int} (hn:nextB c.block q.la q.st.res = ((bg,rs,0),la1,re1)) (hj:headF18 q.st.rows = job) (h0:job ≠ 0) (hs:0 ≤ slot ∧ slot ≤ 7) (hlf:1 ≤ life ∧ life ≤ 1099511627776) :
  ∃ st r p,applyF q.st ((pollL rs job bg slot life).map Cg.c) = ((0,0),st) ∧ st.res = re1 ∧ (encodeF ((pollL rs job bg slot life).map Cg.c)).2 = 0 ∧ placeF st bg = some (r,p,[]) ∧ r.job = job ∧ r.badge = bg ∧ r.node = 2 + slot ∧ r.life = life ∧
   CqOk c ⟨st,(Ls.grantF c.lease q.ls job bg (2 + slot) life).2,la1,(job,spN) :: wsDel q.ws job⟩:=by
 obtain ⟨_,_,_,_,⟨w1,w2⟩,_⟩:=id hc
 obtain ⟨ha,h1,e1,e2,e3,e4,he⟩:=h.draw hc hn
 obtain ⟨i,r,hji,hr,hst⟩:=head_at hj h0
 have hi:=(List.getElem?_eq_some_iff.1 hr).1
 have hn8:=h.ok.nr
 have hla:=h.l0.1
 have hck:checkF (grantC job bg slot life) = 0:=grant_check (by omega) (by omega) hs hlf
 have hjt:(job - 1).toNat = i:=by omega
 have hany:(q.st.rows.any fun x=>decide (bg ≤ x.badge)) = false:=by
  rw [List.any_eq_false]
  intro x hx
  have:=h.bl x hx
  simp only [decide_eq_true_eq]
  omega
 have hho:holderOk (2 + slot) life = true:=decide_eq_true (by omega)
 have hstep:stepF { q.st with res:=re1 } (grantC job bg slot life) = some { q.st with res:=re1,rows:=q.st.rows.set i (r.give bg (2 + slot) life),logs:=q.st.logs.set i [] }:=by
  unfold stepF
  rw [if_neg (by show ¬ ((3:Int) = 1);decide),if_neg (by show ¬ ((3:Int) = 2);decide),if_pos (by rfl),if_neg (by show ¬ re1 < bg;omega),if_pos (by show 1 ≤ job;omega)]
  show (match q.st.rows[(job - 1).toNat]? with|none=>none|some r=>_) = _
  rw [hjt,hr]
  dsimp only
  rw [if_neg (by
   rintro (q1|q1|q1|q1)
   ·exact q1 hst
   ·exact q1 ⟨by omega,by omega⟩
   ·rw [hany] at q1;cases q1
   ·rw [hho] at q1;exact q1 rfl)]
 have hall:applyF q.st ((pollL rs job bg slot life).map Cg.c) = ((0,0),{ q.st with res:=re1,rows:=q.st.rows.set i (r.give bg (2 + slot) life),logs:=q.st.logs.set i [] }):=by
  obtain ⟨j,hjj⟩:=applyG_app _ [grantC job bg slot life] q.st 0 _ ha
  show applyG q.st q.st 0 ((resL rs ++ [(⟨grantC job bg slot life,none,0⟩:Cg)]).map Cg.c) = _
  rw [List.map_append]
  refine hjj.trans ?_
  rw [applyG_cons hck hstep]
  rfl
 have henc:(encodeF ((pollL rs job bg slot life).map Cg.c)).2 = 0:=by
  have hpg:=put_grant job bg slot life (by omega) (by omega) hs.2 hlf.2
  unfold pollL resL
  split
  ·exact enc_one hck (by show (putB (grantC job bg slot life)).size ≤ 1100;omega)
  ·rename_i hrs
   have hrr:re1 = rs ∧ 1 ≤ rs:=by
    obtain ⟨_,_,_,_,_,_,⟨b1,b2⟩,_⟩:=id hc
    rcases (next_res b1 h.l0.1 h.l0.2 h.bd.rs.2 hn).2.2.2.2 with q1|q1
    ·exact absurd q1.1 hrs
    ·exact ⟨q1.2.1,q1.2.2⟩
   have hcr:=res_check (n:=rs) ⟨hrr.2,by omega⟩
   have hpr:=put_res rs (by omega)
   have hmem:∀ d ∈ [Ch.res rs,grantC job bg slot life],d = Ch.res rs ∨ d = grantC job bg slot life:=fun d hd=>by simpa using hd
   refine enc_fine (l:=[Ch.res rs,grantC job bg slot life]) (by simp) (by simp) (fun d hd=>by rcases hmem d hd with rfl|rfl <;> assumption) ?_
   have:=encN_le (l:=[Ch.res rs,grantC job bg slot life]) (m:=100) (fun d hd=>by rcases hmem d hd with rfl|rfl <;> omega) (by simp) 2
   show (encN [Ch.res rs,grantC job bg slot life] 2).size ≤ 2048
   omega
 have hok1:=stepF_ok h1.ok hstep
 have hbd1:=stepF_bd h1.ok h1.bd hck zp23 hstep
 have hset:({ q.st with res:=re1,rows:=q.st.rows.set i (r.give bg (2 + slot) life),logs:=q.st.logs.set i [] }:StP).rows[i]? = some (r.give bg (2 + slot) life):=List.getElem?_set_self hi
 have hds:∀ (a j:Nat) r1 r',(q.st.rows.set i (r.give bg (2 + slot) life))[a]? = some r1 → (q.st.rows.set i (r.give bg (2 + slot) life))[j]? = some r' → r1.badge = r'.badge → 0 < r1.badge → a = j:=ds_set h.ds fun j r' hne hj' e hp=>by
  have h1:=h.bl r' (List.mem_of_getElem? hj')
  have h2:bg = r'.badge:=e
  omega
 have hla2:=last_at hset (show (r.give bg (2 + slot) life).badge = bg from rfl) (by omega) hds
 obtain ⟨p,hp⟩:=place_at hok1 hla2 hset
 have hlg:({ q.st with res:=re1,rows:=q.st.rows.set i (r.give bg (2 + slot) life),logs:=q.st.logs.set i [] }:StP).logs.getD i [] = []:=by
  show (q.st.logs.set i []).getD i [] = []
  rw [List.getD_eq_getElem?_getD,List.getElem?_set_self (by rw [h.ok.nl];exact hi)];rfl
 rw [hlg] at hp
 refine ⟨_,_,p,hall,rfl,henc,hp,?_,rfl,rfl,rfl,⟨hok1,hbd1,Ls.grantF_ok h.lk job bg (2 + slot) life,fun x hx=>?_,fun t ht=>?_,fun k r1 hr1 h2=>?_,fun r1 hr1=>?_,⟨by show 0 ≤ la1;omega,by show la1 ≤ re1;omega⟩,hds⟩⟩
 ·show r.job = job
  rw [h.ok.jb i r hr,hji]
 ·have hold:x ∈ q.ls → ∃ r0,(q.st.rows.set i (r.give bg (2 + slot) life))[(x.job - 1).toNat]? = some r0 ∧ r0.status = 2 ∧ r0.badge = x.badge:=fun hx=>by
   obtain ⟨r0,g1,g2,g3⟩:=h.lr x hx
   refine ⟨r0,?_,g2,g3⟩
   rw [List.getElem?_set_ne]
   ·exact g1
   ·intro e
    rw [← e,hr] at g1
    injection g1 with g1
    subst g1
    omega
  unfold Ls.grantF at hx
  split at hx
  ·exact hold hx
  ·split at hx
   ·exact hold hx
   ·rcases Ls.lins_mem.1 hx with rfl|hx
    ·refine ⟨r.give bg (2 + slot) life,?_,rfl,rfl⟩
     show (q.st.rows.set i _)[(job - 1).toNat]? = _
     rw [hjt];exact hset
    ·exact hold hx
 ·rcases List.mem_cons.1 ht with rfl|ht
  ·exact ⟨spN_ok (by omega) (by omega),spN_tx⟩
  ·exact h.win t (wsDel_mem.1 ht).1
 ·by_cases hki:i = k
  ·subst hki
   exact ⟨(job,spN),List.mem_cons_self ..,hji,by rw [hlg];rfl⟩
  ·have hr1':(q.st.rows.set i (r.give bg (2 + slot) life))[k]? = some r1:=hr1
   rw [List.getElem?_set_ne hki] at hr1'
   obtain ⟨t,g1,g2,g3⟩:=h.hw k r1 hr1' h2
   refine ⟨t,List.mem_cons_of_mem _ (wsDel_mem.2 ⟨g1,by omega⟩),g2,?_⟩
   rw [g3]
   show _ = ((q.st.logs.set i []).getD k []).length
   rw [List.getD_eq_getElem?_getD,List.getD_eq_getElem?_getD,List.getElem?_set_ne hki]
 ·rcases List.mem_or_eq_of_mem_set hr1 with hr1|rfl
  ·have:=h.bl r1 hr1;show r1.badge ≤ la1;omega
  ·show bg ≤ la1;omega
theorem lastAt_row {rows:List Rw} {b:Int} {i:Nat} (h:lastAt rows b = some i):∃ r,rows[i]? = some r ∧ r.badge = b ∧ 0 < b:=by
 unfold lastAt at h
 rw [List.findIdx?_eq_some_iff_getElem] at h
 obtain ⟨h1,h2,_⟩:=h
 exact ⟨rows[i],List.getElem?_eq_getElem h1,(of_decide_eq_true h2).1,(of_decide_eq_true h2).2⟩
theorem held_row {s:StP} (ok:StOk s) {b node life:Int} (h:heldF s b node life = true):∃ i r,lastAt s.rows b = some i ∧ s.rows[i]? = some r ∧ r.status = 2 ∧ r.badge = b ∧ 0 < b ∧ r.node = node ∧ r.life = life ∧ jobF s b = (i:Int) + 1 ∧ logF s b = s.logs.getD i []:=by
 cases hl:lastAt s.rows b with
 | none =>
  have:placeF s b = none:=by unfold placeF;rw [hl];rfl
  unfold heldF at h
  rw [this] at h
  cases h
 | some i =>
  obtain ⟨r,hr,hb,h0⟩:=lastAt_row hl
  obtain ⟨p,hp⟩:=place_at ok hl hr
  unfold heldF at h
  rw [hp] at h
  simp only [Bool.and_eq_true,decide_eq_true_eq] at h
  exact ⟨i,r,rfl,hr,h.1,hb,h0,h.2.1,h.2.2,by unfold jobF;rw [hp];exact ok.jb i r hr,by unfold logF;rw [hp]⟩
theorem CqOk.window {c:Cf} {q:Cq} (h:CqOk c q) {b node life:Int} (hh:heldF q.st b node life = true):∃ sp,(jobF q.st b,sp) ∈ q.ws ∧ Sw.SpOk c.window.toNat sp ∧ (∀ u ∈ sp.tx,u.size ≤ 32) ∧ sp.nx = (logF q.st b).length:=by
 obtain ⟨i,r,hl,hr,h2,hb,h0,_,_,hj,hlg⟩:=held_row h.ok hh
 obtain ⟨t,g1,g2,g3⟩:=h.hw i r hr h2
 obtain ⟨tj,sp⟩:=t
 dsimp only at g2 g3
 subst g2
 exact ⟨sp,by rw [hj];exact g1,(h.win _ g1).1,(h.win _ g1).2,by rw [hlg];exact g3⟩
theorem CqOk.chunk {c:Cf} {q:Cq} (h:CqOk c q) (hc:CfOk c) {b node life:Int} (hh:heldF q.st b node life = true) {sp sp1:Sw.Sp} {te i0:Int} {t:ByteArray} {l:List ByteArray} (hsp:Sw.SpOk c.window.toNat sp) (htx:∀ u ∈ sp.tx,u.size ≤ 32) (hnx:sp.nx = (logF q.st b).length) (htk:Sw.takeF c.window.toNat sp i0 t = (te,l,sp1)) :
  (l = [] → CqOk c { q with ws:=(jobF q.st b,sp1) :: wsDel q.ws (jobF q.st b) }) ∧
  (l ≠ [] → (encodeF [logC b l]).2 = 0 ∧ ∃ st,applyF q.st [logC b l] = ((0,0),st) ∧ CqOk c { q with st:=st,ws:=(jobF q.st b,sp1) :: wsDel q.ws (jobF q.st b) }):=by
 obtain ⟨_,_,_,_,⟨w1,w2⟩,_⟩:=id hc
 obtain ⟨i,r,hl,hr,h2,hb,h0,_,_,hj,hlg⟩:=held_row h.ok hh
 have hi:=(List.getElem?_eq_some_iff.1 hr).1
 have hok1:=Sw.takeF_ok hsp i0 t
 have hgr:=Sw.takeF_grow hsp i0 t
 have hwn:=Sw.takeF_win hsp htx i0 t
 rw [htk] at hok1 hgr hwn
 dsimp only at hok1 hgr hwn
 have hwin:∀ t ∈ (jobF q.st b,sp1) :: wsDel q.ws (jobF q.st b),Sw.SpOk c.window.toNat t.2 ∧ ∀ u ∈ t.2.tx,u.size ≤ 32:=fun t ht=>by
  rcases List.mem_cons.1 ht with rfl|ht
  ·exact ⟨hok1,hwn.2.2⟩
  ·exact h.win t (wsDel_mem.1 ht).1
 refine ⟨fun hl0=>⟨h.ok,h.bd,h.lk,h.lr,hwin,fun k r1 hr1 hs2=>?_,h.bl,h.l0,h.ds⟩,fun hl0=>?_⟩
 ·subst hl0
  by_cases hki:i = k
  ·subst hki
   exact ⟨_,List.mem_cons_self ..,hj,by show sp1.nx = _;rw [← hgr,hnx,hlg];exact Nat.zero_add _⟩
  ·obtain ⟨t,g1,g2,g3⟩:=h.hw k r1 hr1 hs2
   exact ⟨t,List.mem_cons_of_mem _ (wsDel_mem.2 ⟨g1,by rw [hj];omega⟩),g2,g3⟩
 ·have hb1:=(h.bd.rb r (List.mem_of_getElem? hr)).bd
  have hpos:=List.length_pos_iff.2 hl0
  have hck:checkF (logC b l) = 0:=log_check (by omega) hpos (by omega) hwn.2.1
  have hn1:=hok1.n
  have hstep:stepF q.st (logC b l) = some { q.st with logs:=q.st.logs.set i (q.st.logs.getD i [] ++ l) }:=by
   unfold stepF
   rw [if_neg (by show ¬ ((4:Int) = 1);decide),if_neg (by show ¬ ((4:Int) = 2);decide),if_neg (by show ¬ ((4:Int) = 3);decide),if_pos (by rfl)]
   show (match lastAt q.st.rows b with|none=>none|some i=>_) = _
   rw [hl]
   dsimp only
   rw [getD_of hr,if_neg (by
    rintro (q1|q1)
    ·exact q1 h2
    ·rw [← hlg,← hnx] at q1;omega)]
  refine ⟨enc_one hck (by have:=put_log b l (by omega) (by omega) hwn.2.1;omega),_,by show applyG q.st q.st 0 [logC b l] = _;rw [applyG_cons hck hstep];rfl,⟨stepF_ok h.ok hstep,stepF_bd h.ok h.bd hck zp23 hstep,h.lk,h.lr,hwin,fun k r1 hr1 hs2=>?_,h.bl,h.l0,h.ds⟩⟩
  by_cases hki:i = k
  ·subst hki
   refine ⟨_,List.mem_cons_self ..,hj,?_⟩
   show sp1.nx = ((q.st.logs.set i (q.st.logs.getD i [] ++ l)).getD i []).length
   rw [List.getD_eq_getElem?_getD (l:=q.st.logs.set i _),List.getElem?_set_self (by rw [h.ok.nl];exact hi),Option.getD_some,List.length_append,← hlg,← hnx]
   omega
  ·obtain ⟨t,g1,g2,g3⟩:=h.hw k r1 hr1 hs2
   refine ⟨t,List.mem_cons_of_mem _ (wsDel_mem.2 ⟨g1,by rw [hj];omega⟩),g2,?_⟩
   rw [g3]
   show _ = ((q.st.logs.set i _).getD k []).length
   rw [List.getD_eq_getElem?_getD,List.getD_eq_getElem?_getD,List.getElem?_set_ne hki]
theorem CqOk.settle {c:Cf} {q:Cq} (h:CqOk c q) {b node life code bits:Int} (hh:heldF q.st b node life = true) (hcd:0 ≤ code ∧ code ≤ 7) (hx:code = 0 ∨ bits = 0) (hbt:0 ≤ bits ∧ bits < 18446744073709551616) :
  (encodeF [settleC b code bits]).2 = 0 ∧ ∃ st,applyF q.st [settleC b code bits] = ((0,0),st) ∧ CqOk c { q with st:=st,ls:=(Ls.dropF q.ls b).2,ws:=wsDel q.ws (jobF q.st b) }:=by
 obtain ⟨i,r,hl,hr,h2,hb,h0,_,_,hj,hlg⟩:=held_row h.ok hh
 have hi:=(List.getElem?_eq_some_iff.1 hr).1
 have hb1:=(h.bd.rb r (List.mem_of_getElem? hr)).bd
 have hck:checkF (settleC b code bits) = 0:=settle_check (by omega) hcd hx
 have hha:=held_at hr h2 hb h0 h.ds
 have hstep:stepF q.st (settleC b code bits) = some { q.st with rows:=q.st.rows.set i (r.done code bits) }:=by
  unfold stepF
  rw [if_neg (by show ¬ ((6:Int) = 1);decide),if_neg (by show ¬ ((6:Int) = 2);decide),if_neg (by show ¬ ((6:Int) = 3);decide),if_neg (by show ¬ ((6:Int) = 4);decide),if_neg (by show ¬ ((6:Int) = 5);decide)]
  show (match heldAt q.st.rows b with|none=>none|some i=>_) = _
  rw [hha]
  dsimp only
  rw [getD_of hr,if_neg (by intro q1;exact q1 ⟨hcd.1,hcd.2,hx⟩)]
 have hds:=ds_same (f:=r.done code bits) h.ds hr rfl
 refine ⟨enc_one hck (by have:=put_settle b code bits (by omega) hcd.2;omega),_,by show applyG q.st q.st 0 [settleC b code bits] = _;rw [applyG_cons hck hstep];rfl,⟨stepF_ok h.ok hstep,stepF_bd h.ok h.bd hck hbt hstep,Ls.dropF_ok h.lk b,fun x hx=>?_,fun t ht=>h.win t (wsDel_mem.1 ht).1,fun k r1 hr1 hs2=>?_,fun r1 hr1=>?_,h.l0,hds⟩⟩
 ·have hxm:x ∈ q.ls ∧ x.badge ≠ b:=by
   unfold Ls.dropF at hx
   split at hx
   ·rename_i hn
    refine ⟨hx,fun e=>?_⟩
    unfold Ls.lfind at hn
    rw [List.find?_eq_none] at hn
    exact hn x hx (by simp [e])
   ·have:=List.mem_filter.1 hx
    exact ⟨this.1,by simpa using this.2⟩
  obtain ⟨r0,g1,g2,g3⟩:=h.lr x hxm.1
  refine ⟨r0,?_,g2,g3⟩
  show (q.st.rows.set i _)[(x.job - 1).toNat]? = some r0
  rw [List.getElem?_set_ne]
  ·exact g1
  ·intro e
   rw [← e,hr] at g1
   injection g1 with g1
   subst g1
   exact hxm.2 (by rw [← g3,hb])
 ·have hr1':(q.st.rows.set i (r.done code bits))[k]? = some r1:=hr1
  by_cases hki:i = k
  ·subst hki
   rw [List.getElem?_set_self hi] at hr1'
   injection hr1' with hr1'
   subst hr1'
   cases hs2
  ·rw [List.getElem?_set_ne hki] at hr1'
   obtain ⟨t,g1,g2,g3⟩:=h.hw k r1 hr1' hs2
   exact ⟨t,wsDel_mem.2 ⟨g1,by rw [hj];omega⟩,g2,g3⟩
 ·rcases List.mem_or_eq_of_mem_set hr1 with hr1|rfl
  ·exact h.bl r1 hr1
  ·exact h.bl r (List.mem_of_getElem? hr)
theorem nodup_job:∀ {l:List Ls.LE},(l.map Ls.LE.job).Nodup → ∀ {x y:Ls.LE},x ∈ l → y ∈ l → x.job = y.job → x = y
 | [],_,x,y,hx,_,_=>by cases hx
 | z :: l,h,x,y,hx,hy,e=>by
  rw [List.map_cons,List.nodup_cons] at h
  rcases List.mem_cons.1 hx with h1|h1
  ·rcases List.mem_cons.1 hy with h2|h2
   ·rw [h1,h2]
   ·exact absurd (List.mem_map.2 ⟨y,h2,by rw [← e,h1]⟩) h.1
  ·rcases List.mem_cons.1 hy with h2|h2
   ·exact absurd (List.mem_map.2 ⟨x,h1,by rw [e,h2]⟩) h.1
   ·exact nodup_job h.2 h1 h2 e
@[reducible] def Uniq (rows:List Rw):Prop:=∀ (i j:Nat) r r',rows[i]? = some r → rows[j]? = some r' → r.badge = r'.badge → 0 < r.badge → i = j
theorem expire_all (s0:StP):∀ (ov:List Ls.LE) (s:StP) (n:Nat),StOk s → StBd s → Uniq s.rows → (ov.map Ls.LE.job).Nodup → (∀ x ∈ ov,1 ≤ x.job ∧ 1 ≤ x.badge ∧ x.badge ≤ 1099511627776 ∧ ∃ r,s.rows[(x.job - 1).toNat]? = some r ∧ r.status = 2 ∧ r.badge = x.badge) →
  ∃ st,applyG s0 s n (ov.map expC) = ((0,0),st) ∧ st.res = s.res ∧ st.logs = s.logs ∧ StOk st ∧ StBd st ∧ Uniq st.rows ∧
   (∀ (k:Nat) r,st.rows[k]? = some r → (s.rows[k]? = some r ∧ ∀ x ∈ ov,x.job ≠ (k:Int) + 1) ∨ (r.status ≠ 2 ∧ ∃ r0,s.rows[k]? = some r0 ∧ r0.badge = r.badge)) ∧
   (∀ (k:Nat) r,s.rows[k]? = some r → (∀ x ∈ ov,x.job ≠ (k:Int) + 1) → st.rows[k]? = some r)
 | [],s,n,ok,bd,un,_,_=>⟨s,rfl,rfl,rfl,ok,bd,un,fun k r h=>.inl ⟨h,fun x hx=>(by cases hx)⟩,fun k r h _=>h⟩
 | x :: ov,s,n,ok,bd,un,nd,hx=>by
  rw [List.map_cons,List.nodup_cons] at nd
  obtain ⟨hj,hb1,hb2,r,hr,h2,hb⟩:=hx x (List.mem_cons_self ..)
  have hi:=(List.getElem?_eq_some_iff.1 hr).1
  have hck:=exp_check (x:=x) ⟨hb1,hb2⟩
  have hha:=held_at hr h2 hb (by omega) un
  have hstep:stepF s (expC x) = some { s with rows:=s.rows.set (x.job - 1).toNat (r.free s.att) }:=by
   unfold stepF
   rw [if_neg (by show ¬ ((5:Int) = 1);decide),if_neg (by show ¬ ((5:Int) = 2);decide),if_neg (by show ¬ ((5:Int) = 3);decide),if_neg (by show ¬ ((5:Int) = 4);decide),if_pos (by rfl)]
   show (match heldAt s.rows x.badge with|none=>none|some i=>_) = _
   rw [hha]
   dsimp only
   rw [getD_of hr]
  have ok1:=stepF_ok ok hstep
  have bd1:=stepF_bd ok bd hck zp23 hstep
  have un1:Uniq (s.rows.set (x.job - 1).toNat (r.free s.att)):=ds_same un hr rfl
  obtain ⟨st,g1,g2,g3,g4,g5,g6,g7,g8⟩:=expire_all s0 ov _ (n + 1) ok1 bd1 un1 nd.2 (fun y hy=>by
   obtain ⟨k1,k2,k3,r1,k4,k5,k6⟩:=hx y (List.mem_cons_of_mem _ hy)
   refine ⟨k1,k2,k3,r1,?_,k5,k6⟩
   show (s.rows.set _ _)[(y.job - 1).toNat]? = some r1
   rw [List.getElem?_set_ne]
   ·exact k4
   ·intro e
    exact nd.1 (List.mem_map.2 ⟨y,hy,by omega⟩))
  refine ⟨st,by rw [List.map_cons,applyG_cons hck hstep];exact g1,g2,g3,g4,g5,g6,fun k r1 hr1=>?_,fun k r1 hr1 hno=>?_⟩
  ·rcases g7 k r1 hr1 with ⟨q1,q2⟩|⟨q1,r0,q2,q3⟩
   ·have q1:(s.rows.set (x.job - 1).toNat (r.free s.att))[k]? = some r1:=q1
    by_cases hki:(x.job - 1).toNat = k
    ·subst hki
     rw [List.getElem?_set_self hi] at q1
     injection q1 with q1
     subst q1
     refine .inr ⟨?_,r,hr,rfl⟩
     unfold Rw.free
     dsimp only
     split <;> decide
    ·rw [List.getElem?_set_ne hki] at q1
     refine .inl ⟨q1,fun y hy=>?_⟩
     rcases List.mem_cons.1 hy with rfl|hy
     ·omega
     ·exact q2 y hy
   ·have q2:(s.rows.set (x.job - 1).toNat (r.free s.att))[k]? = some r0:=q2
    by_cases hki:(x.job - 1).toNat = k
    ·subst hki
     rw [List.getElem?_set_self hi] at q2
     injection q2 with q2
     subst q2
     exact .inr ⟨q1,r,hr,q3⟩
    ·rw [List.getElem?_set_ne hki] at q2
     exact .inr ⟨q1,r0,q2,q3⟩
  ·refine g8 k r1 ?_ (fun y hy=>hno y (List.mem_cons_of_mem _ hy))
   show (s.rows.set (x.job - 1).toNat _)[k]? = some r1
   rw [List.getElem?_set_ne]
   ·exact hr1
   ·intro e
    exact hno x (List.mem_cons_self ..) (by omega)
def wsDelAll (ws:List (Int × Sw.Sp)) (l:List Ls.LE):List (Int × Sw.Sp):=l.foldl (fun w x=>wsDel w x.job) ws
theorem wsDelAll_mem:∀ {l:List Ls.LE} {ws:List (Int × Sw.Sp)} {t:Int × Sw.Sp},t ∈ wsDelAll ws l ↔ t ∈ ws ∧ ∀ x ∈ l,t.1 ≠ x.job
 | [],ws,t=>by simp [wsDelAll]
 | x :: l,ws,t=>by
  show t ∈ wsDelAll (wsDel ws x.job) l ↔ _
  rw [wsDelAll_mem,wsDel_mem]
  constructor
  ·rintro ⟨⟨a,b⟩,d⟩
   exact ⟨a,fun y hy=>by rcases List.mem_cons.1 hy with rfl|hy;exact b;exact d y hy⟩
  ·rintro ⟨a,b⟩
   exact ⟨⟨a,b x (List.mem_cons_self ..)⟩,fun y hy=>b y (List.mem_cons_of_mem _ hy)⟩
theorem over_mem {l:List Ls.LE} {y:Ls.LE}:y ∈ Ls.overF l ↔ ∃ x ∈ l,y = Ls.dec x ∧ x.left - 1 = 0:=by
 unfold Ls.overF
 rw [List.mem_filter,List.mem_map]
 constructor
 ·rintro ⟨⟨x,hx,rfl⟩,h⟩
  exact ⟨x,hx,rfl,of_decide_eq_true h⟩
 ·rintro ⟨x,hx,rfl,h⟩
  exact ⟨⟨x,hx,rfl⟩,decide_eq_true h⟩
theorem rest_mem {l:List Ls.LE} {y:Ls.LE} (h:y ∈ Ls.restF l):∃ x ∈ l,y = Ls.dec x ∧ x.left - 1 ≠ 0:=by
 unfold Ls.restF at h
 rw [List.mem_filter,List.mem_map] at h
 obtain ⟨⟨x,hx,rfl⟩,h⟩:=h
 exact ⟨x,hx,rfl,by simpa using h⟩
theorem over_jobs {l:List Ls.LE} (h:(l.map Ls.LE.job).Nodup):((Ls.overF l).map Ls.LE.job).Nodup:=by
 unfold Ls.overF
 have h1:((l.map Ls.dec).map Ls.LE.job).Nodup:=by rw [Ls.jobs_map (f:=Ls.dec) (fun _=>rfl)];exact h
 exact h1.sublist ((List.filter_sublist).map _)
theorem lk_len {t:Int} {l:List Ls.LE} (h:Ls.LOk t l):l.length ≤ 8:=by
 have:=Ls.nodup_len' (a:=l.map Ls.LE.job) (b:=[1,2,3,4,5,6,7,8]) h.jobs (fun j hj=>by
  obtain ⟨x,hx,rfl⟩:=List.mem_map.1 hj
  have:=h.job0 x hx
  simp only [List.mem_cons,List.not_mem_nil,or_false]
  omega)
 rwa [List.length_map] at this
theorem CqOk.tick {c:Cf} {q:Cq} (h:CqOk c q) :
  (Ls.overF q.ls).length ≤ 8 ∧ (Ls.overF q.ls ≠ [] → (encodeF ((expL (Ls.overF q.ls)).map Cg.c)).2 = 0) ∧
   ∃ st,applyF q.st ((expL (Ls.overF q.ls)).map Cg.c) = ((0,0),st) ∧ CqOk c { q with st:=st,ls:=Ls.restF q.ls,ws:=wsDelAll q.ws (Ls.overF q.ls) }:=by
 have hlen:=lk_len h.lk
 have hol:=Ls.overF_len q.ls
 have hmap:(expL (Ls.overF q.ls)).map Cg.c = (Ls.overF q.ls).map expC:=by simp [expL]
 have hov:∀ y ∈ Ls.overF q.ls,1 ≤ y.badge ∧ y.badge ≤ 1099511627776:=fun y hy=>by
  obtain ⟨x,hx,rfl,_⟩:=over_mem.1 hy
  exact h.lk.badge0 x hx
 obtain ⟨st,g1,g2,g3,g4,g5,g6,g7,g8⟩:=expire_all q.st (Ls.overF q.ls) q.st 0 h.ok h.bd h.ds (over_jobs h.lk.jobs) (fun y hy=>by
  obtain ⟨x,hx,rfl,_⟩:=over_mem.1 hy
  exact ⟨(h.lk.job0 x hx).1,(h.lk.badge0 x hx).1,(h.lk.badge0 x hx).2,h.lr x hx⟩)
 refine ⟨by omega,fun hne=>exp_enc hov (List.length_pos_iff.2 hne) (by omega),st,by rw [hmap];exact g1,⟨g4,g5,Ls.restF_ok h.lk,fun y hy=>?_,fun t ht=>h.win t (wsDelAll_mem.1 ht).1,fun k r hr h2=>?_,fun r hr=>?_,⟨h.l0.1,by show q.la ≤ st.res;rw [g2];exact h.l0.2⟩,g6⟩⟩
 ·obtain ⟨x,hx,rfl,hlf⟩:=rest_mem hy
  obtain ⟨r,k1,k2,k3⟩:=h.lr x hx
  refine ⟨r,g8 _ r k1 (fun z hz=>?_),k2,k3⟩
  obtain ⟨x2,hx2,rfl,hl2⟩:=over_mem.1 hz
  intro e
  have hj0:=(h.lk.job0 x hx).1
  have e2:x2.job = x.job:=by have e:x2.job = (((x.job - 1).toNat:Nat):Int) + 1:=e;omega
  have:=nodup_job h.lk.jobs hx2 hx e2
  subst this
  exact hlf hl2
 ·rcases g7 k r hr with ⟨q1,q2⟩|⟨q1,_⟩
  ·obtain ⟨t,e1,e2,e3⟩:=h.hw k r q1 h2
   refine ⟨t,wsDelAll_mem.2 ⟨e1,fun x hx e=>q2 x hx (by rw [← e,e2])⟩,e2,?_⟩
   rw [e3,g3]
  ·exact absurd h2 q1
 ·obtain ⟨k,hk⟩:=List.getElem?_of_mem hr
  rcases g7 k r hk with ⟨q1,_⟩|⟨_,r0,q2,q3⟩
  ·exact h.bl r (List.mem_of_getElem? q1)
  ·rw [← q3];exact h.bl r0 (List.mem_of_getElem? q2)
end Go.Proofs.YtkoelgkghijgiaaGreat
namespace Go.Proofs.YtkoelgkghijgiaaGreat
open Go Go.Sep Go.Proofs Go.Proofs.Tryz
set_option maxRecDepth 10000
set_option maxHeartbeats 40000000
set_option synthInstance.maxSize 2000
theorem tick1_calm (B0:Base) (xb lb lm tb cb mb db wb sb:Nat) (c:Cf) (hc:CfOk c) (dead:Bool) (tv:Value) (ls:List Ls.LE) (les:List ME) (lck:Nat) (hL:Ls.TOk c.lease ls les lck) (hov:Ls.overF ls = []) (bx:Nat) :
  ConB prog B0 70 #[ptr bx] (CoB xb lb tb cb mb db wb sb c tv dead :: (Ls.TB lb lm c.lease les lck ++ [(bx,cl [ptr xb] 26)])) fun v A=>∃ lb1 lm1 es ck,A = CoB xb lb1 tb cb mb db wb sb c tv dead :: (Ls.TB lb1 lm1 c.lease es ck ++ [(bx,cl [ptr xb] 26)]) ∧ Ls.TOk c.lease (Ls.restF ls) es ck:=by
 obtain ⟨_,⟨b1,b2⟩,_⟩:=id hc
 refine zqJ (vs:=[_]) func70 ntmps70 fun B hB=>?_
 refine zg1 ?_
 refine zqA (Ls.clone_spec lb lm c.lease les lck) fun v A' hR=>?_
 obtain ⟨lb1,lm1,rfl,rfl⟩:=hR
 refine zg0 ?_
 refine zqA (Ls.tick_spec lb1 lm1 c.lease ls les lck hL) fun v A' hR=>?_
 obtain ⟨es,ck,G,hrs,rfl,hok⟩:=hR
 rw [hov] at hrs
 obtain ⟨ra,rc,rfl⟩:=Rs.form hrs
 rw [show (List.map Ls.LE.row []).length = 0 from rfl]
 clear hrs
 refine zg1 ?_
 refine Cd.loopK (σ:=Unit) (fun _=>True) (fun _=>[(0,ptr bx),(1,ptr lb1),(2,.slice ra 0 rc),(3,.slice none 0 0),(17,.int .i64 0),(18,.int .i64 0)]) (fun _=>CoB xb lb tb cb mb db wb sb c tv dead :: (Ls.TB lb1 lm1 c.lease es ck ++ [(bx,cl [ptr xb] 26)])) (fun _=>0) () trivial ⟨rfl,rfl,rfl,rfl,rfl,rfl,trivial⟩ (fun w h=>h.split) (fun _ _=>?_)
 refine zg7 ?_
 refine zqB (makes_nil B0 xb none 0) hB fun v A' hR=>?_
 subst hR
 refine zg1 ?_
 refine Cd.loopK (σ:=Unit) (fun _=>True) (fun _=>[(38,.int .i64 0),(39,.int .i64 0)]) (fun _=>CoB xb lb1 tb cb mb db wb sb c tv dead :: (Ls.TB lb1 lm1 c.lease es ck ++ [(bx,cl [ptr xb] 26)])) (fun _=>0) () trivial ⟨rfl,rfl,trivial⟩ (fun w h=>h.split) (fun _ _=>?_)
 refine zg7 ?_
 exact ze61
theorem tick_over (B0:Base) (xb lb tb cb mb db wb sb:Nat) (c:Cf) (tv:Value) (x:Dk) (k:Nat) (D:List Blk) (hD:DkA db x k D) (hde:x.de = false) (F:List Blk) (R:List Blk → Prop)
  (hd:∀ bx,ConB prog B0 70 #[ptr bx] (CoB xb lb tb cb mb db wb sb c tv false :: (D ++ (F ++ [(bx,cl [ptr xb] 26)]))) fun v A=>∃ A1,R A1 ∧ A = A1 ++ [(bx,cl [ptr xb] 26)]) :
  ConB prog B0 32 #[ptr xb] (CoB xb lb tb cb mb db wb sb c tv false :: (D ++ F)) fun v A=>v = .int .i64 0 ∧ R A:=by
 refine zqJ (vs:=[_]) func32 ntmps32 fun B hB=>?_
 repeat' (first|refine zs0 ?_|refine Ops.box rfl rfl rfl rfl (noPd rfl) (fun b=>?_))
 rename Nat=>bx
 refine Ops.callB (caught_calm B0 xb lb tb cb mb db wb sb c tv x k D hD hde _ 70 [ptr bx] _ (hd bx)) hB rfl (noPd rfl) rfl rfl rfl (fun v A' hR=>?_)
 obtain ⟨rfl,v0,A1,hR,rfl⟩:=hR
 refine zg0 ?_
 exact Cd.ret (ret1 (A':=A1) rfl (Res.tmp rfl) (fun _ h=>h.split) ⟨rfl,hR⟩)
structure Wn where
 job:Int
 n:Nat
 m:Nat
 sp:Sw.Sp
 es:List ME
 ck:Nat
@[reducible] def Wn.G (win:Nat) (t:Wn):List Blk:=Sw.WB t.n t.m win t.sp.nx t.es t.ck
@[reducible] def CoL (xb lb lm tb cb mb db wb sb:Nat) (c:Cf) (la re:Int) (tv:Value) (les:List ME) (lck:Nat) (sv:Value) (G:List Blk) (mes:List ME) (mck_:Nat) (w:Wl) (SD D TG TX WG:List Blk):List Blk :=
 CoB xb lb tb cb mb db wb sb c tv false :: (Ls.TB lb lm c.lease les lck ++ (Se.TabB tb sv G ++ (CtB cb c.block la re :: (mb,mpo mes mck_) :: WlB wb db w :: (SD ++ (D ++ (TG ++ (TX ++ WG)))))))
def ToldA (tv:Value) (tl:List Ch) (TG TX:List Blk):Prop:=∃ cgs:List Cg,OwnC tv cgs TG ∧ cgs.map Cg.c = tl ∧ ∀ B,Holds B TX → ∀ g ∈ cgs,SIn B g.a g.c.txs
def WnsA (win:Nat) (ws:List (Int × Sw.Sp)) (mes:List ME) (mck_:Nat) (WG:List Blk):Prop:=MOk mes mck_ ∧ ∃ wl:List Wn,WG = wl.flatMap (Wn.G win) ∧ (wl.map fun t=>(t.job,t.sp)) = ws ∧ ∀ t ∈ wl,mget mes t.job = some (ptr t.n) ∧ Sw.EsOk t.sp t.es t.ck
structure Co where
 q:Cq
 rs:List Se.Dk
 w:Wl
 x:Dk
 tl:List Ch
structure CoOk (c:Cf) (len n:Nat) (o:Co):Prop where
 cq:CqOk c o.q
 lg:LgOk o.w o.x len
 nm:o.w.h.number ≤ 2 * n + 1
 ln:o.q.la ≤ n
 rsI:Se.RowsI o.rs
 tn:o.tl.length ≤ 20 * n
 tx:∀ ch ∈ o.tl,ch.txs.length ≤ 2000000 ∧ 0 ≤ ch.rbits ∧ ch.rbits < 18446744073709551616
def CoA (xb db:Nat) (c:Cf) (n:Nat) (o:Co) (A:List Blk):Prop :=
 ∃ lb lm tb cb mb wb sb tv les lck sv G mes mck_ SD k D TG TX WG,A = CoL xb lb lm tb cb mb db wb sb c o.q.la o.q.st.res tv les lck sv G mes mck_ o.w SD D TG TX WG ∧
  Ls.TOk c.lease o.q.ls les lck ∧ Se.OwnK sv o.rs G ∧ WnsA c.window.toNat o.q.ws mes mck_ WG ∧ StA sb o.q.st SD ∧ DkA db o.x k D ∧ k ≤ 20000 * n + 1000 ∧ ToldA tv o.tl TG TX
theorem WnsA.del {win:Nat} {ws:List (Int × Sw.Sp)} {mes:List ME} {mck_:Nat} {WG:List Blk} (h:WnsA win ws mes mck_ WG) (job:Int):∃ WG1 J,WG.Perm (WG1 ++ J) ∧ WnsA win (wsDel ws job) (mdel mes job) mck_ WG1:=by
 obtain ⟨hok,wl,rfl,rfl,hw⟩:=h
 refine ⟨(wl.filter fun t=>!decide (t.job = job)).flatMap (Wn.G win),(wl.filter fun t=>decide (t.job = job)).flatMap (Wn.G win),?_,hok.del job,_,rfl,?_,fun t ht=>?_⟩
 ·rw [← List.flatMap_append]
  refine List.Perm.flatMap_right _ ?_
  have:=List.filter_append_perm (fun t:Wn=>!decide (t.job = job)) wl
  simpa using this.symm
 ·unfold wsDel
  rw [List.filter_map];rfl
 ·obtain ⟨h1,h2⟩:=List.mem_filter.1 ht
  obtain ⟨h3,h4⟩:=hw t h1
  have hne:t.job ≠ job:=by simpa using h2
  exact ⟨by rw [mget_del hok,if_neg hne];exact h3,h4⟩
theorem WnsA.delAll_ {win:Nat}:∀ {l:List Ls.LE} {ws:List (Int × Sw.Sp)} {mes:List ME} {mck_:Nat} {WG:List Blk},WnsA win ws mes mck_ WG → ∃ WG1 J,WG.Perm (WG1 ++ J) ∧ WnsA win (wsDelAll ws l) (delAll mes l) mck_ WG1
 | [],ws,mes,mck_,WG,h=>⟨WG,[],by rw [List.append_nil],h⟩
 | x :: l,ws,mes,mck_,WG,h=>by
  obtain ⟨W1,J1,p1,h1⟩:=h.del x.job
  obtain ⟨W2,J2,p2,h2⟩:=WnsA.delAll_ (l:=l) h1
  exact ⟨W2,J2 ++ J1,by
   refine p1.trans ?_
   rw [← List.append_assoc]
   exact p2.append_right _,h2⟩
theorem ToldA.more {tv:Value} {tl:List Ch} {TG TX:List Blk} (h:ToldA tv tl TG TX) (J:List Blk):ToldA tv tl TG (TX ++ J):=by
 obtain ⟨cgs,h1,h2,h3⟩:=h
 exact ⟨cgs,h1,h2,fun B hB=>h3 B (hB.sub fun p hp=>List.mem_append_left _ hp)⟩
theorem mkR_ok {every:Int} {w:Wl} {x:Dk} {len:Nat} {s:StP} {l:List Ch} (ok:StOk s) (bd:StBd s) (lg:LgOk w x len) (hev:every ≤ 16) (hr:20480 ≤ roomF len) (hn:w.h.number + 2 < 1099511627776) (henc:l ≠ [] → (encodeF l).2 = 0) :
  LgOk (mkR every w x s l).1 (mkR every w x s l).2 len ∧ (mkR every w x s l).1.h.number ≤ w.h.number + 2:=by
 unfold mkR
 split
 ·exact ⟨lg,by show w.h.number ≤ _;omega⟩
 ·rename_i hl
  obtain ⟨h0,h1⟩:=enc_ok (henc hl)
  have:=mk_calm (every:=every) (b:=bytesS s) lg hev hr hn (bytesS_le bd ok) h0 h1
  exact ⟨this.1,this.2.1⟩
def Co.mk_ (c:Cf) (o:Co) (cs:List Ch) (ls:List Ls.LE) (la:Int) (ws:List (Int × Sw.Sp)) (rs:List Se.Dk):Co :=
 ⟨⟨(applyF o.q.st cs).2,ls,la,ws⟩,rs,(mkR c.every o.w o.x o.q.st cs).1,(mkR c.every o.w o.x o.q.st cs).2,o.tl ++ cs⟩
theorem CoOk.mk_ {c:Cf} {len n:Nat} {o:Co} (h:CoOk c len n o) (hc:CfOk c) (hlen:20480 ≤ roomF len) (hn:n ≤ 2000000) {cs:List Ch} {ls:List Ls.LE} {la:Int} {ws:List (Int × Sw.Sp)} {rs:List Se.Dk} {st:StP}
  (ha:applyF o.q.st cs = ((0,0),st)) (hq:CqOk c ⟨st,ls,la,ws⟩) (henc:cs ≠ [] → (encodeF cs).2 = 0) (hcs:cs.length ≤ 16) (htx:∀ ch ∈ cs,ch.txs.length ≤ 2000000 ∧ 0 ≤ ch.rbits ∧ ch.rbits < 18446744073709551616) (hrs:Se.RowsI rs) (hla:la ≤ (n:Int) + 1):CoOk c len (n + 1) (o.mk_ c cs ls la ws rs):=by
 obtain ⟨_,_,_,_,_,_,_,⟨ev1,ev16⟩,_⟩:=id hc
 have hnm:=h.nm
 obtain ⟨m1,m2⟩:=mkR_ok (every:=c.every) (s:=o.q.st) (l:=cs) h.cq.ok h.cq.bd h.lg ev16 hlen (by omega) henc
 refine ⟨by show CqOk c ⟨(applyF o.q.st cs).2,ls,la,ws⟩;rw [ha];exact hq,m1,by show (mkR c.every o.w o.x o.q.st cs).1.h.number ≤ _;omega,by show la ≤ ((n + 1:Nat):Int);omega,hrs,?_,fun ch hch=>?_⟩
 ·show (o.tl ++ cs).length ≤ _
  have:=h.tn
  rw [List.length_append];omega
 ·rcases List.mem_append.1 hch with hch|hch
  ·exact h.tx ch hch
  ·exact htx ch hch
def Co.tick (c:Cf) (o:Co):Co:=o.mk_ c ((expL (Ls.overF o.q.ls)).map Cg.c) (Ls.restF o.q.ls) o.q.la (wsDelAll o.q.ws (Ls.overF o.q.ls)) o.rs
theorem exp_tx {l:List Ls.LE}:∀ ch ∈ (expL l).map Cg.c,ch.txs.length ≤ 2000000 ∧ 0 ≤ ch.rbits ∧ ch.rbits < 18446744073709551616:=fun ch hch=>by
 obtain ⟨g,hg,rfl⟩:=List.mem_map.1 hch
 exact ⟨by rw [(expL_bare l g hg).t];exact Nat.zero_le _,(expL_bare l g hg).x⟩
theorem CoOk.tick {c:Cf} {len n:Nat} {o:Co} (h:CoOk c len n o) (hc:CfOk c) (hlen:20480 ≤ roomF len) (hn:n ≤ 2000000):CoOk c len (n + 1) (o.tick c) ∧ applyF o.q.st ((expL (Ls.overF o.q.ls)).map Cg.c) = ((0,0),(o.tick c).q.st):=by
 obtain ⟨h1,h2,st,h3,h4⟩:=h.cq.tick
 have hl:((expL (Ls.overF o.q.ls)).map Cg.c).length = (Ls.overF o.q.ls).length:=by simp [expL]
 refine ⟨h.mk_ hc hlen hn h3 h4 (fun q=>h2 (fun e=>q (by rw [e];rfl))) (by omega) exp_tx h.rsI (by have:=h.ln;omega),?_⟩
 show applyF _ _ = ((0,0),(applyF o.q.st _).2)
 rw [h3]
theorem co_tick (B0:Base) (xb db:Nat) (c:Cf) (hc:CfOk c) (len n:Nat) (hlen:20480 ≤ roomF len) (hn:n ≤ 2000000) (o:Co) (h:CoOk c len n o) (A:List Blk) (hA:CoA xb db c n o A) :
  ConB prog B0 32 #[ptr xb] A fun v A'=>v = .int .i64 0 ∧ CoA xb db c (n + 1) (o.tick c) A':=by
 obtain ⟨lb,lm,tb,cb,mb,wb,sb,tv,les,lck,sv,G,mes,mck_,SD,k,D,TG,TX,WG,rfl,hL,hO,hW,hS,hD,hk,hT⟩:=hA
 obtain ⟨h1,h2,st,h3,h4⟩:=h.cq.tick
 have hnm:=h.nm
 have htn:=h.tn
 have hde:=h.lg.cm.de
 have hTT:=hT
 obtain ⟨cgs,hcg,hcm,hct⟩:=hT
 have hcl:cgs.length ≤ 1000000000:=by
  have:cgs.length = o.tl.length:=by rw [← hcm,List.length_map]
  omega
 obtain ⟨WG1,J,hWp,hW1⟩:=hW.delAll_ (l:=Ls.overF o.q.ls)
 have key:∀ bx,ConB prog B0 70 #[ptr bx] (CoB xb lb tb cb mb db wb sb c tv false :: (D ++ ((Ls.TB lb lm c.lease les lck ++ (Se.TabB tb sv G ++ (CtB cb c.block o.q.la o.q.st.res :: (mb,mpo mes mck_) :: WlB wb db o.w :: (SD ++ (TG ++ (TX ++ WG)))))) ++ [(bx,cl [ptr xb] 26)]))) fun v A=>∃ A1,CoA xb db c (n + 1) (o.tick c) A1 ∧ A = A1 ++ [(bx,cl [ptr xb] 26)]:=fun bx=>by
  by_cases hov:Ls.overF o.q.ls = []
  ·have hg:=(tick1_calm B0 xb lb lm tb cb mb db wb sb c hc false tv o.q.ls les lck hL hov bx).beside (F:=Se.TabB tb sv G ++ (CtB cb c.block o.q.la o.q.st.res :: (mb,mpo mes mck_) :: WlB wb db o.w :: (SD ++ (D ++ (TG ++ (TX ++ WG))))))
   refine (hg.permIn ?_).permOut fun v A' hR=>?_
   ·refine perm_of fun c g ha hc' hp h0=>?_
    simp only [List.cons_append,List.append_assoc,List.nil_append,ha,hc',h0];omega
   ·obtain ⟨A2,⟨lb1,lm1,es,ck,rfl,hok⟩,rfl⟩:=hR
    refine ⟨CoL xb lb1 lm1 tb cb mb db wb sb c o.q.la o.q.st.res tv es ck sv G mes mck_ o.w SD D TG TX WG ++ [(bx,cl [ptr xb] 26)],⟨_,⟨lb1,lm1,tb,cb,mb,wb,sb,tv,es,ck,sv,G,mes,mck_,SD,k,D,TG,TX,WG,?_,hok,hO,?_,?_,?_,by omega,?_⟩,rfl⟩,?_⟩
    ·unfold Co.tick;rw [hov];rfl
    ·unfold Co.tick;rw [hov];exact hW
    ·unfold Co.tick;rw [hov];exact hS
    ·unfold Co.tick;rw [hov];exact hD
    ·unfold Co.tick;rw [hov]
     show ToldA tv (o.tl ++ []) TG TX
     rw [List.append_nil];exact hTT
    ·refine perm_of fun c g ha hc' hp h0=>?_
     simp only [CoL,List.cons_append,List.append_assoc,List.nil_append,ha,hc',h0];omega
  ·have hcs:(expL (Ls.overF o.q.ls)).map Cg.c ≠ []:=fun q=>hov (by simpa [expL] using q)
   have hg:=(tick1_gen B0 xb lb lm tb cb mb db wb sb c hc false o.w o.x len h.lg hlen (by omega) k D hD (by omega) o.q.st SD hS h.cq.ok h.cq.bd tv cgs TG hcg hcl o.q.ls les lck hL mes mck_ bx hov h1 (h2 hov)).beside (F:=Se.TabB tb sv G ++ (CtB cb c.block o.q.la o.q.st.res :: (TX ++ WG)))
   refine (hg.permIn ?_).permOut fun v A' hR=>?_
   ·refine perm_of fun c g ha hc' hp h0=>?_
    simp only [List.cons_append,List.append_assoc,List.nil_append,ha,hc',h0];omega
   ·obtain ⟨A2,⟨lb1,lm1,les1,lck1,SD1,D1,tv1,TG1,k1,rfl,hL1,hS1,hD1,hk1,hT1⟩,rfl⟩:=hR
    rw [← mkR_some (s:=o.q.st) hcs] at hD1
    have hres:(o.tick c).q.st.res = o.q.st.res:=by
     obtain ⟨st2,g1,g2,_⟩:=expire_all o.q.st (Ls.overF o.q.ls) o.q.st 0 h.cq.ok h.cq.bd h.cq.ds (over_jobs h.cq.lk.jobs) (fun y hy=>by
      obtain ⟨z,hz,rfl,_⟩:=over_mem.1 hy
      exact ⟨(h.cq.lk.job0 z hz).1,(h.cq.lk.badge0 z hz).1,(h.cq.lk.badge0 z hz).2,h.cq.lr z hz⟩)
     show (applyF o.q.st ((expL (Ls.overF o.q.ls)).map Cg.c)).2.res = _
     rw [show (expL (Ls.overF o.q.ls)).map Cg.c = (Ls.overF o.q.ls).map expC from by simp [expL]]
     unfold applyF
     rw [g1];exact g2
    refine ⟨CoL xb lb1 lm1 tb cb mb db wb sb c o.q.la o.q.st.res tv1 les1 lck1 sv G (delAll mes (Ls.overF o.q.ls)) mck_ (o.tick c).w SD1 D1 TG1 (TX ++ J) WG1 ++ [(bx,cl [ptr xb] 26)],⟨_,⟨lb1,lm1,tb,cb,mb,wb,sb,tv1,les1,lck1,sv,G,delAll mes (Ls.overF o.q.ls),mck_,SD1,k1,D1,TG1,TX ++ J,WG1,?_,hL1,hO,hW1,hS1,hD1,by omega,?_⟩,rfl⟩,?_⟩
    ·rw [hres];rfl
    ·refine ⟨cgs ++ expL (Ls.overF o.q.ls),hT1,by rw [List.map_append,hcm];rfl,fun B hB g hg=>?_⟩
     rcases List.mem_append.1 hg with hg|hg
     ·exact hct B (hB.sub fun p hp=>List.mem_append_left _ hp) g hg
     ·have hb:=expL_bare _ g hg
      rw [hb.a,hb.t];exact SIn.nil
    ·have hw2:(o.tick c).w = (mkW c.every o.w o.x (bytesS o.q.st) (encodeF ((expL (Ls.overF o.q.ls)).map Cg.c)).1).1:=congrArg Prod.fst (mkR_some hcs)
     rw [hw2]
     refine perm_of fun c g ha hc' hp h0=>?_
     have hwg:=hp _ _ hWp
     rw [ha] at hwg
     simp only [CoL,List.cons_append,List.append_assoc,List.nil_append,ha,hc',h0,hwg];omega
 have ht:=tick_over B0 xb lb tb cb mb db wb sb c tv o.x k D hD hde _ _ key
 refine (ht.permIn ?_)
 refine perm_of fun c g ha hc' hp h0=>?_
 simp only [CoL,List.cons_append,List.append_assoc,List.nil_append,ha,hc',h0];omega
def CoP (xb db:Nat) (c:Cf) (n:Nat) (o:Co) (A:List Blk):Prop:=∃ A1,A.Perm A1 ∧ CoA xb db c n o A1
theorem CoA.p {xb db:Nat} {c:Cf} {n:Nat} {o:Co} {A:List Blk} (h:CoA xb db c n o A):CoP xb db c n o A:=⟨A,List.Perm.refl _,h⟩
theorem CoA.later {xb db:Nat} {c:Cf} {n:Nat} {o:Co} {A:List Blk} (h:CoA xb db c n o A):CoA xb db c (n + 1) o A:=by
 obtain ⟨lb,lm,tb,cb,mb,wb,sb,tv,les,lck,sv,G,mes,mck_,SD,k,D,TG,TX,WG,e,hL,hO,hW,hS,hD,hk,hT⟩:=h
 exact ⟨lb,lm,tb,cb,mb,wb,sb,tv,les,lck,sv,G,mes,mck_,SD,k,D,TG,TX,WG,e,hL,hO,hW,hS,hD,by omega,hT⟩
theorem CoOk.later {c:Cf} {len n:Nat} {o:Co} (h:CoOk c len n o):CoOk c len (n + 1) o :=
 ⟨h.cq,h.lg,by have:=h.nm;omega,by have:=h.ln;omega,h.rsI,by have:=h.tn;omega,h.tx⟩
theorem CqOk.la {c:Cf} {q:Cq} (h:CqOk c q) {la:Int} (h1:q.la ≤ la) (h2:la ≤ q.st.res):CqOk c { q with la:=la } :=
 ⟨h.ok,h.bd,h.lk,h.lr,h.win,h.hw,fun r hr=>by have:=h.bl r hr;show r.badge ≤ la;omega,⟨by have:=h.l0.1;show 0 ≤ la;omega,h2⟩,h.ds⟩
def resOf (c:Cf) (q:Cq):Int:=(nextB c.block q.la q.st.res).1.2.1
theorem next_there {c:Cf} {len n:Nat} {o:Co} (h:CoOk c len n o) (hn:n ≤ 2000000):nextB c.block o.q.la o.q.st.res = ((o.q.la + 1,resOf c o.q,0),o.q.la + 1,(nextB c.block o.q.la o.q.st.res).2.2):=by
 have hl:=h.ln
 unfold resOf nextB
 rw [if_neg (by omega)]
 split <;> rfl
theorem ToldA.bare {tv1:Value} {cgs l:List Cg} {TG1 TX:List Blk} (h1:OwnC tv1 (cgs ++ l) TG1) (h2:∀ B,Holds B TX → ∀ g ∈ cgs,SIn B g.a g.c.txs) (hb:∀ g ∈ l,Bare g):ToldA tv1 (cgs.map Cg.c ++ l.map Cg.c) TG1 TX :=
 ⟨cgs ++ l,h1,by rw [List.map_append],fun B hB g hg=>by
  rcases List.mem_append.1 hg with hg|hg
  ·exact h2 B hB g hg
  ·rw [(hb g hg).a,(hb g hg).t];exact SIn.nil⟩
theorem bare_tx {l:List Cg} (hb:∀ g ∈ l,Bare g):∀ ch ∈ l.map Cg.c,ch.txs.length ≤ 2000000 ∧ 0 ≤ ch.rbits ∧ ch.rbits < 18446744073709551616:=fun ch hch=>by
 obtain ⟨g,hg,rfl⟩:=List.mem_map.1 hch
 exact ⟨by rw [(hb g hg).t];exact Nat.zero_le _,(hb g hg).x⟩
theorem resL_len (rs:Int):(resL rs).length ≤ 1:=by unfold resL;split <;> simp
def helloO (c:Cf) (o:Co) (node life:Int):ByteArray × Co :=
 if (Se.helloV (Se.rowAt o.rs (node - 2)) life).1 = 2 then
  ((encF (welM (o.q.la + 1))).1,o.mk_ c ((resL (resOf c o.q)).map Cg.c) o.q.ls (o.q.la + 1) o.q.ws (Se.putRow o.rs (node - 2) (Se.openV (Se.rowAt o.rs (node - 2)) (node - 2) life (o.q.la + 1))))
 else (if (Se.helloV (Se.rowAt o.rs (node - 2)) life).1 = 0 then ⟨#[]⟩ else (encF (welM (Se.helloV (Se.rowAt o.rs (node - 2)) life).2)).1,o)
theorem CoOk.hello {c:Cf} {len n:Nat} {o:Co} (h:CoOk c len n o) (hc:CfOk c) (hlen:20480 ≤ roomF len) (hn:n ≤ 2000000) (node life:Int) :
  CoOk c len (n + 1) (helloO c o node life).2 ∧ ∃ cs,(helloO c o node life).2.tl = o.tl ++ cs ∧ applyF o.q.st cs = ((0,0),(helloO c o node life).2.q.st):=by
 unfold helloO
 split
 ·obtain ⟨ha,hq,e1,e2,e3,e4,he⟩:=h.cq.draw hc (next_there h hn)
  refine ⟨h.mk_ hc hlen hn ha (hq.la (by show o.q.la ≤ o.q.la + 1;omega) e3) (fun q=>he (fun q2=>q (by rw [q2];rfl))) (by rw [List.length_map];have:=resL_len (resOf c o.q);omega) (bare_tx (resL_bare _)) (Se.openV_rows h.rsI) (by have:=h.ln;omega),_,rfl,?_⟩
  show applyF _ _ = ((0,0),(applyF _ _).2)
  rw [ha]
 ·exact ⟨h.later,[],by rw [List.append_nil],rfl⟩
theorem co_hello (B0:Base) (xb db:Nat) (c:Cf) (hc:CfOk c) (len n:Nat) (hlen:20480 ≤ roomF len) (hn:n ≤ 2000000) (o:Co) (h:CoOk c len n o) (A:List Blk) (hA:CoP xb db c n o A) (node life:Int) (hn1:2 ≤ node) (hn2:node ≤ 9) (m:Ms) :
  ConB prog B0 85 #[.agg (heV xb node life m).toArray] A fun v A'=>v = .string (helloO c o node life).1 ∧ CoP xb db c (n + 1) (helloO c o node life).2 A':=by
 obtain ⟨A1,hp1,hA⟩:=hA
 refine ConB.permIn ?_ hp1
 have hAA:=hA
 obtain ⟨lb,lm,tb,cb,mb,wb,sb,tv,les,lck,sv,G,mes,mck_,SD,k,D,TG,TX,WG,rfl,hL,hO,hW,hS,hD,hk,hT⟩:=hA
 have hnm:=h.nm
 have htn:=h.tn
 obtain ⟨cgs,hcg,hcm,hct⟩:=hT
 have hcl:cgs.length ≤ 1000000000:=by
  have:cgs.length = o.tl.length:=by rw [← hcm,List.length_map]
  omega
 have hre:=h.cq.bd.rs
 have hl0:=h.cq.l0
 by_cases hw:(Se.helloV (Se.rowAt o.rs (node - 2)) life).1 = 2
 ·obtain ⟨ha,hq,e1,e2,e3,e4,he⟩:=h.cq.draw hc (next_there h hn)
  have hg:=(hello_fresh B0 xb lb tb cb mb db wb sb c hc false o.w o.x len h.lg hlen (by omega) k D hD (by omega) o.q.st SD hS h.cq.ok h.cq.bd tv cgs TG hcg hcl node life hn1 hn2 m sv o.rs G hO (Se.helloV (Se.rowAt o.rs (node - 2)) life).2 (Prod.ext hw rfl) o.q.la o.q.st.res (o.q.la + 1) (resOf c o.q) (o.q.la + 1) _ hre.1 hre.2 hl0.1 (next_there h hn) he).beside (F:=Ls.TB lb lm c.lease les lck ++ ((mb,mpo mes mck_) :: (TX ++ WG)))
  refine (hg.permIn ?_).permOut fun v A' hR=>?_
  ·refine perm_of fun c g ha hc' hp h0=>?_
   simp only [CoL,List.cons_append,List.append_assoc,List.nil_append,ha,hc',h0];omega
  ·obtain ⟨A2,⟨rfl,SD1,D1,tv1,TG1,G1,k1,rfl,hS1,hD1,hk1,hT1,hO1⟩,rfl⟩:=hR
   have hres:(applyF o.q.st ((resL (resOf c o.q)).map Cg.c)).2.res = (nextB c.block o.q.la o.q.st.res).2.2:=by rw [ha]
   have hh:helloO c o node life = ((encF (welM (o.q.la + 1))).1,o.mk_ c ((resL (resOf c o.q)).map Cg.c) o.q.ls (o.q.la + 1) o.q.ws (Se.putRow o.rs (node - 2) (Se.openV (Se.rowAt o.rs (node - 2)) (node - 2) life (o.q.la + 1)))):=if_pos hw
   rw [hh]
   refine ⟨_,⟨rfl,CoL xb lb lm tb cb mb db wb sb c (o.q.la + 1) (nextB c.block o.q.la o.q.st.res).2.2 tv1 les lck sv G1 mes mck_ (mkR c.every o.w o.x o.q.st ((resL (resOf c o.q)).map Cg.c)).1 SD1 D1 TG1 TX WG,?_,lb,lm,tb,cb,mb,wb,sb,tv1,les,lck,sv,G1,mes,mck_,SD1,k1,D1,TG1,TX,WG,?_,hL,hO1,hW,hS1,hD1,by omega,?_⟩,List.Perm.refl _⟩
   ·refine perm_of fun c g ha hc' hp h0=>?_
    simp only [CoL,List.cons_append,List.append_assoc,List.nil_append,ha,hc',h0];omega
   ·show _ = CoL xb lb lm tb cb mb db wb sb c (o.q.la + 1) (applyF o.q.st ((resL (resOf c o.q)).map Cg.c)).2.res _ _ _ _ _ _ _ _ _ _ _ _ _
    rw [hres];rfl
   ·show ToldA tv1 (o.tl ++ _) TG1 TX
    rw [← hcm]
    exact ToldA.bare hT1 hct (resL_bare _)
 ·have hg:=(Con.toB (B0:=B0) (hello_old xb lb tb cb mb db wb sb c tv false node life hn1 hn2 m sv o.rs G hO (Se.helloV (Se.rowAt o.rs (node - 2)) life).1 (Se.helloV (Se.rowAt o.rs (node - 2)) life).2 rfl hw)).beside (F:=Ls.TB lb lm c.lease les lck ++ (CtB cb c.block o.q.la o.q.st.res :: (mb,mpo mes mck_) :: WlB wb db o.w :: (SD ++ (D ++ (TG ++ (TX ++ WG))))))
  have hh:helloO c o node life = (if (Se.helloV (Se.rowAt o.rs (node - 2)) life).1 = 0 then ⟨#[]⟩ else (encF (welM (Se.helloV (Se.rowAt o.rs (node - 2)) life).2)).1,o):=if_neg hw
  rw [hh]
  refine (hg.permIn ?_).permOut fun v A' hR=>?_
  ·refine perm_of fun c g ha hc' hp h0=>?_
   simp only [CoL,List.cons_append,List.append_assoc,List.nil_append,ha,hc',h0];omega
  ·obtain ⟨A2,⟨rfl,rfl⟩,rfl⟩:=hR
   refine ⟨_,⟨rfl,hAA.later.p⟩,?_⟩
   refine perm_of fun c g ha hc' hp h0=>?_
   simp only [CoL,List.cons_append,List.append_assoc,List.nil_append,ha,hc',h0];omega
theorem WnsA.new {win:Nat} {ws:List (Int × Sw.Sp)} {mes:List ME} {mck_:Nat} {WG:List Blk} (h:WnsA win ws mes mck_ WG) (job:Int) :
  ∃ J WGd,WG.Perm (J ++ WGd) ∧ ∀ wn1 wm1 es1 ck1 sp1,Sw.EsOk sp1 es1 ck1 → WnsA win ((job,sp1) :: wsDel ws job) (mput mes mck_ job (ptr wn1)) (mck mes mck_ job) (Sw.WB wn1 wm1 win sp1.nx es1 ck1 ++ WGd):=by
 obtain ⟨hok,wl,rfl,rfl,hw⟩:=h
 refine ⟨(wl.filter fun t=>decide (t.job = job)).flatMap (Wn.G win),(wl.filter fun t=>!decide (t.job = job)).flatMap (Wn.G win),?_,fun wn1 wm1 es1 ck1 sp1 he=>⟨hok.put job _,⟨job,wn1,wm1,sp1,es1,ck1⟩ :: wl.filter (fun t=>!decide (t.job = job)),by rw [List.flatMap_cons],?_,fun t ht=>?_⟩⟩
 ·rw [← List.flatMap_append]
  refine List.Perm.flatMap_right _ ?_
  exact (List.filter_append_perm (fun t:Wn=>decide (t.job = job)) wl).symm
 ·rw [List.map_cons]
  unfold wsDel
  rw [List.filter_map];rfl
 ·rcases List.mem_cons.1 ht with rfl|ht
  ·exact ⟨by rw [mget_put hok,if_pos rfl],he⟩
  ·obtain ⟨h1,h2⟩:=List.mem_filter.1 ht
   obtain ⟨h3,h4⟩:=hw t h1
   have hne:t.job ≠ job:=by simpa using h2
   exact ⟨by rw [mget_put hok,if_neg hne];exact h3,h4⟩
theorem WnsA.take {win:Nat} {ws:List (Int × Sw.Sp)} {mes:List ME} {mck_:Nat} {WG:List Blk} (h:WnsA win ws mes mck_ WG) {job:Int} {sp:Sw.Sp} (hm:(job,sp) ∈ ws) :
  ∃ n m es ck J WGd,WG.Perm (Sw.WB n m win sp.nx es ck ++ (J ++ WGd)) ∧ mget mes job = some (ptr n) ∧ Sw.EsOk sp es ck ∧ ∀ wn1 wm1 es1 ck1 sp1,Sw.EsOk sp1 es1 ck1 → WnsA win ((job,sp1) :: wsDel ws job) (mput mes mck_ job (ptr wn1)) (mck mes mck_ job) (Sw.WB wn1 wm1 win sp1.nx es1 ck1 ++ WGd):=by
 have h0:=h
 obtain ⟨hok,wl,rfl,rfl,hw⟩:=h
 obtain ⟨t,ht,e⟩:=List.mem_map.1 hm
 injection e with e1 e2
 obtain ⟨h3,h4⟩:=hw t ht
 have htm:t ∈ wl.filter fun t=>decide (t.job = job):=List.mem_filter.2 ⟨ht,decide_eq_true e1⟩
 obtain ⟨a,b,hab⟩:=List.append_of_mem htm
 subst e2
 rw [e1] at h3
 refine ⟨t.n,t.m,t.es,t.ck,(a ++ b).flatMap (Wn.G win),(wl.filter fun t=>!decide (t.job = job)).flatMap (Wn.G win),?_,h3,h4,fun wn1 wm1 es1 ck1 sp1 he=>⟨hok.put job _,⟨job,wn1,wm1,sp1,es1,ck1⟩ :: wl.filter (fun t=>!decide (t.job = job)),by rw [List.flatMap_cons],?_,fun t ht=>?_⟩⟩
 ·have hp:wl.Perm ((a ++ t :: b) ++ wl.filter fun t=>!decide (t.job = job)):=by
   rw [← hab];exact (List.filter_append_perm (fun t:Wn=>decide (t.job = job)) wl).symm
  have hp2:((a ++ t :: b) ++ wl.filter fun t=>!decide (t.job = job)).Perm (t :: ((a ++ b) ++ wl.filter fun t=>!decide (t.job = job))):=(List.perm_middle.append_right _)
  have:=List.Perm.flatMap_right (Wn.G win) (hp.trans hp2)
  rw [List.flatMap_cons,List.flatMap_append] at this
  exact this
 ·rw [List.map_cons]
  unfold wsDel
  rw [List.filter_map];rfl
 ·rcases List.mem_cons.1 ht with rfl|ht
  ·exact ⟨by rw [mget_put hok,if_pos rfl],he⟩
  ·obtain ⟨h1,h2⟩:=List.mem_filter.1 ht
   obtain ⟨h3,h4⟩:=hw _ h1
   have hne:∀ {t:Wn},(!decide (t.job = job)) = true → t.job ≠ job:=fun h=>by simpa using h
   exact ⟨by rw [mget_put hok,if_neg (hne h2)];exact h3,h4⟩
def ChunkR (c:Cf) (o:Co) (node life:Int) (m:Ms) (reply:ByteArray) (o1:Co):Prop :=
 (heldF o.q.st m.badge node life = false ∧ reply = ⟨#[]⟩ ∧ o1 = o) ∨
 (heldF o.q.st m.badge node life = true ∧ ∃ sp te l sp1,(jobF o.q.st m.badge,sp) ∈ o.q.ws ∧ sp.nx = (logF o.q.st m.badge).length ∧ Sw.takeF c.window.toNat sp m.index m.text = (te,l,sp1) ∧
  reply = (encF (ackM m.badge ((logF o.q.st m.badge).length + l.length))).1 ∧ o1 = o.mk_ c (if l = [] then [] else [logC m.badge l]) o.q.ls o.q.la ((jobF o.q.st m.badge,sp1) :: wsDel o.q.ws (jobF o.q.st m.badge)) o.rs)
theorem CoOk.chunk {c:Cf} {len n:Nat} {o:Co} (h:CoOk c len n o) (hc:CfOk c) (hlen:20480 ≤ roomF len) (hn:n ≤ 2000000) {node life:Int} {m:Ms} {reply:ByteArray} {o1:Co} (hr:ChunkR c o node life m reply o1) :
  CoOk c len (n + 1) o1 ∧ ∃ cs,o1.tl = o.tl ++ cs ∧ applyF o.q.st cs = ((0,0),o1.q.st):=by
 rcases hr with ⟨_,_,rfl⟩|⟨hh,sp,te,l,sp1,hm,hnx,htk,_,rfl⟩
 ·exact ⟨h.later,[],by rw [List.append_nil],rfl⟩
 ·obtain ⟨w1,w2⟩:=h.cq.win _ hm
  obtain ⟨k1,k2⟩:=h.cq.chunk hc hh w1 w2 hnx htk
  have hl:=h.ln
  by_cases hl0:l = []
  ·rw [if_pos hl0]
   exact ⟨h.mk_ hc hlen hn (st:=o.q.st) rfl (k1 hl0) (fun q=>absurd rfl q) (Nat.zero_le _) (fun ch hch=>by cases hch) h.rsI (by omega),[],rfl,rfl⟩
  ·rw [if_neg hl0]
   obtain ⟨k3,st,k4,k5⟩:=k2 hl0
   have hgr:=Sw.takeF_grow w1 m.index m.text
   have hok1:=(Sw.takeF_ok w1 m.index m.text).n
   rw [htk] at hgr hok1
   dsimp only at hgr hok1
   refine ⟨h.mk_ hc hlen hn k4 k5 (fun _=>k3) (by simp) (fun ch hch=>by rw [List.mem_singleton] at hch;subst hch;exact ⟨by show l.length ≤ 2000000;omega,by show (0:Int) ≤ 0 ∧ (0:Int) < _;omega⟩) h.rsI (by omega),_,rfl,?_⟩
   show applyF _ _ = ((0,0),(applyF _ _).2)
   rw [k4]
theorem co_chunk (B0:Base) (xb db:Nat) (c:Cf) (hc:CfOk c) (len n:Nat) (hlen:20480 ≤ roomF len) (hn:n ≤ 2000000) (o:Co) (h:CoOk c len n o) (A:List Blk) (hA:CoP xb db c n o A) (node life:Int) (m:Ms) (hix:m.index ≤ 9223372036854775807) :
  ConB prog B0 87 #[.agg (heV xb node life m).toArray] A fun v A'=>∃ reply o1,v = .string reply ∧ ChunkR c o node life m reply o1 ∧ CoP xb db c (n + 1) o1 A':=by
 obtain ⟨A1,hp1,hA⟩:=hA
 refine ConB.permIn ?_ hp1
 have hAA:=hA
 obtain ⟨lb,lm,tb,cb,mb,wb,sb,tv,les,lck,sv,G,mes,mck_,SD,k,D,TG,TX,WG,rfl,hL,hO,hW,hS,hD,hk,hT⟩:=hA
 have hnm:=h.nm
 have htn:=h.tn
 obtain ⟨cgs,hcg,hcm,hct⟩:=hT
 have hcl:cgs.length ≤ 1000000000:=by
  have:cgs.length = o.tl.length:=by rw [← hcm,List.length_map]
  omega
 by_cases hh:heldF o.q.st m.badge node life = true
 ·obtain ⟨sp,hm,w1,w2,hnx⟩:=h.cq.window hh
  obtain ⟨wn,wm,es,ck,J,WGd,hWp,hmg,hes,hput⟩:=hW.take hm
  rcases htk:Sw.takeF c.window.toNat sp m.index m.text with ⟨te,l,sp1⟩
  have hgr:=w1.n
  obtain ⟨k1,k2⟩:=h.cq.chunk hc hh w1 w2 hnx htk
  have hg:=(chunk_yes B0 xb lb tb cb mb db wb sb c hc false o.w o.x len h.lg hlen (by omega) k D hD (by omega) o.q.st SD hS h.cq.ok h.cq.bd tv cgs TG hcg hcl mes mck_ node life m hix hh wn wm sp es ck w1 hes hmg (by omega) te l sp1 htk (fun q=>(k2 q).1)).beside (F:=Ls.TB lb lm c.lease les lck ++ (Se.TabB tb sv G ++ (CtB cb c.block o.q.la o.q.st.res :: (TX ++ (J ++ WGd)))))
  refine (hg.permIn ?_).permOut fun v A' hR=>?_
  ·refine perm_of fun c g ha hc' hp h0=>?_
   have hwg:=hp _ _ hWp
   rw [ha,ha] at hwg
   simp only [CoL,List.cons_append,List.append_assoc,List.nil_append,ha,hc',h0,hwg];omega
  ·obtain ⟨A2,⟨rfl,wn1,wm1,es1,ck1,hes1,hR⟩,rfl⟩:=hR
   have hW1:=hput wn1 wm1 es1 ck1 sp1 hes1
   rcases hR with ⟨hl0,rfl⟩|⟨hl0,la,lk,G2,SD1,D1,tv1,TG1,k3,rfl,hOT,hS1,hD1,hk1,hT1⟩
   ·refine ⟨_,⟨_,_,rfl,.inr ⟨hh,sp,te,l,sp1,hm,hnx,htk,rfl,rfl⟩,CoL xb lb lm tb cb mb db wb sb c o.q.la o.q.st.res tv les lck sv G (mput mes mck_ (jobF o.q.st m.badge) (ptr wn1)) (mck mes mck_ (jobF o.q.st m.badge)) o.w SD D TG (TX ++ J) (Sw.WB wn1 wm1 c.window.toNat sp1.nx es1 ck1 ++ WGd),?_,lb,lm,tb,cb,mb,wb,sb,tv,les,lck,sv,G,_,_,SD,k,D,TG,TX ++ J,_,?_,hL,hO,hW1,?_,?_,by omega,?_⟩,List.Perm.refl _⟩
    ·refine perm_of fun c g ha hc' hp h0=>?_
     simp only [CoL,List.cons_append,List.append_assoc,List.nil_append,ha,hc',h0];omega
    ·rw [if_pos hl0];rfl
    ·rw [if_pos hl0];exact hS
    ·rw [if_pos hl0];exact hD
    ·rw [if_pos hl0]
     show ToldA tv (o.tl ++ []) TG (TX ++ J)
     rw [List.append_nil]
     exact ToldA.more ⟨cgs,hcg,hcm,hct⟩ J
   ·have hne:([logC m.badge l]:List Ch) ≠ []:=by simp
    rw [← mkR_some (s:=o.q.st) hne] at hD1
    obtain ⟨k4,st,k5,k6⟩:=k2 hl0
    have hres:st.res = o.q.st.res:=by
     obtain ⟨i,r,hl,hr,h2,hb,h0,_,_,hj,hlg⟩:=held_row h.cq.ok hh
     have:applyG o.q.st o.q.st 0 [logC m.badge l] = ((0,0),st):=k5
     rw [applyG] at this
     split at this
     ·injection this with this _;injection this with _ this;cases this
     ·cases hs:stepF o.q.st (logC m.badge l) with
      | none=>rw [hs] at this;injection this with this _;injection this with _ this;cases this
      | some s' =>
       rw [hs] at this
       injection this with _ this
       subst this
       unfold stepF at hs
       rw [if_neg (by show ¬ ((4:Int) = 1);decide),if_neg (by show ¬ ((4:Int) = 2);decide),if_neg (by show ¬ ((4:Int) = 3);decide),if_pos (by rfl)] at hs
       split at hs
       ·cases hs
       ·split at hs
        ·cases hs
        ·injection hs with hs;rw [← hs]
    refine ⟨_,⟨_,_,rfl,.inr ⟨hh,sp,te,l,sp1,hm,hnx,htk,rfl,rfl⟩,CoL xb lb lm tb cb mb db wb sb c o.q.la o.q.st.res tv1 les lck sv G (mput mes mck_ (jobF o.q.st m.badge) (ptr wn1)) (mck mes mck_ (jobF o.q.st m.badge)) (mkR c.every o.w o.x o.q.st [logC m.badge l]).1 SD1 D1 TG1 (TX ++ (J ++ G2)) (Sw.WB wn1 wm1 c.window.toNat sp1.nx es1 ck1 ++ WGd),?_,lb,lm,tb,cb,mb,wb,sb,tv1,les,lck,sv,G,_,_,SD1,k3,D1,TG1,TX ++ (J ++ G2),_,?_,hL,hO,hW1,?_,?_,by omega,?_⟩,List.Perm.refl _⟩
    ·rw [mkR_some (s:=o.q.st) hne]
     refine perm_of fun c g ha hc' hp h0=>?_
     simp only [CoL,List.cons_append,List.append_assoc,List.nil_append,ha,hc',h0];omega
    ·rw [if_neg hl0]
     show _ = CoL xb lb lm tb cb mb db wb sb c o.q.la (applyF o.q.st [logC m.badge l]).2.res _ _ _ _ _ _ _ _ _ _ _ _ _
     rw [k5,hres];rfl
    ·rw [if_neg hl0];exact hS1
    ·rw [if_neg hl0];exact hD1
    ·rw [if_neg hl0]
     refine ⟨_,hT1,by rw [List.map_append,hcm];rfl,fun B hB g hg=>?_⟩
     rcases List.mem_append.1 hg with hg|hg
     ·exact hct B (hB.sub fun p hp=>List.mem_append_left _ hp) g hg
     ·rw [List.mem_singleton] at hg
      subst hg
      exact RIn.sin (Own.rin hOT (hB.sub fun p hp=>List.mem_append_right _ (List.mem_append_right _ hp)))
 ·rw [Bool.not_eq_true] at hh
  have hg:=(chunk_no B0 xb lb tb cb mb db wb sb c tv false node life m o.q.st SD hS h.cq.ok hh).beside (F:=Ls.TB lb lm c.lease les lck ++ (Se.TabB tb sv G ++ (CtB cb c.block o.q.la o.q.st.res :: (mb,mpo mes mck_) :: WlB wb db o.w :: (D ++ (TG ++ (TX ++ WG))))))
  refine (hg.permIn ?_).permOut fun v A' hR=>?_
  ·refine perm_of fun c g ha hc' hp h0=>?_
   simp only [CoL,List.cons_append,List.append_assoc,List.nil_append,ha,hc',h0];omega
  ·obtain ⟨A2,⟨rfl,rfl⟩,rfl⟩:=hR
   refine ⟨_,⟨_,_,rfl,.inl ⟨hh,rfl,rfl⟩,hAA.later.p⟩,?_⟩
   refine perm_of fun c g ha hc' hp h0=>?_
   simp only [CoL,List.cons_append,List.append_assoc,List.nil_append,ha,hc',h0];omega
end Go.Proofs.YtkoelgkghijgiaaGreat
namespace Go.Proofs.YtkoelgkghijgiaaGreat
open Go Go.Sep Go.Proofs
set_option maxRecDepth 10000
set_option maxHeartbeats 40000000
theorem spN_es:Sw.EsOk spN [] 0:=by
 have hno:∀ k,(List.replicate 32 false)[k]? ≠ some true:=fun k h=>by
  have:=List.eq_of_mem_replicate (List.mem_of_getElem? h)
  cases this
 refine ⟨⟨List.nodup_nil,List.nodup_nil,fun e he=>by cases he⟩,fun i=>?_⟩
 show mget [] i = Sw.hv (List.replicate 32 false) _ i
 unfold Sw.hv
 rw [if_neg (fun q=>hno _ q.2)]
 rfl
def offerM (m:Ms) (job bg:Int) (p:ByteArray):Ms:=⟨9,m.session,m.number,job,bg,0,0,0,0,⟨#[]⟩,p⟩
@[reducible] def grantCs (c:Cf) (o:Co) (node life:Int):List Cg:=pollL (resOf c o.q) (headF18 o.q.st.rows) (o.q.la + 1) (node - 2) life
def MidR (c:Cf) (o:Co) (node life:Int) (m m1:Ms) (o1:Co):Prop :=
 (m.kind = 2 ∧ headF18 o.q.st.rows = 0 ∧ m1 = reqM 10 m.session m.number ∧ o1 = o) ∨
 (m.kind = 2 ∧ headF18 o.q.st.rows ≠ 0 ∧ ∃ r p,placeF (applyF o.q.st ((grantCs c o node life).map Cg.c)).2 (o.q.la + 1) = some (r,p,[]) ∧ m1 = offerM m (headF18 o.q.st.rows) (o.q.la + 1) p ∧
  o1 = o.mk_ c ((grantCs c o node life).map Cg.c) (Ls.grantF c.lease o.q.ls (headF18 o.q.st.rows) (o.q.la + 1) node life).2 (o.q.la + 1) ((headF18 o.q.st.rows,spN) :: wsDel o.q.ws (headF18 o.q.st.rows)) o.rs) ∨
 (m.kind = 3 ∧ heldF o.q.st m.badge node life = false ∧ m1 = reqM 12 m.session m.number ∧ o1 = o) ∨
 (m.kind = 3 ∧ heldF o.q.st m.badge node life = true ∧ m1 = reqM 11 m.session m.number ∧ o1 = { o with q:={ o.q with ls:=(Ls.renewF c.lease o.q.ls m.badge).2 } }) ∨
 (m.kind ≠ 2 ∧ m.kind ≠ 3 ∧ settledQ o.q.st m.badge m.count node life ≠ 2 ∧ m1 = reqM (if settledQ o.q.st m.badge m.count node life = 0 then 13 else 12) m.session m.number ∧ o1 = o) ∨
 (m.kind ≠ 2 ∧ m.kind ≠ 3 ∧ settledQ o.q.st m.badge m.count node life = 2 ∧ m1 = reqM 13 m.session m.number ∧
  o1 = o.mk_ c [settleC m.badge m.rcode m.rbits] (Ls.dropF o.q.ls m.badge).2 o.q.la (wsDel o.q.ws (jobF o.q.st m.badge)) o.rs)
def RequestR (c:Cf) (o:Co) (node life:Int) (m:Ms) (reply:ByteArray) (o1:Co):Prop :=
 ((Se.askV (Se.rowAt o.rs (node - 2)) life m.session m.number).1 ≠ 3 ∧ o1 = o ∧
  reply = if (Se.askV (Se.rowAt o.rs (node - 2)) life m.session m.number).1 = 1 then (encF (reqM 8 m.session m.number)).1 else if (Se.askV (Se.rowAt o.rs (node - 2)) life m.session m.number).1 = 2 then (Se.askV (Se.rowAt o.rs (node - 2)) life m.session m.number).2 else ⟨#[]⟩) ∨
 ((Se.askV (Se.rowAt o.rs (node - 2)) life m.session m.number).1 = 3 ∧ ∃ m1 o2,MidR c o node life m m1 o2 ∧ reply = (encF m1).1 ∧ o1 = { o2 with rs:=Se.putRow o.rs (node - 2) (Se.answerV (Se.rowAt o.rs (node - 2)) (encF m1).1) })
theorem CqOk.renew {c:Cf} {q:Cq} (h:CqOk c q) (b:Int):CqOk c { q with ls:=(Ls.renewF c.lease q.ls b).2 }:=by
 refine ⟨h.ok,h.bd,Ls.renewF_ok h.lk b,fun x hx=>?_,h.win,h.hw,h.bl,h.l0,h.ds⟩
 unfold Ls.renewF at hx
 split at hx
 ·exact h.lr x hx
 ·obtain ⟨y,hy,rfl⟩:=List.mem_map.1 hx
  split
  ·exact h.lr y hy
  ·exact h.lr y hy
def ResOk (m:Ms):Prop:=0 ≤ m.rcode ∧ m.rcode ≤ 7 ∧ (m.rcode = 0 ∨ m.rbits = 0) ∧ 0 ≤ m.rbits ∧ m.rbits < 18446744073709551616
theorem settled_held {s:StP} {b cnt node life:Int} (h:settledQ s b cnt node life = 2):heldF s b node life = true:=by
 unfold settledQ at h
 split at h
 ·cases h
 ·split at h
  ·rename_i h1;exact h1.1
  ·cases h
theorem pollL_len (rs job bg slot life:Int):(pollL rs job bg slot life).length ≤ 2:=by
 unfold pollL
 rw [List.length_append]
 have:=resL_len rs
 show (resL rs).length + 1 ≤ 2
 omega
theorem CoOk.mid {c:Cf} {len n:Nat} {o:Co} (h:CoOk c len n o) (hc:CfOk c) (hlen:20480 ≤ roomF len) (hn:n ≤ 2000000) {node life:Int} (hn1:2 ≤ node) (hn2:node ≤ 9) (hlf:1 ≤ life ∧ life ≤ 1099511627776) {m m1:Ms} (hm:m.kind ≠ 2 → m.kind ≠ 3 → ResOk m) {o1:Co} (hr:MidR c o node life m m1 o1) :
  CoOk c len (n + 1) o1 ∧ (∃ cs,o1.tl = o.tl ++ cs ∧ applyF o.q.st cs = ((0,0),o1.q.st)) ∧ o1.rs = o.rs ∧ MsOk m1:=by
 have hl:=h.ln
 have hreq:∀ k,MsOk (reqM k m.session m.number):=fun k=>reqM_ok _ _ _
 rcases hr with ⟨_,_,rfl,rfl⟩|⟨_,hh,r,p,hp,rfl,rfl⟩|⟨_,_,rfl,rfl⟩|⟨_,_,rfl,rfl⟩|⟨_,_,_,rfl,rfl⟩|⟨k2,k3,hq,rfl,rfl⟩
 ·exact ⟨h.later,⟨[],by rw [List.append_nil],rfl⟩,rfl,hreq _⟩
 ·obtain ⟨st,r1,p1,g1,g2,g3,g4,g5,g6,g7,g8,g9⟩:=h.cq.grant hc (next_there h hn) rfl hh (slot:=node - 2) (life:=life) (by omega) hlf
  have e2:(2:Int) + (node - 2) = node:=by omega
  rw [e2] at g9
  have hok:=h.mk_ (rs:=o.rs) hc hlen hn g1 g9 (fun _=>g3) (by rw [List.length_map];have:=pollL_len (resOf c o.q) (headF18 o.q.st.rows) (o.q.la + 1) (node - 2) life;omega) (bare_tx (pollL_bare _ _ _ _ _)) h.rsI (by omega)
  refine ⟨hok,⟨_,rfl,by show applyF _ _ = ((0,0),(applyF _ _).2);rw [g1]⟩,rfl,⟨Nat.zero_le _,?_,by show (0:Int) ≤ 0 ∧ (0:Int) < _;omega⟩⟩
  show p.size ≤ 100000
  rw [g1] at hp
  unfold placeF at hp
  cases hla:lastAt st.rows (o.q.la + 1) with
  | none=>rw [hla] at hp;cases hp
  | some i =>
   rw [hla,Option.bind_some] at hp
   have hmem:=List.mem_of_getElem? hp
   unfold viewL at hmem
   have h2:=(List.of_mem_zip hmem).2
   have h3:=(List.of_mem_zip h2).1
   have:=g9.bd.pz p h3
   omega
 ·exact ⟨h.later,⟨[],by rw [List.append_nil],rfl⟩,rfl,hreq _⟩
 ·have h1:=h.later
  exact ⟨⟨h.cq.renew m.badge,h1.lg,h1.nm,h1.ln,h1.rsI,h1.tn,h1.tx⟩,⟨[],by rw [List.append_nil],rfl⟩,rfl,hreq _⟩
 ·exact ⟨h.later,⟨[],by rw [List.append_nil],rfl⟩,rfl,hreq _⟩
 ·obtain ⟨a1,a2,a3,a4,a5⟩:=hm k2 k3
  obtain ⟨g1,st,g2,g3⟩:=h.cq.settle (settled_held hq) ⟨a1,a2⟩ a3 ⟨a4,a5⟩
  exact ⟨h.mk_ hc hlen hn g2 g3 (fun _=>g1) (by simp) (fun ch hch=>by rw [List.mem_singleton] at hch;subst hch;exact ⟨Nat.zero_le _,a4,a5⟩) h.rsI (by omega),⟨_,rfl,by show applyF _ _ = ((0,0),(applyF _ _).2);rw [g2]⟩,rfl,hreq _⟩
theorem CoOk.request {c:Cf} {len n:Nat} {o:Co} (h:CoOk c len n o) (hc:CfOk c) (hlen:20480 ≤ roomF len) (hn:n ≤ 2000000) {node life:Int} (hn1:2 ≤ node) (hn2:node ≤ 9) (hlf:1 ≤ life ∧ life ≤ 1099511627776) {m:Ms} (hm:m.kind ≠ 2 → m.kind ≠ 3 → ResOk m) {reply:ByteArray} {o1:Co} (hr:RequestR c o node life m reply o1) :
  CoOk c len (n + 1) o1 ∧ ∃ cs,o1.tl = o.tl ++ cs ∧ applyF o.q.st cs = ((0,0),o1.q.st):=by
 rcases hr with ⟨_,rfl,_⟩|⟨_,m1,o2,hmid,_,rfl⟩
 ·exact ⟨h.later,[],by rw [List.append_nil],rfl⟩
 ·obtain ⟨g1,g2,g3,_⟩:=h.mid hc hlen hn hn1 hn2 hlf hm hmid
  exact ⟨⟨g1.cq,g1.lg,g1.nm,g1.ln,Se.answerV_rows h.rsI,g1.tn,g1.tx⟩,g2⟩
end Go.Proofs.YtkoelgkghijgiaaGreat
namespace Go.Proofs.YtkoelgkghijgiaaGreat
open Go Go.Sep Go.Proofs Go.Proofs.Tryz
set_option maxRecDepth 10000
set_option maxHeartbeats 40000000
def MidA (xb db:Nat) (c:Cf) (n:Nat) (o:Co) (node life:Int) (m:Ms) (lb tb cb mb wb sb:Nat) (sv:Value) (m1:Ms) (tv1:Value) (X:List Blk):Prop :=
 ∃ o1,MidR c o node life m m1 o1 ∧ ∀ rs1 G1,Se.OwnK sv rs1 G1 → CoP xb db c (n + 1) { o1 with rs:=rs1 } (CoB xb lb tb cb mb db wb sb c tv1 false :: (Se.TabB tb sv G1 ++ X))
theorem co_request (B0:Base) (xb db:Nat) (c:Cf) (hc:CfOk c) (len n:Nat) (hlen:20480 ≤ roomF len) (hn:n ≤ 2000000) (o:Co) (h:CoOk c len n o) (A:List Blk) (hA:CoP xb db c n o A) (node life:Int) (hn1:2 ≤ node) (hn2:node ≤ 9) (hlf:1 ≤ life ∧ life ≤ 1099511627776) (m:Ms) (hm:m.kind ≠ 2 → m.kind ≠ 3 → ResOk m) :
  ConB prog B0 86 #[.agg (heV xb node life m).toArray] A fun v A'=>∃ reply o1,v = .string reply ∧ RequestR c o node life m reply o1 ∧ CoP xb db c (n + 1) o1 A':=by
 obtain ⟨A1,hp1,hA⟩:=hA
 refine ConB.permIn ?_ hp1
 have hAA:=hA
 obtain ⟨lb,lm,tb,cb,mb,wb,sb,tv,les,lck,sv,G,mes,mck_,SD,k,D,TG,TX,WG,rfl,hL,hO,hW,hS,hD,hk,hT⟩:=hA
 have hnm:=h.nm
 have htn:=h.tn
 have hTT:=hT
 obtain ⟨cgs,hcg,hcm,hct⟩:=hT
 have hcl:cgs.length ≤ 1000000000:=by
  have:cgs.length = o.tl.length:=by rw [← hcm,List.length_map]
  omega
 have hre:=h.cq.bd.rs
 have hl0:=h.cq.l0
 by_cases hw:(Se.askV (Se.rowAt o.rs (node - 2)) life m.session m.number).1 = 3
 ·
  have hsame:∀ (m1:Ms),MidR c o node life m m1 o → MidA xb db c n o node life m lb tb cb mb wb sb sv m1 tv (Ls.TB lb lm c.lease les lck ++ (SD ++ ((mb,mpo mes mck_) :: CtB cb c.block o.q.la o.q.st.res :: WlB wb db o.w :: (D ++ (TG ++ (TX ++ WG)))))):=fun m1 hmid =>
   ⟨o,hmid,fun rs1 G1 hO1=>⟨CoL xb lb lm tb cb mb db wb sb c o.q.la o.q.st.res tv les lck sv G1 mes mck_ o.w SD D TG TX WG,by
    refine perm_of fun c g ha hc' hp h0=>?_
    simp only [CoL,List.cons_append,List.append_assoc,List.nil_append,ha,hc',h0];omega,lb,lm,tb,cb,mb,wb,sb,tv,les,lck,sv,G1,mes,mck_,SD,k,D,TG,TX,WG,rfl,hL,hO1,hW,hS,hD,by omega,hTT⟩⟩
  have hg:=request_new B0 xb lb lm tb cb mb db wb sb c tv false node life hn1 hn2 m sv o.rs G hO h.rsI (Se.askV (Se.rowAt o.rs (node - 2)) life m.session m.number).2 (Prod.ext hw rfl) o.q.ls les lck hL o.q.st SD hS h.cq.ok ((mb,mpo mes mck_) :: CtB cb c.block o.q.la o.q.st.res :: WlB wb db o.w :: (D ++ (TG ++ (TX ++ WG))))
   (MidA xb db c n o node life m lb tb cb mb wb sb sv) (fun m1 tv1 X hX=>by obtain ⟨o1,hmid,_⟩:=hX;exact (h.mid hc hlen hn hn1 hn2 hlf hm hmid).2.2.2) ?poll (fun h3 hh=>hsame _ (.inr (.inr (.inl ⟨h3,hh,rfl,rfl⟩)))) ?beat ?done
  case poll =>
   intro h2 mx
   by_cases hh:headF18 o.q.st.rows = 0
   ·have hp:=(poll_none B0 xb lb tb cb mb db wb sb c tv false node life m mx (reqM 0 m.session m.number) o.q.st SD hS h.cq.ok hh).beside (F:=Ls.TB lb lm c.lease les lck ++ ((mb,mpo mes mck_) :: CtB cb c.block o.q.la o.q.st.res :: WlB wb db o.w :: (D ++ (TG ++ (TX ++ WG)))))
    refine (hp.permIn ?_).permOut fun v A' hR=>?_
    ·refine perm_of fun c g ha hc' hp h0=>?_
     simp only [List.cons_append,List.append_assoc,List.nil_append,ha,hc',h0];omega
    ·obtain ⟨A2,rfl,rfl⟩:=hR
     refine ⟨_,⟨reqM 10 m.session m.number,tv,_,rfl,hsame _ (.inl ⟨h2,hh,rfl,rfl⟩)⟩,?_⟩
     refine perm_of fun c g ha hc' hp h0=>?_
     have e10:g (MgB mx (⟨10,m.session,m.number,0,0,0,0,0,0,⟨#[]⟩,⟨#[]⟩⟩:Ms).row) = g (MgB mx (reqM 10 m.session m.number).row):=rfl
     simp only [List.cons_append,List.append_assoc,List.nil_append,ha,hc',h0];omega
   ·obtain ⟨st,r1,p1,g1,g2,g3,g4,g5,g6,g7,g8,g9⟩:=h.cq.grant hc (next_there h hn) rfl hh (slot:=node - 2) (life:=life) (by omega) hlf
    have e2:(2:Int) + (node - 2) = node:=by omega
    rw [e2] at g7
    obtain ⟨J,WGd,hWp,hput⟩:=hW.new (headF18 o.q.st.rows)
    have hp:=(poll_offer B0 xb lb lm tb cb mb db wb sb c hc false o.w o.x len h.lg hlen (by omega) k D hD (by omega) o.q.st SD hS h.cq.ok h.cq.bd tv cgs TG hcg hcl o.q.ls les lck hL mes mck_ o.q.la o.q.st.res (o.q.la + 1) (resOf c o.q) (o.q.la + 1) _ hre.1 hre.2 hl0.1 (next_there h hn) node life hn1 hn2 m mx (reqM 0 m.session m.number) hh g3).beside (F:=TX ++ (J ++ WGd))
    refine (hp.permIn ?_).permOut fun v A' hR=>?_
    ·refine perm_of fun c g ha hc' hp h0=>?_
     have hwg:=hp _ _ hWp
     rw [ha] at hwg
     simp only [List.cons_append,List.append_assoc,List.nil_append,ha,hc',h0,hwg];omega
    ·obtain ⟨A2,⟨p,les1,lck1,wn,wm,SD1,D1,tv1,TG1,k1,rfl,hP,hL1,hS1,hD1,hk1,hT1⟩,rfl⟩:=hR
     have hpp:=hP.1
     rw [g1] at hpp
     dsimp only at hpp
     rw [g4,Option.getD_some,Pl.pure] at hpp
     injection hpp with q1 q2
     injection q2 with q2 _
     rw [q1,g5,g6,g7,g8] at hL1
     rw [q1,g5,q2]
     have hne:(pollL (resOf c o.q) (headF18 o.q.st.rows) (o.q.la + 1) (node - 2) life).map Cg.c ≠ []:=fun q=>by
      have:=List.map_eq_nil_iff.1 q
      unfold pollL at this
      simp at this
     rw [← mkR_some (s:=o.q.st) hne] at hD1 ⊢
     have hpl:placeF (applyF o.q.st ((grantCs c o node life).map Cg.c)).2 (o.q.la + 1) = some (r1,p1,[]):=by rw [g1];exact g4
     refine ⟨_,⟨offerM m (headF18 o.q.st.rows) (o.q.la + 1) p1,tv1,Ls.TB lb lm c.lease les1 lck1 ++ (Sw.WB wn wm c.window.toNat 0 [] 0 ++ ((mb,mpo (mput mes mck_ (headF18 o.q.st.rows) (ptr wn)) (mck mes mck_ (headF18 o.q.st.rows))) :: CtB cb c.block (o.q.la + 1) (nextB c.block o.q.la o.q.st.res).2.2 :: WlB wb db (mkR c.every o.w o.x o.q.st ((pollL (resOf c o.q) (headF18 o.q.st.rows) (o.q.la + 1) (node - 2) life).map Cg.c)).1 :: (SD1 ++ (D1 ++ (TG1 ++ (TX ++ (J ++ WGd))))))),rfl,_,.inr (.inl ⟨h2,hh,r1,p1,hpl,rfl,rfl⟩),fun rs1 G1 hO1=>⟨CoL xb lb lm tb cb mb db wb sb c (o.q.la + 1) (nextB c.block o.q.la o.q.st.res).2.2 tv1 les1 lck1 sv G1 (mput mes mck_ (headF18 o.q.st.rows) (ptr wn)) (mck mes mck_ (headF18 o.q.st.rows)) (mkR c.every o.w o.x o.q.st ((pollL (resOf c o.q) (headF18 o.q.st.rows) (o.q.la + 1) (node - 2) life).map Cg.c)).1 SD1 D1 TG1 (TX ++ J) (Sw.WB wn wm c.window.toNat spN.nx [] 0 ++ WGd),?_,lb,lm,tb,cb,mb,wb,sb,tv1,les1,lck1,sv,G1,_,_,SD1,k1,D1,TG1,TX ++ J,_,?_,hL1,hO1,hput wn wm [] 0 spN spN_es,hS1,hD1,by omega,?_⟩⟩,?_⟩
     ·refine perm_of fun c g ha hc' hp h0=>?_
      simp only [CoL,List.cons_append,List.append_assoc,List.nil_append,ha,hc',h0];omega
     ·show _ = CoL xb lb lm tb cb mb db wb sb c (o.q.la + 1) (applyF o.q.st ((pollL (resOf c o.q) (headF18 o.q.st.rows) (o.q.la + 1) (node - 2) life).map Cg.c)).2.res _ _ _ _ _ _ _ _ _ _ _ _ _
      rw [g1,g2];rfl
     ·show ToldA tv1 (o.tl ++ _) TG1 (TX ++ J)
      rw [← hcm]
      exact (ToldA.bare hT1 hct (pollL_bare _ _ _ _ _)).more J
     ·refine perm_of fun c g ha hc' hp h0=>?_
      have e9:g (MgB mx (⟨9,m.session,m.number,headF18 o.q.st.rows,o.q.la + 1,0,0,0,0,⟨#[]⟩,p1⟩:Ms).row) = g (MgB mx (offerM m (headF18 o.q.st.rows) (o.q.la + 1) p1).row):=rfl
      simp only [List.cons_append,List.append_assoc,List.nil_append,ha,hc',h0];omega
  case beat =>
   intro h3 hh les1 lck1 hL1
   refine ⟨_,.inr (.inr (.inr (.inl ⟨h3,hh,rfl,rfl⟩))),fun rs1 G1 hO1=>⟨CoL xb lb lm tb cb mb db wb sb c o.q.la o.q.st.res tv les1 lck1 sv G1 mes mck_ o.w SD D TG TX WG,?_,lb,lm,tb,cb,mb,wb,sb,tv,les1,lck1,sv,G1,mes,mck_,SD,k,D,TG,TX,WG,rfl,hL1,hO1,hW,hS,hD,by omega,hTT⟩⟩
   refine perm_of fun c g ha hc' hp h0=>?_
   simp only [CoL,List.cons_append,List.append_assoc,List.nil_append,ha,hc',h0];omega
  case done =>
   intro h2 h3
   obtain ⟨a1,a2,a3,a4,a5⟩:=hm h2 h3
   have hp:=(settled_spec B0 xb lb lm tb cb mb db wb sb c hc false o.w o.x len h.lg hlen (by omega) k D hD (by omega) o.q.st SD hS h.cq.ok h.cq.bd tv cgs TG hcg hcl o.q.ls les lck hL mes mck_ node life m ⟨a4,a5⟩ (fun q=>(h.cq.settle (settled_held q) ⟨a1,a2⟩ a3 ⟨a4,a5⟩).1)).beside (F:=CtB cb c.block o.q.la o.q.st.res :: (TX ++ WG))
   refine (hp.permIn ?_).permOut fun v A' hR=>?_
   ·refine perm_of fun c g ha hc' hp h0=>?_
    simp only [List.cons_append,List.append_assoc,List.nil_append,ha,hc',h0];omega
   ·obtain ⟨A2,hR,rfl⟩:=hR
    rcases hR with ⟨hq,rfl,rfl⟩|⟨hq,rfl,p,hP,les1,lck1,SD1,D1,tv1,TG1,k1,rfl,hL1,hS1,hD1,hk1,hT1⟩
    ·refine ⟨_,⟨_,tv,_,rfl,rfl,hsame _ (.inr (.inr (.inr (.inr (.inl ⟨h2,h3,hq,by simp only [decide_eq_true_eq],rfl⟩)))))⟩,?_⟩
     refine perm_of fun c g ha hc' hp h0=>?_
     simp only [List.cons_append,List.append_assoc,List.nil_append,ha,hc',h0];omega
    ·obtain ⟨hpj,_⟩:=hP.held (settled_held hq)
     rw [hpj]
     obtain ⟨WG1,J,hWp,hW1⟩:=hW.del (jobF o.q.st m.badge)
     obtain ⟨g1,st,g2,g3⟩:=h.cq.settle (settled_held hq) ⟨a1,a2⟩ a3 ⟨a4,a5⟩
     have hne:([settleC m.badge m.rcode m.rbits]:List Ch) ≠ []:=by simp
     rw [← mkR_some (s:=o.q.st) hne] at hD1 ⊢
     have hres:st.res = o.q.st.res:=by
      have:applyG o.q.st o.q.st 0 [settleC m.badge m.rcode m.rbits] = ((0,0),st):=g2
      rw [applyG] at this
      split at this
      ·injection this with this _;injection this with _ this;cases this
      ·cases hs:stepF o.q.st (settleC m.badge m.rcode m.rbits) with
       | none=>rw [hs] at this;injection this with this _;injection this with _ this;cases this
       | some s' =>
        rw [hs] at this
        injection this with _ this
        subst this
        unfold stepF at hs
        rw [if_neg (by show ¬ ((6:Int) = 1);decide),if_neg (by show ¬ ((6:Int) = 2);decide),if_neg (by show ¬ ((6:Int) = 3);decide),if_neg (by show ¬ ((6:Int) = 4);decide),if_neg (by show ¬ ((6:Int) = 5);decide)] at hs
        split at hs
        ·cases hs
        ·split at hs
         ·cases hs
         ·injection hs with hs;rw [← hs]
     refine ⟨_,⟨true,tv1,Ls.TB lb lm c.lease les1 lck1 ++ ((mb,mpo (mdel mes (jobF o.q.st m.badge)) mck_) :: CtB cb c.block o.q.la o.q.st.res :: WlB wb db (mkR c.every o.w o.x o.q.st [settleC m.badge m.rcode m.rbits]).1 :: (SD1 ++ (D1 ++ (TG1 ++ (TX ++ WG))))),rfl,rfl,_,.inr (.inr (.inr (.inr (.inr ⟨h2,h3,hq,rfl,rfl⟩)))),fun rs1 G1 hO1=>⟨CoL xb lb lm tb cb mb db wb sb c o.q.la o.q.st.res tv1 les1 lck1 sv G1 (mdel mes (jobF o.q.st m.badge)) mck_ (mkR c.every o.w o.x o.q.st [settleC m.badge m.rcode m.rbits]).1 SD1 D1 TG1 (TX ++ J) WG1,?_,lb,lm,tb,cb,mb,wb,sb,tv1,les1,lck1,sv,G1,_,mck_,SD1,k1,D1,TG1,TX ++ J,WG1,?_,hL1,hO1,hW1,hS1,hD1,by omega,?_⟩⟩,?_⟩
     ·refine perm_of fun c g ha hc' hp h0=>?_
      have hwg:=hp _ _ hWp
      rw [ha] at hwg
      simp only [CoL,List.cons_append,List.append_assoc,List.nil_append,ha,hc',h0,hwg];omega
     ·show _ = CoL xb lb lm tb cb mb db wb sb c o.q.la (applyF o.q.st [settleC m.badge m.rcode m.rbits]).2.res _ _ _ _ _ _ _ _ _ _ _ _ _
      rw [g2,hres];rfl
     ·show ToldA tv1 (o.tl ++ _) TG1 (TX ++ J)
      rw [← hcm]
      exact (ToldA.bare (l:=[⟨settleC m.badge m.rcode m.rbits,none,0⟩]) hT1 hct (fun g hg=>by rw [List.mem_singleton] at hg;subst hg;exact ⟨rfl,rfl,a4,a5⟩)).more J
     ·refine perm_of fun c g ha hc' hp h0=>?_
      simp only [List.cons_append,List.append_assoc,List.nil_append,ha,hc',h0];omega
  refine (hg.permIn ?_).permOut fun v A' hR=>?_
  ·refine perm_of fun c g ha hc' hp h0=>?_
   simp only [CoL,List.cons_append,List.append_assoc,List.nil_append,ha,hc',h0];omega
  ·obtain ⟨m1,tv1,X,G1,rfl,rfl,hO1,o1,hmid,hX⟩:=hR
   exact ⟨_,⟨_,_,rfl,.inr ⟨hw,m1,o1,hmid,rfl,rfl⟩,hX _ _ hO1⟩,List.Perm.refl _⟩
 ·have hg:=(Con.toB (B0:=B0) (request_old xb lb tb cb mb db wb sb c tv false node life hn1 hn2 m sv o.rs G hO h.rsI (Se.askV (Se.rowAt o.rs (node - 2)) life m.session m.number).1 (Se.askV (Se.rowAt o.rs (node - 2)) life m.session m.number).2 rfl hw)).beside (F:=Ls.TB lb lm c.lease les lck ++ (CtB cb c.block o.q.la o.q.st.res :: (mb,mpo mes mck_) :: WlB wb db o.w :: (SD ++ (D ++ (TG ++ (TX ++ WG))))))
  refine (hg.permIn ?_).permOut fun v A' hR=>?_
  ·refine perm_of fun c g ha hc' hp h0=>?_
   simp only [CoL,List.cons_append,List.append_assoc,List.nil_append,ha,hc',h0];omega
  ·obtain ⟨A2,⟨rfl,rfl⟩,rfl⟩:=hR
   refine ⟨_,⟨_,_,rfl,.inl ⟨hw,rfl,rfl⟩,hAA.later.p⟩,?_⟩
   refine perm_of fun c g ha hc' hp h0=>?_
   simp only [CoL,List.cons_append,List.append_assoc,List.nil_append,ha,hc',h0];omega
end Go.Proofs.YtkoelgkghijgiaaGreat
