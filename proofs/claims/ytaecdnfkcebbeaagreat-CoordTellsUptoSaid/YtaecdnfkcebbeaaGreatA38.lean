import Derived.Test.YtaecdnfkcebbeaaGreatA01
import Derived.Test.YtaecdnfkcebbeaaGreatA37
set_option linter.unusedVariables false
set_option linter.unusedSimpArgs false
namespace Go.Proofs.YtaecdnfkcebbeaaGreat
open Go Go.Sep Go.Proofs
set_option maxRecDepth 10000
set_option maxHeartbeats 40000000
set_option synthInstance.maxSize 2000
theorem hear_no (B0:Base) (xb lb tb cb mb db wb sb:Nat) (c:Cf) (hc:CfOk c) (tv:Value) (x:Dk) (k:Nat) (D:List Blk) (hD:DkA db x k D) (hde:x.de = false) (node life:Int) (data:ByteArray) (hsz:data.size < 9223372036854775808) (m:Ms) (e:Int) (hdec:decF data = (m,e))
  (hno:e ≠ 0 ∨ runB c node life = false ∨ ¬ (1 ≤ m.kind ∧ m.kind ≤ 5)) :
  ConB Tryz.prog B0 18 #[ptr xb,.agg [.int .i64 node,.int .i64 life].toArray,.string data] (CoB xb lb tb cb mb db wb sb c tv false :: D) fun v A=>v = .tuple #[.slice none 0 0,.int .i64 0] ∧ A = CoB xb lb tb cb mb db wb sb c tv false :: D:=by
 refine ConB.intro (vs:=[_,_,_]) Tryz.func18 rfl Tryz.ntmps18 rfl (fun B hB=>?_)
 repeat' (first|refine Ops.mkF rfl rfl rfl rfl rfl ?_|refine Cd.seq ?_|refine Cd.reg ?_|refine Ops.asg rfl rfl rfl rfl ?_|refine Ops.ld1 rfl rfl rfl rfl rfl ?_|refine Ops.box rfl rfl rfl rfl (noPd rfl) (fun b=>?_)|refine Ops.alloc rfl rfl rfl (noPd rfl) (fun b=>?_))
 rename_i xx fx dx
 rename Nat=>sx
 have hd:ConB Tryz.prog B0 38 [ptr dx,ptr xx,ptr fx,ptr sx].toArray (CoB xb lb tb cb mb db wb sb c tv false :: (D ++ HrB dx xx fx sx xb data node life (.slice none 0 0))) fun v A=>A = CoB xb lb tb cb mb db wb sb c tv false :: (D ++ HrB dx xx fx sx xb data node life (.slice none 0 0)):=by
  have h:=(hear1_no B0 xb lb tb cb mb db wb sb c hc tv false node life data hsz m e hdec hno dx xx fx sx).beside (F:=D)
  have hp:((CoB xb lb tb cb mb db wb sb c tv false :: (D ++ HrB dx xx fx sx xb data node life (.slice none 0 0))):List Blk).Perm ((CoB xb lb tb cb mb db wb sb c tv false :: HrB dx xx fx sx xb data node life (.slice none 0 0)) ++ D):=List.Perm.cons _ List.perm_append_comm
  refine (h.permIn hp).permOut fun v A' hR=>?_
  obtain ⟨A2,rfl,rfl⟩:=hR
  exact ⟨_,rfl,hp.symm⟩
 refine Ops.callB (caught_calm B0 xb lb tb cb mb db wb sb c tv x k D hD hde _ 38 [ptr dx,ptr xx,ptr fx,ptr sx] _ hd) hB rfl (noPd rfl) rfl rfl rfl (fun v A' hR=>?_)
 obtain ⟨rfl,v0,rfl⟩:=hR
 refine zg13 ?_
 exact Cd.ret (ret2 (A':=CoB xb lb tb cb mb db wb sb c tv false :: D) rfl (Res.tmp rfl) (Res.tmp rfl) (fun _ h=>h.split) ⟨rfl,rfl⟩)
theorem hear_act (B0:Base) (xb lb tb cb mb db wb sb:Nat) (c:Cf) (hc:CfOk c) (tv:Value) (x:Dk) (k:Nat) (D:List Blk) (hD:DkA db x k D) (hde:x.de = false) (F:List Blk) (node life:Int) (hr:runB c node life = true) (data:ByteArray) (hsz:data.size < 9223372036854775808) (m:Ms) (hdec:decF data = (m,0))
  (f:FuncId) [FnOk Tryz.prog f] (hdoes:Con Tryz.prog 41 #[.agg (heV xb node life m).toArray] [] fun v A=>v = .func (.func f) [.agg (heV xb node life m).toArray].toArray #[] ∧ A = []) (R:ByteArray → List Blk → Prop)
  (hh:ConB Tryz.prog B0 f #[.agg (heV xb node life m).toArray] (CoB xb lb tb cb mb db wb sb c tv false :: (D ++ F)) fun v A=>∃ reply,v = .string reply ∧ R reply A) :
  ConB Tryz.prog B0 18 #[ptr xb,.agg [.int .i64 node,.int .i64 life].toArray,.string data] (CoB xb lb tb cb mb db wb sb c tv false :: (D ++ F))
   fun v A=>∃ reply A1 said J,v = .tuple #[said,.int .i64 0] ∧ R reply A1 ∧ SaidR node life reply said J ∧ A = A1 ++ J:=by
 refine ConB.intro (vs:=[_,_,_]) Tryz.func18 rfl Tryz.ntmps18 rfl (fun B hB=>?_)
 repeat' (first|refine Ops.mkF rfl rfl rfl rfl rfl ?_|refine Cd.seq ?_|refine Cd.reg ?_|refine Ops.asg rfl rfl rfl rfl ?_|refine Ops.ld1 rfl rfl rfl rfl rfl ?_|refine Ops.box rfl rfl rfl rfl (noPd rfl) (fun b=>?_)|refine Ops.alloc rfl rfl rfl (noPd rfl) (fun b=>?_))
 rename_i xx fx dx
 rename Nat=>sx
 have hd:=hear1_act B0 xb lb tb cb mb db wb sb c hc tv false (D ++ F) node life hr data hsz m hdec f hdoes R hh dx xx fx sx
 rw [List.append_assoc] at hd
 refine Ops.callB (caught_calm B0 xb lb tb cb mb db wb sb c tv x k D hD hde _ 38 [ptr dx,ptr xx,ptr fx,ptr sx] _ hd) hB rfl (noPd rfl) rfl rfl rfl (fun v A' hR=>?_)
 obtain ⟨rfl,v0,reply,A1,said,J,hR,hs,rfl⟩:=hR
 rcases hs with ⟨e1,rfl,rfl⟩|⟨e1,g,rfl,rfl⟩
 ·refine zg13 ?_
  exact Cd.ret (ret2 (A':=A1 ++ []) rfl (Res.tmp rfl) (Res.tmp rfl) (fun _ h=>h.split) ⟨reply,A1,_,[],rfl,hR,.inl ⟨e1,rfl,rfl⟩,rfl⟩)
 ·refine zg13 ?_
  exact Cd.ret (ret2 (A':=A1 ++ [(g,cl (dgV 0 0 0 node life reply) 66)]) rfl (Res.tmp rfl) (Res.tmp rfl) (fun _ h=>h.split) ⟨reply,A1,_,_,rfl,hR,.inr ⟨e1,g,rfl,rfl⟩,rfl⟩)
end Go.Proofs.YtaecdnfkcebbeaaGreat
namespace Go.Proofs.YtaecdnfkcebbeaaGreat
open Go Go.Sep Go.Proofs
set_option maxRecDepth 10000
theorem Sw.drain_win (tx:List ByteArray) (W:Nat):∀ (f nx:Nat) (hb:List Bool),nx ≤ W → (∀ k,hb[k]? = some true → k < W) → (Sw.drain tx f nx hb).2.1 ≤ W ∧ ∀ t ∈ (Sw.drain tx f nx hb).1,t ∈ tx ∨ t = .empty
 | 0,nx,hb,h,hw=>⟨h,fun t ht=>(by cases ht)⟩
 | f + 1,nx,hb,h,hw=>by
  unfold Sw.drain
  split
  ·rename_i hh
   have ih:=Sw.drain_win tx W f (nx + 1) (hb.set nx false) (hw nx hh) (fun k hk=>by
    by_cases e:nx = k
    ·subst e;exact hw nx hh
    ·rw [List.getElem?_set_ne e] at hk;exact hw k hk)
   refine ⟨ih.1,fun t ht=>?_⟩
   rcases List.mem_cons.1 ht with rfl|ht
   ·cases hx:tx[nx]? with
    | none=>exact .inr rfl
    | some u=>exact .inl (List.mem_of_getElem? hx)
   ·exact ih.2 t ht
  ·exact ⟨h,fun t ht=>(by cases ht)⟩
theorem Sw.takeF_win {win:Nat} {s:Sw.Sp} (h:Sw.SpOk win s) (hx:∀ u ∈ s.tx,u.size ≤ 32) (i:Int) (t:ByteArray) :
  (Sw.takeF win s i t).2.1.length ≤ win ∧ (∀ u ∈ (Sw.takeF win s i t).2.1,u.size ≤ 32) ∧ ∀ u ∈ (Sw.takeF win s i t).2.2.tx,u.size ≤ 32:=by
 unfold Sw.takeF
 split
 ·exact ⟨Nat.zero_le _,fun u hu=>(by cases hu),hx⟩
 ·split
  ·exact ⟨Nat.zero_le _,fun u hu=>(by cases hu),hx⟩
  ·rename_i h1 h2
   have htx:∀ u ∈ (if s.hb[i.toNat]? = some true then s.tx else s.tx.set i.toNat t),u.size ≤ 32:=fun u hu=>by
    split at hu
    ·exact hx u hu
    ·rcases List.mem_or_eq_of_mem_set hu with hu|rfl
     ·exact hx u hu
     ·omega
   have hd:=Sw.drain_win (if s.hb[i.toNat]? = some true then s.tx else s.tx.set i.toNat t) (s.nx + win) (33 - s.nx) s.nx (s.hb.set i.toNat true) (by omega) (fun k hk=>by
    by_cases e:i.toNat = k
    ·omega
    ·rw [List.getElem?_set_ne e] at hk
     exact (h.inw k hk).2)
   have hg:=Sw.takeF_grow h i t
   unfold Sw.takeF at hg
   rw [if_neg h1,if_neg h2] at hg
   dsimp only at hg ⊢
   refine ⟨?_,fun u hu=>?_,htx⟩
   ·have:=hd.1
    unfold Sw.drained at hg ⊢
    omega
   ·rcases hd.2 u hu with hu|rfl
    ·exact htx u hu
    ·exact Nat.zero_le _
theorem check_all {c:Ch} (hk:1 ≤ c.kind ∧ c.kind ≤ 6) (h1:rg1 c = true) (h2:rg2 c = true) (h3:rg3 c = true) (h4:rg4 c = true) (h5:rg5 c = true) (h6:rg6 c = true) (h7:rg7 c = true):checkF c = 0:=by
 unfold checkF
 rw [if_neg (by omega),h1,h2,h3,h4,h5,h6,h7]
 rfl
theorem res_check {n:Int} (h:1 ≤ n ∧ n ≤ 1099511627776):checkF (Ch.res n) = 0 :=
 check_all (by show 1 ≤ (1:Int) ∧ (1:Int) ≤ 6;omega) (by show rgt true _ (decide (1 ≤ n ∧ n ≤ 1099511627776)) = true;rw [decide_eq_true h];rfl) rfl rfl rfl rfl rfl rfl
theorem sub_check {job:Int} {p:ByteArray} (h:1 ≤ job ∧ job ≤ 8) (hp:1 ≤ p.size ∧ p.size ≤ 1024):checkF (subC job p) = 0 :=
 check_all (by show 1 ≤ (2:Int) ∧ (2:Int) ≤ 6;omega) rfl zp18 (by show rgt true _ (decide ((1:Int) ≤ (p.size:Nat) ∧ ((p.size:Nat):Int) ≤ 1024)) = true;rw [show decide ((1:Int) ≤ (p.size:Nat) ∧ ((p.size:Nat):Int) ≤ 1024) = true from decide_eq_true (by omega)];rfl) rfl rfl rfl rfl
theorem grant_check {job bg slot life:Int} (h:1 ≤ job ∧ job ≤ 8) (hb:1 ≤ bg ∧ bg ≤ 1099511627776) (hs:0 ≤ slot ∧ slot ≤ 7) (hl:1 ≤ life ∧ life ≤ 1099511627776):checkF (grantC job bg slot life) = 0 :=
 check_all (by show 1 ≤ (3:Int) ∧ (3:Int) ≤ 6;omega) rfl zp18 rfl zp16 (by show rgt true _ (decide (0 ≤ slot ∧ slot ≤ 7) && decide (1 ≤ life ∧ life ≤ 1099511627776)) = true;rw [decide_eq_true hs,decide_eq_true hl];rfl) rfl rfl
theorem log_check {bg:Int} {l:List ByteArray} (hb:1 ≤ bg ∧ bg ≤ 1099511627776) (h1:1 ≤ l.length) (h8:l.length ≤ 8) (ht:∀ t ∈ l,t.size ≤ 32):checkF (logC bg l) = 0 :=
 check_all (by show 1 ≤ (4:Int) ∧ (4:Int) ≤ 6;omega) rfl rfl rfl zp16 rfl (by
  show rgt true _ (textsF l) = true
  have:l.any longT = false:=by
   rw [List.any_eq_false]
   intro t h
   have:=ht t h
   simp only [longT,decide_eq_true_eq]
   omega
  unfold textsF
  rw [show decide (1 ≤ l.length ∧ l.length ≤ 8) = true from decide_eq_true ⟨h1,h8⟩,this];rfl) rfl
theorem settle_check {bg code bits:Int} (hb:1 ≤ bg ∧ bg ≤ 1099511627776) (hc:0 ≤ code ∧ code ≤ 7) (hx:code = 0 ∨ bits = 0):checkF (settleC bg code bits) = 0 :=
 check_all (by show 1 ≤ (6:Int) ∧ (6:Int) ≤ 6;omega) rfl rfl rfl zp16 rfl rfl (by
  show rgt true _ (decide (0 ≤ code ∧ code ≤ 7) && (decide (code = 0) || decide (bits = 0))) = true
  rw [decide_eq_true hc]
  rcases hx with hx|hx
  ·rw [decide_eq_true hx];rfl
  ·rw [decide_eq_true hx,Bool.or_true];rfl)
theorem numB_int {n:Int} (h:n ≤ 1099511627776):(numB n.toNat).size ≤ 6:=numB_le (k:=5) (by omega)
theorem put_res (n:Int) (h:n ≤ 1099511627776):(putB (Ch.res n)).size ≤ 16:=by
 show (numB (1:Int).toNat ++ numB n.toNat).size ≤ 16
 rw [ByteArray.size_append]
 have h1:=numB_int (n:=1) (by omega)
 have h2:=numB_int h
 omega
theorem put_sub (job:Int) (p:ByteArray) (h:job ≤ 8) (hp:p.size ≤ 1024):(putB (subC job p)).size ≤ 1040:=by
 show ((numB (2:Int).toNat ++ numB job.toNat) ++ frameF p).size ≤ 1040
 rw [ByteArray.size_append,ByteArray.size_append]
 have h1:=numB_int (n:=2) (by omega)
 have h2:=numB_int (n:=job) (by omega)
 have h3:=(frameF_le hp).1
 omega
theorem put_grant (job bg slot life:Int) (h:job ≤ 8) (hb:bg ≤ 1099511627776) (hs:slot ≤ 7) (hl:life ≤ 1099511627776):(putB (grantC job bg slot life)).size ≤ 40:=by
 show (((numB (3:Int).toNat ++ numB job.toNat) ++ numB bg.toNat) ++ (numB slot.toNat ++ numB life.toNat)).size ≤ 40
 simp only [ByteArray.size_append]
 have h1:=numB_int (n:=3) (by omega)
 have h2:=numB_int (n:=job) (by omega)
 have h3:=numB_int hb
 have h4:=numB_int (n:=slot) (by omega)
 have h5:=numB_int hl
 omega
theorem textsN_le {l:List ByteArray} (h:∀ t ∈ l,t.size ≤ 32):∀ i,(textsN l i).size ≤ i * 33
 | 0=>Nat.le_refl _
 | i + 1=>by
  have h1:=textsN_le h i
  rw [textsN,ByteArray.size_append,Nat.succ_mul]
  have:(l.getD i .empty).size ≤ 32:=by
   rw [List.getD_eq_getElem?_getD]
   cases hx:l[i]? with
   | none=>exact Nat.zero_le _
   | some u=>exact h u (List.mem_of_getElem? hx)
  have:=(frameF_le (t:=l.getD i .empty) (by omega)).2 this
  omega
theorem put_log (bg:Int) (l:List ByteArray) (hb:bg ≤ 1099511627776) (h8:l.length ≤ 8) (h:∀ t ∈ l,t.size ≤ 32):(putB (logC bg l)).size ≤ 300:=by
 show ((numB (4:Int).toNat ++ numB bg.toNat) ++ (numB l.length ++ textsN l l.length)).size ≤ 300
 simp only [ByteArray.size_append]
 have h1:=numB_int (n:=4) (by omega)
 have h2:=numB_int hb
 have h3:=numB_le (k:=0) (n:=l.length) (by omega)
 have h4:=textsN_le h l.length
 have h5:l.length * 33 ≤ 8 * 33:=Nat.mul_le_mul_right _ h8
 omega
theorem put_settle (bg code bits:Int) (hb:bg ≤ 1099511627776) (hc:code ≤ 7):(putB (settleC bg code bits)).size ≤ 40:=by
 show ((numB (6:Int).toNat ++ numB bg.toNat) ++ (numB code.toNat ++ hiB bits.toNat 8)).size ≤ 40
 simp only [ByteArray.size_append,hiB_size]
 have h1:=numB_int (n:=6) (by omega)
 have h2:=numB_int hb
 have h3:=numB_int (n:=code) (by omega)
 omega
theorem enc_one {c:Ch} (hck:checkF c = 0) (hp:(putB c).size ≤ 1100):(encodeF [c]).2 = 0:=by
 refine enc_fine (by simp) (by simp) (fun d hd=>by rw [List.mem_singleton] at hd;subst hd;exact hck) ?_
 have:=encN_le (l:=[c]) (m:=1100) (fun d hd=>by rw [List.mem_singleton] at hd;subst hd;exact hp) (by simp) 1
 show (encN [c] 1).size ≤ 2048
 omega
@[reducible] def spN:Sw.Sp:=⟨0,List.replicate 32 false,List.replicate 32 ⟨#[]⟩⟩
theorem spN_ok {win:Nat} (h1:1 ≤ win) (h2:win ≤ 8):Sw.SpOk win spN:=by
 have hno:∀ k,(List.replicate 32 false)[k]? ≠ some true:=fun k h=>by
  have:=List.eq_of_mem_replicate (List.mem_of_getElem? h)
  cases this
 exact ⟨h1,h2,Nat.zero_le _,by simp,by simp,hno _,fun k hk=>absurd hk (hno k)⟩
theorem spN_tx:∀ u ∈ spN.tx,u.size ≤ 32:=fun u hu=>by
 rw [List.eq_of_mem_replicate hu];exact Nat.zero_le _
theorem next_res {bl la re bg rs la1 re1:Int} (h1:1 ≤ bl) (h0:0 ≤ la) (hl:la ≤ re) (hr:re ≤ 1099511627776) (hn:nextB bl la re = ((bg,rs,0),la1,re1)) :
  bg = la + 1 ∧ la1 = la + 1 ∧ bg ≤ re1 ∧ re1 ≤ 1099511627776 ∧ ((rs = 0 ∧ re1 = re) ∨ (re < rs ∧ re1 = rs ∧ 1 ≤ rs)):=by
 unfold nextB at hn
 split at hn
 ·simp only [Prod.mk.injEq] at hn;omega
 ·split at hn
  ·simp only [Prod.mk.injEq] at hn;omega
  ·simp only [Prod.mk.injEq] at hn;omega
theorem applyG_cons {s0 s s':StP} {i:Nat} {c:Ch} {l:List Ch} (hck:checkF c = 0) (hs:stepF s c = some s'):applyG s0 s i (c :: l) = applyG s0 s' (i + 1) l:=by
 rw [applyG,if_neg (by omega),hs]
theorem applyG_app {s0:StP}:∀ (l1 l2:List Ch) (s:StP) (i:Nat) (s1:StP),applyG s0 s i l1 = ((0,0),s1) → ∃ j,applyG s0 s i (l1 ++ l2) = applyG s0 s1 j l2
 | [],l2,s,i,s1,h=>by
  rw [applyG] at h
  injection h with _ h
  exact ⟨i,by rw [List.nil_append,h]⟩
 | c :: l1,l2,s,i,s1,h=>by
  rw [applyG] at h
  split at h
  ·injection h with h _;injection h with _ h;cases h
  ·rename_i hck
   cases hs:stepF s c with
   | none=>rw [hs] at h;injection h with h _;injection h with _ h;cases h
   | some s' =>
    rw [hs] at h
    dsimp only at h
    obtain ⟨j,hj⟩:=applyG_app l1 l2 s' (i + 1) s1 h
    exact ⟨j,by rw [List.cons_append,applyG_cons (by omega) hs,hj]⟩
theorem CqOk.draw {c:Cf} {q:Cq} (h:CqOk c q) (hc:CfOk c) {bg rs la1 re1:Int} (hn:nextB c.block q.la q.st.res = ((bg,rs,0),la1,re1)) :
  applyF q.st ((resL rs).map Cg.c) = ((0,0),{ q.st with res:=re1 }) ∧ CqOk c { q with st:={ q.st with res:=re1 } } ∧ bg = q.la + 1 ∧ la1 = q.la + 1 ∧ bg ≤ re1 ∧ re1 ≤ 1099511627776 ∧ (resL rs ≠ [] → (encodeF ((resL rs).map Cg.c)).2 = 0):=by
 obtain ⟨_,_,_,_,_,_,⟨b1,b2⟩,_⟩:=id hc
 have hrs:=h.bd.rs
 obtain ⟨e1,e2,e3,e4,e5⟩:=next_res b1 h.l0.1 h.l0.2 hrs.2 hn
 rcases e5 with ⟨e5,e6⟩|⟨e5,e6,e7⟩
 ·subst e5;subst e6
  have hl:resL 0 = []:=if_pos rfl
  rw [hl]
  exact ⟨rfl,h,e1,e2,e3,e4,fun q=>absurd rfl q⟩
 ·subst e6
  have hl:resL re1 = [⟨Ch.res re1,none,0⟩]:=if_neg (by omega)
  rw [hl]
  obtain ⟨h1,h2⟩:=h.res e5 e4
  have hck:=res_check (n:=re1) ⟨e7,e4⟩
  exact ⟨by show applyG q.st q.st 0 [Ch.res re1] = _;rw [applyG_cons hck h1];rfl,h2,e1,e2,e3,e4,fun _=>enc_one hck (by have:=put_res re1 e4;show (putB (Ch.res re1)).size ≤ 1100;omega)⟩
theorem head_at {rows:List Rw} {job:Int} (hj:headF18 rows = job) (h0:job ≠ 0):∃ i r,job = ((i:Nat):Int) + 1 ∧ rows[i]? = some r ∧ r.status = 1:=by
 unfold headF18 idxF at hj
 split at hj
 ·rename_i i hf
  rw [List.findIdx?_eq_some_iff_getElem] at hf
  obtain ⟨h1,h2,_⟩:=hf
  exact ⟨i,rows[i],by omega,List.getElem?_eq_getElem h1,of_decide_eq_true h2⟩
 ·omega
theorem place_at {s:StP} (ok:StOk s) {b:Int} {i:Nat} {r:Rw} (hl:lastAt s.rows b = some i) (hr:s.rows[i]? = some r):∃ p,placeF s b = some (r,p,s.logs.getD i []):=by
 have hi:=(List.getElem?_eq_some_iff.1 hr).1
 have h1:s.progs[i]? = some (s.progs[i]'(by rw [ok.np];exact hi)):=List.getElem?_eq_getElem _
 have h2:s.logs[i]? = some (s.logs[i]'(by rw [ok.nl];exact hi)):=List.getElem?_eq_getElem _
 refine ⟨s.progs[i]'(by rw [ok.np];exact hi),?_⟩
 unfold placeF
 rw [hl,Option.bind_some]
 unfold viewL
 have h3:(s.rows.zip (s.progs.zip s.logs))[i]? = some (r,s.progs[i]'(by rw [ok.np];exact hi),s.logs[i]'(by rw [ok.nl];exact hi)):=List.getElem?_zip_eq_some.2 ⟨hr,List.getElem?_zip_eq_some.2 ⟨h1,h2⟩⟩
 rw [h3,List.getD_eq_getElem?_getD,h2]
 rfl
theorem CqOk.grant {c:Cf} {q:Cq} (h:CqOk c q) (hc:CfOk c) {bg rs la1 re1 job slot life:Int} (hn:nextB c.block q.la q.st.res = ((bg,rs,0),la1,re1)) (hj:headF18 q.st.rows = job) (h0:job ≠ 0) (hs:0 ≤ slot ∧ slot ≤ 7) (hlf:1 ≤ life ∧ life ≤ 1099511627776) :
  ∃ st r p,applyF q.st ((pollL rs job bg slot life).map Cg.c) = ((0,0),st) ∧ st.res = re1 ∧ (encodeF ((pollL rs job bg slot life).map Cg.c)).2 = 0 ∧ placeF st bg = some (r,p,[]) ∧ r.job = job ∧ r.badge = bg ∧ r.node = 2 + slot ∧ r.life = life ∧
   CqOk c ⟨st,(Ls.grantF c.lease q.ls job bg (2 + slot) life).2,la1,(job,spN) :: wsDel q.ws job⟩:=by
 obtain ⟨_,_,_,_,⟨w1,w2⟩,_⟩:=id hc
 obtain ⟨ha,h1,e1,e2,e3,e4,he⟩:=h.draw hc hn
 obtain ⟨i,r,hji,hr,hst⟩:=head_at hj h0
 have hi:=(List.getElem?_eq_some_iff.1 hr).1
 have hn8:=h.ok.nr
 have hla:=h.l0.1
 have hck:checkF (grantC job bg slot life) = 0:=grant_check (by omega) (by omega) hs hlf
 have hjt:(job - 1).toNat = i:=by omega
 have hany:(q.st.rows.any fun x=>decide (bg ≤ x.badge)) = false:=by
  rw [List.any_eq_false]
  intro x hx
  have:=h.bl x hx
  simp only [decide_eq_true_eq]
  omega
 have hho:holderOk (2 + slot) life = true:=decide_eq_true (by omega)
 have hstep:stepF { q.st with res:=re1 } (grantC job bg slot life) = some { q.st with res:=re1,rows:=q.st.rows.set i (r.give bg (2 + slot) life),logs:=q.st.logs.set i [] }:=by
  unfold stepF
  rw [if_neg (by show ¬ ((3:Int) = 1);decide),if_neg (by show ¬ ((3:Int) = 2);decide),if_pos (by rfl),if_neg (by show ¬ re1 < bg;omega),if_pos (by show 1 ≤ job;omega)]
  show (match q.st.rows[(job - 1).toNat]? with|none=>none|some r=>_) = _
  rw [hjt,hr]
  dsimp only
  rw [if_neg (by
   rintro (q1|q1|q1|q1)
   ·exact q1 hst
   ·exact q1 ⟨by omega,by omega⟩
   ·rw [hany] at q1;cases q1
   ·rw [hho] at q1;exact q1 rfl)]
 have hall:applyF q.st ((pollL rs job bg slot life).map Cg.c) = ((0,0),{ q.st with res:=re1,rows:=q.st.rows.set i (r.give bg (2 + slot) life),logs:=q.st.logs.set i [] }):=by
  obtain ⟨j,hjj⟩:=applyG_app _ [grantC job bg slot life] q.st 0 _ ha
  show applyG q.st q.st 0 ((resL rs ++ [(⟨grantC job bg slot life,none,0⟩:Cg)]).map Cg.c) = _
  rw [List.map_append]
  refine hjj.trans ?_
  rw [applyG_cons hck hstep]
  rfl
 have henc:(encodeF ((pollL rs job bg slot life).map Cg.c)).2 = 0:=by
  have hpg:=put_grant job bg slot life (by omega) (by omega) hs.2 hlf.2
  unfold pollL resL
  split
  ·exact enc_one hck (by show (putB (grantC job bg slot life)).size ≤ 1100;omega)
  ·rename_i hrs
   have hrr:re1 = rs ∧ 1 ≤ rs:=by
    obtain ⟨_,_,_,_,_,_,⟨b1,b2⟩,_⟩:=id hc
    rcases (next_res b1 h.l0.1 h.l0.2 h.bd.rs.2 hn).2.2.2.2 with q1|q1
    ·exact absurd q1.1 hrs
    ·exact ⟨q1.2.1,q1.2.2⟩
   have hcr:=res_check (n:=rs) ⟨hrr.2,by omega⟩
   have hpr:=put_res rs (by omega)
   have hmem:∀ d ∈ [Ch.res rs,grantC job bg slot life],d = Ch.res rs ∨ d = grantC job bg slot life:=fun d hd=>by simpa using hd
   refine enc_fine (l:=[Ch.res rs,grantC job bg slot life]) (by simp) (by simp) (fun d hd=>by rcases hmem d hd with rfl|rfl <;> assumption) ?_
   have:=encN_le (l:=[Ch.res rs,grantC job bg slot life]) (m:=100) (fun d hd=>by rcases hmem d hd with rfl|rfl <;> omega) (by simp) 2
   show (encN [Ch.res rs,grantC job bg slot life] 2).size ≤ 2048
   omega
 have hok1:=stepF_ok h1.ok hstep
 have hbd1:=stepF_bd h1.ok h1.bd hck zp20 hstep
 have hset:({ q.st with res:=re1,rows:=q.st.rows.set i (r.give bg (2 + slot) life),logs:=q.st.logs.set i [] }:StP).rows[i]? = some (r.give bg (2 + slot) life):=List.getElem?_set_self hi
 have hds:∀ (a j:Nat) r1 r',(q.st.rows.set i (r.give bg (2 + slot) life))[a]? = some r1 → (q.st.rows.set i (r.give bg (2 + slot) life))[j]? = some r' → r1.badge = r'.badge → 0 < r1.badge → a = j:=ds_set h.ds fun j r' hne hj' e hp=>by
  have h1:=h.bl r' (List.mem_of_getElem? hj')
  have h2:bg = r'.badge:=e
  omega
 have hla2:=last_at hset (show (r.give bg (2 + slot) life).badge = bg from rfl) (by omega) hds
 obtain ⟨p,hp⟩:=place_at hok1 hla2 hset
 have hlg:({ q.st with res:=re1,rows:=q.st.rows.set i (r.give bg (2 + slot) life),logs:=q.st.logs.set i [] }:StP).logs.getD i [] = []:=by
  show (q.st.logs.set i []).getD i [] = []
  rw [List.getD_eq_getElem?_getD,List.getElem?_set_self (by rw [h.ok.nl];exact hi)];rfl
 rw [hlg] at hp
 refine ⟨_,_,p,hall,rfl,henc,hp,?_,rfl,rfl,rfl,⟨hok1,hbd1,Ls.grantF_ok h.lk job bg (2 + slot) life,fun x hx=>?_,fun t ht=>?_,fun k r1 hr1 h2=>?_,fun r1 hr1=>?_,⟨by show 0 ≤ la1;omega,by show la1 ≤ re1;omega⟩,hds⟩⟩
 ·show r.job = job
  rw [h.ok.jb i r hr,hji]
 ·have hold:x ∈ q.ls → ∃ r0,(q.st.rows.set i (r.give bg (2 + slot) life))[(x.job - 1).toNat]? = some r0 ∧ r0.status = 2 ∧ r0.badge = x.badge:=fun hx=>by
   obtain ⟨r0,g1,g2,g3⟩:=h.lr x hx
   refine ⟨r0,?_,g2,g3⟩
   rw [List.getElem?_set_ne]
   ·exact g1
   ·intro e
    rw [← e,hr] at g1
    injection g1 with g1
    subst g1
    omega
  unfold Ls.grantF at hx
  split at hx
  ·exact hold hx
  ·split at hx
   ·exact hold hx
   ·rcases Ls.lins_mem.1 hx with rfl|hx
    ·refine ⟨r.give bg (2 + slot) life,?_,rfl,rfl⟩
     show (q.st.rows.set i _)[(job - 1).toNat]? = _
     rw [hjt];exact hset
    ·exact hold hx
 ·rcases List.mem_cons.1 ht with rfl|ht
  ·exact ⟨spN_ok (by omega) (by omega),spN_tx⟩
  ·exact h.win t (wsDel_mem.1 ht).1
 ·by_cases hki:i = k
  ·subst hki
   exact ⟨(job,spN),List.mem_cons_self ..,hji,by rw [hlg];rfl⟩
  ·have hr1':(q.st.rows.set i (r.give bg (2 + slot) life))[k]? = some r1:=hr1
   rw [List.getElem?_set_ne hki] at hr1'
   obtain ⟨t,g1,g2,g3⟩:=h.hw k r1 hr1' h2
   refine ⟨t,List.mem_cons_of_mem _ (wsDel_mem.2 ⟨g1,by omega⟩),g2,?_⟩
   rw [g3]
   show _ = ((q.st.logs.set i []).getD k []).length
   rw [List.getD_eq_getElem?_getD,List.getD_eq_getElem?_getD,List.getElem?_set_ne hki]
 ·rcases List.mem_or_eq_of_mem_set hr1 with hr1|rfl
  ·have:=h.bl r1 hr1;show r1.badge ≤ la1;omega
  ·show bg ≤ la1;omega
theorem lastAt_row {rows:List Rw} {b:Int} {i:Nat} (h:lastAt rows b = some i):∃ r,rows[i]? = some r ∧ r.badge = b ∧ 0 < b:=by
 unfold lastAt at h
 rw [List.findIdx?_eq_some_iff_getElem] at h
 obtain ⟨h1,h2,_⟩:=h
 exact ⟨rows[i],List.getElem?_eq_getElem h1,(of_decide_eq_true h2).1,(of_decide_eq_true h2).2⟩
theorem held_row {s:StP} (ok:StOk s) {b node life:Int} (h:heldF s b node life = true):∃ i r,lastAt s.rows b = some i ∧ s.rows[i]? = some r ∧ r.status = 2 ∧ r.badge = b ∧ 0 < b ∧ r.node = node ∧ r.life = life ∧ jobF s b = (i:Int) + 1 ∧ logF s b = s.logs.getD i []:=by
 cases hl:lastAt s.rows b with
 | none =>
  have:placeF s b = none:=by unfold placeF;rw [hl];rfl
  unfold heldF at h
  rw [this] at h
  cases h
 | some i =>
  obtain ⟨r,hr,hb,h0⟩:=lastAt_row hl
  obtain ⟨p,hp⟩:=place_at ok hl hr
  unfold heldF at h
  rw [hp] at h
  simp only [Bool.and_eq_true,decide_eq_true_eq] at h
  exact ⟨i,r,rfl,hr,h.1,hb,h0,h.2.1,h.2.2,by unfold jobF;rw [hp];exact ok.jb i r hr,by unfold logF;rw [hp]⟩
theorem CqOk.window {c:Cf} {q:Cq} (h:CqOk c q) {b node life:Int} (hh:heldF q.st b node life = true):∃ sp,(jobF q.st b,sp) ∈ q.ws ∧ Sw.SpOk c.window.toNat sp ∧ (∀ u ∈ sp.tx,u.size ≤ 32) ∧ sp.nx = (logF q.st b).length:=by
 obtain ⟨i,r,hl,hr,h2,hb,h0,_,_,hj,hlg⟩:=held_row h.ok hh
 obtain ⟨t,g1,g2,g3⟩:=h.hw i r hr h2
 obtain ⟨tj,sp⟩:=t
 dsimp only at g2 g3
 subst g2
 exact ⟨sp,by rw [hj];exact g1,(h.win _ g1).1,(h.win _ g1).2,by rw [hlg];exact g3⟩
theorem CqOk.chunk {c:Cf} {q:Cq} (h:CqOk c q) (hc:CfOk c) {b node life:Int} (hh:heldF q.st b node life = true) {sp sp1:Sw.Sp} {te i0:Int} {t:ByteArray} {l:List ByteArray} (hsp:Sw.SpOk c.window.toNat sp) (htx:∀ u ∈ sp.tx,u.size ≤ 32) (hnx:sp.nx = (logF q.st b).length) (htk:Sw.takeF c.window.toNat sp i0 t = (te,l,sp1)) :
  (l = [] → CqOk c { q with ws:=(jobF q.st b,sp1) :: wsDel q.ws (jobF q.st b) }) ∧
  (l ≠ [] → (encodeF [logC b l]).2 = 0 ∧ ∃ st,applyF q.st [logC b l] = ((0,0),st) ∧ CqOk c { q with st:=st,ws:=(jobF q.st b,sp1) :: wsDel q.ws (jobF q.st b) }):=by
 obtain ⟨_,_,_,_,⟨w1,w2⟩,_⟩:=id hc
 obtain ⟨i,r,hl,hr,h2,hb,h0,_,_,hj,hlg⟩:=held_row h.ok hh
 have hi:=(List.getElem?_eq_some_iff.1 hr).1
 have hok1:=Sw.takeF_ok hsp i0 t
 have hgr:=Sw.takeF_grow hsp i0 t
 have hwn:=Sw.takeF_win hsp htx i0 t
 rw [htk] at hok1 hgr hwn
 dsimp only at hok1 hgr hwn
 have hwin:∀ t ∈ (jobF q.st b,sp1) :: wsDel q.ws (jobF q.st b),Sw.SpOk c.window.toNat t.2 ∧ ∀ u ∈ t.2.tx,u.size ≤ 32:=fun t ht=>by
  rcases List.mem_cons.1 ht with rfl|ht
  ·exact ⟨hok1,hwn.2.2⟩
  ·exact h.win t (wsDel_mem.1 ht).1
 refine ⟨fun hl0=>⟨h.ok,h.bd,h.lk,h.lr,hwin,fun k r1 hr1 hs2=>?_,h.bl,h.l0,h.ds⟩,fun hl0=>?_⟩
 ·subst hl0
  by_cases hki:i = k
  ·subst hki
   exact ⟨_,List.mem_cons_self ..,hj,by show sp1.nx = _;rw [← hgr,hnx,hlg];exact Nat.zero_add _⟩
  ·obtain ⟨t,g1,g2,g3⟩:=h.hw k r1 hr1 hs2
   exact ⟨t,List.mem_cons_of_mem _ (wsDel_mem.2 ⟨g1,by rw [hj];omega⟩),g2,g3⟩
 ·have hb1:=(h.bd.rb r (List.mem_of_getElem? hr)).bd
  have hpos:=List.length_pos_iff.2 hl0
  have hck:checkF (logC b l) = 0:=log_check (by omega) hpos (by omega) hwn.2.1
  have hn1:=hok1.n
  have hstep:stepF q.st (logC b l) = some { q.st with logs:=q.st.logs.set i (q.st.logs.getD i [] ++ l) }:=by
   unfold stepF
   rw [if_neg (by show ¬ ((4:Int) = 1);decide),if_neg (by show ¬ ((4:Int) = 2);decide),if_neg (by show ¬ ((4:Int) = 3);decide),if_pos (by rfl)]
   show (match lastAt q.st.rows b with|none=>none|some i=>_) = _
   rw [hl]
   dsimp only
   rw [getD_of hr,if_neg (by
    rintro (q1|q1)
    ·exact q1 h2
    ·rw [← hlg,← hnx] at q1;omega)]
  refine ⟨enc_one hck (by have:=put_log b l (by omega) (by omega) hwn.2.1;omega),_,by show applyG q.st q.st 0 [logC b l] = _;rw [applyG_cons hck hstep];rfl,⟨stepF_ok h.ok hstep,stepF_bd h.ok h.bd hck zp20 hstep,h.lk,h.lr,hwin,fun k r1 hr1 hs2=>?_,h.bl,h.l0,h.ds⟩⟩
  by_cases hki:i = k
  ·subst hki
   refine ⟨_,List.mem_cons_self ..,hj,?_⟩
   show sp1.nx = ((q.st.logs.set i (q.st.logs.getD i [] ++ l)).getD i []).length
   rw [List.getD_eq_getElem?_getD (l:=q.st.logs.set i _),List.getElem?_set_self (by rw [h.ok.nl];exact hi),Option.getD_some,List.length_append,← hlg,← hnx]
   omega
  ·obtain ⟨t,g1,g2,g3⟩:=h.hw k r1 hr1 hs2
   refine ⟨t,List.mem_cons_of_mem _ (wsDel_mem.2 ⟨g1,by rw [hj];omega⟩),g2,?_⟩
   rw [g3]
   show _ = ((q.st.logs.set i _).getD k []).length
   rw [List.getD_eq_getElem?_getD,List.getD_eq_getElem?_getD,List.getElem?_set_ne hki]
theorem CqOk.settle {c:Cf} {q:Cq} (h:CqOk c q) {b node life code bits:Int} (hh:heldF q.st b node life = true) (hcd:0 ≤ code ∧ code ≤ 7) (hx:code = 0 ∨ bits = 0) (hbt:0 ≤ bits ∧ bits < 18446744073709551616) :
  (encodeF [settleC b code bits]).2 = 0 ∧ ∃ st,applyF q.st [settleC b code bits] = ((0,0),st) ∧ CqOk c { q with st:=st,ls:=(Ls.dropF q.ls b).2,ws:=wsDel q.ws (jobF q.st b) }:=by
 obtain ⟨i,r,hl,hr,h2,hb,h0,_,_,hj,hlg⟩:=held_row h.ok hh
 have hi:=(List.getElem?_eq_some_iff.1 hr).1
 have hb1:=(h.bd.rb r (List.mem_of_getElem? hr)).bd
 have hck:checkF (settleC b code bits) = 0:=settle_check (by omega) hcd hx
 have hha:=held_at hr h2 hb h0 h.ds
 have hstep:stepF q.st (settleC b code bits) = some { q.st with rows:=q.st.rows.set i (r.done code bits) }:=by
  unfold stepF
  rw [if_neg (by show ¬ ((6:Int) = 1);decide),if_neg (by show ¬ ((6:Int) = 2);decide),if_neg (by show ¬ ((6:Int) = 3);decide),if_neg (by show ¬ ((6:Int) = 4);decide),if_neg (by show ¬ ((6:Int) = 5);decide)]
  show (match heldAt q.st.rows b with|none=>none|some i=>_) = _
  rw [hha]
  dsimp only
  rw [getD_of hr,if_neg (by intro q1;exact q1 ⟨hcd.1,hcd.2,hx⟩)]
 have hds:=ds_same (f:=r.done code bits) h.ds hr rfl
 refine ⟨enc_one hck (by have:=put_settle b code bits (by omega) hcd.2;omega),_,by show applyG q.st q.st 0 [settleC b code bits] = _;rw [applyG_cons hck hstep];rfl,⟨stepF_ok h.ok hstep,stepF_bd h.ok h.bd hck hbt hstep,Ls.dropF_ok h.lk b,fun x hx=>?_,fun t ht=>h.win t (wsDel_mem.1 ht).1,fun k r1 hr1 hs2=>?_,fun r1 hr1=>?_,h.l0,hds⟩⟩
 ·have hxm:x ∈ q.ls ∧ x.badge ≠ b:=by
   unfold Ls.dropF at hx
   split at hx
   ·rename_i hn
    refine ⟨hx,fun e=>?_⟩
    unfold Ls.lfind at hn
    rw [List.find?_eq_none] at hn
    exact hn x hx (by simp [e])
   ·have:=List.mem_filter.1 hx
    exact ⟨this.1,by simpa using this.2⟩
  obtain ⟨r0,g1,g2,g3⟩:=h.lr x hxm.1
  refine ⟨r0,?_,g2,g3⟩
  show (q.st.rows.set i _)[(x.job - 1).toNat]? = some r0
  rw [List.getElem?_set_ne]
  ·exact g1
  ·intro e
   rw [← e,hr] at g1
   injection g1 with g1
   subst g1
   exact hxm.2 (by rw [← g3,hb])
 ·have hr1':(q.st.rows.set i (r.done code bits))[k]? = some r1:=hr1
  by_cases hki:i = k
  ·subst hki
   rw [List.getElem?_set_self hi] at hr1'
   injection hr1' with hr1'
   subst hr1'
   cases hs2
  ·rw [List.getElem?_set_ne hki] at hr1'
   obtain ⟨t,g1,g2,g3⟩:=h.hw k r1 hr1' hs2
   exact ⟨t,wsDel_mem.2 ⟨g1,by rw [hj];omega⟩,g2,g3⟩
 ·rcases List.mem_or_eq_of_mem_set hr1 with hr1|rfl
  ·exact h.bl r1 hr1
  ·exact h.bl r (List.mem_of_getElem? hr)
theorem nodup_job:∀ {l:List Ls.LE},(l.map Ls.LE.job).Nodup → ∀ {x y:Ls.LE},x ∈ l → y ∈ l → x.job = y.job → x = y
 | [],_,x,y,hx,_,_=>by cases hx
 | z :: l,h,x,y,hx,hy,e=>by
  rw [List.map_cons,List.nodup_cons] at h
  rcases List.mem_cons.1 hx with h1|h1
  ·rcases List.mem_cons.1 hy with h2|h2
   ·rw [h1,h2]
   ·exact absurd (List.mem_map.2 ⟨y,h2,by rw [← e,h1]⟩) h.1
  ·rcases List.mem_cons.1 hy with h2|h2
   ·exact absurd (List.mem_map.2 ⟨x,h1,by rw [e,h2]⟩) h.1
   ·exact nodup_job h.2 h1 h2 e
@[reducible] def Uniq (rows:List Rw):Prop:=∀ (i j:Nat) r r',rows[i]? = some r → rows[j]? = some r' → r.badge = r'.badge → 0 < r.badge → i = j
theorem expire_all (s0:StP):∀ (ov:List Ls.LE) (s:StP) (n:Nat),StOk s → StBd s → Uniq s.rows → (ov.map Ls.LE.job).Nodup → (∀ x ∈ ov,1 ≤ x.job ∧ 1 ≤ x.badge ∧ x.badge ≤ 1099511627776 ∧ ∃ r,s.rows[(x.job - 1).toNat]? = some r ∧ r.status = 2 ∧ r.badge = x.badge) →
  ∃ st,applyG s0 s n (ov.map expC) = ((0,0),st) ∧ st.res = s.res ∧ st.logs = s.logs ∧ StOk st ∧ StBd st ∧ Uniq st.rows ∧
   (∀ (k:Nat) r,st.rows[k]? = some r → (s.rows[k]? = some r ∧ ∀ x ∈ ov,x.job ≠ (k:Int) + 1) ∨ (r.status ≠ 2 ∧ ∃ r0,s.rows[k]? = some r0 ∧ r0.badge = r.badge)) ∧
   (∀ (k:Nat) r,s.rows[k]? = some r → (∀ x ∈ ov,x.job ≠ (k:Int) + 1) → st.rows[k]? = some r)
 | [],s,n,ok,bd,un,_,_=>⟨s,rfl,rfl,rfl,ok,bd,un,fun k r h=>.inl ⟨h,fun x hx=>(by cases hx)⟩,fun k r h _=>h⟩
 | x :: ov,s,n,ok,bd,un,nd,hx=>by
  rw [List.map_cons,List.nodup_cons] at nd
  obtain ⟨hj,hb1,hb2,r,hr,h2,hb⟩:=hx x (List.mem_cons_self ..)
  have hi:=(List.getElem?_eq_some_iff.1 hr).1
  have hck:=exp_check (x:=x) ⟨hb1,hb2⟩
  have hha:=held_at hr h2 hb (by omega) un
  have hstep:stepF s (expC x) = some { s with rows:=s.rows.set (x.job - 1).toNat (r.free s.att) }:=by
   unfold stepF
   rw [if_neg (by show ¬ ((5:Int) = 1);decide),if_neg (by show ¬ ((5:Int) = 2);decide),if_neg (by show ¬ ((5:Int) = 3);decide),if_neg (by show ¬ ((5:Int) = 4);decide),if_pos (by rfl)]
   show (match heldAt s.rows x.badge with|none=>none|some i=>_) = _
   rw [hha]
   dsimp only
   rw [getD_of hr]
  have ok1:=stepF_ok ok hstep
  have bd1:=stepF_bd ok bd hck zp20 hstep
  have un1:Uniq (s.rows.set (x.job - 1).toNat (r.free s.att)):=ds_same un hr rfl
  obtain ⟨st,g1,g2,g3,g4,g5,g6,g7,g8⟩:=expire_all s0 ov _ (n + 1) ok1 bd1 un1 nd.2 (fun y hy=>by
   obtain ⟨k1,k2,k3,r1,k4,k5,k6⟩:=hx y (List.mem_cons_of_mem _ hy)
   refine ⟨k1,k2,k3,r1,?_,k5,k6⟩
   show (s.rows.set _ _)[(y.job - 1).toNat]? = some r1
   rw [List.getElem?_set_ne]
   ·exact k4
   ·intro e
    exact nd.1 (List.mem_map.2 ⟨y,hy,by omega⟩))
  refine ⟨st,by rw [List.map_cons,applyG_cons hck hstep];exact g1,g2,g3,g4,g5,g6,fun k r1 hr1=>?_,fun k r1 hr1 hno=>?_⟩
  ·rcases g7 k r1 hr1 with ⟨q1,q2⟩|⟨q1,r0,q2,q3⟩
   ·have q1:(s.rows.set (x.job - 1).toNat (r.free s.att))[k]? = some r1:=q1
    by_cases hki:(x.job - 1).toNat = k
    ·subst hki
     rw [List.getElem?_set_self hi] at q1
     injection q1 with q1
     subst q1
     refine .inr ⟨?_,r,hr,rfl⟩
     unfold Rw.free
     dsimp only
     split <;> decide
    ·rw [List.getElem?_set_ne hki] at q1
     refine .inl ⟨q1,fun y hy=>?_⟩
     rcases List.mem_cons.1 hy with rfl|hy
     ·omega
     ·exact q2 y hy
   ·have q2:(s.rows.set (x.job - 1).toNat (r.free s.att))[k]? = some r0:=q2
    by_cases hki:(x.job - 1).toNat = k
    ·subst hki
     rw [List.getElem?_set_self hi] at q2
     injection q2 with q2
     subst q2
     exact .inr ⟨q1,r,hr,q3⟩
    ·rw [List.getElem?_set_ne hki] at q2
     exact .inr ⟨q1,r0,q2,q3⟩
  ·refine g8 k r1 ?_ (fun y hy=>hno y (List.mem_cons_of_mem _ hy))
   show (s.rows.set (x.job - 1).toNat _)[k]? = some r1
   rw [List.getElem?_set_ne]
   ·exact hr1
   ·intro e
    exact hno x (List.mem_cons_self ..) (by omega)
def wsDelAll (ws:List (Int × Sw.Sp)) (l:List Ls.LE):List (Int × Sw.Sp):=l.foldl (fun w x=>wsDel w x.job) ws
theorem wsDelAll_mem:∀ {l:List Ls.LE} {ws:List (Int × Sw.Sp)} {t:Int × Sw.Sp},t ∈ wsDelAll ws l ↔ t ∈ ws ∧ ∀ x ∈ l,t.1 ≠ x.job
 | [],ws,t=>by simp [wsDelAll]
 | x :: l,ws,t=>by
  show t ∈ wsDelAll (wsDel ws x.job) l ↔ _
  rw [wsDelAll_mem,wsDel_mem]
  constructor
  ·rintro ⟨⟨a,b⟩,d⟩
   exact ⟨a,fun y hy=>by rcases List.mem_cons.1 hy with rfl|hy;exact b;exact d y hy⟩
  ·rintro ⟨a,b⟩
   exact ⟨⟨a,b x (List.mem_cons_self ..)⟩,fun y hy=>b y (List.mem_cons_of_mem _ hy)⟩
theorem over_mem {l:List Ls.LE} {y:Ls.LE}:y ∈ Ls.overF l ↔ ∃ x ∈ l,y = Ls.dec x ∧ x.left - 1 = 0:=by
 unfold Ls.overF
 rw [List.mem_filter,List.mem_map]
 constructor
 ·rintro ⟨⟨x,hx,rfl⟩,h⟩
  exact ⟨x,hx,rfl,of_decide_eq_true h⟩
 ·rintro ⟨x,hx,rfl,h⟩
  exact ⟨⟨x,hx,rfl⟩,decide_eq_true h⟩
theorem rest_mem {l:List Ls.LE} {y:Ls.LE} (h:y ∈ Ls.restF l):∃ x ∈ l,y = Ls.dec x ∧ x.left - 1 ≠ 0:=by
 unfold Ls.restF at h
 rw [List.mem_filter,List.mem_map] at h
 obtain ⟨⟨x,hx,rfl⟩,h⟩:=h
 exact ⟨x,hx,rfl,by simpa using h⟩
theorem over_jobs {l:List Ls.LE} (h:(l.map Ls.LE.job).Nodup):((Ls.overF l).map Ls.LE.job).Nodup:=by
 unfold Ls.overF
 have h1:((l.map Ls.dec).map Ls.LE.job).Nodup:=by rw [Ls.jobs_map (f:=Ls.dec) (fun _=>rfl)];exact h
 exact h1.sublist ((List.filter_sublist).map _)
theorem lk_len {t:Int} {l:List Ls.LE} (h:Ls.LOk t l):l.length ≤ 8:=by
 have:=Ls.nodup_len' (a:=l.map Ls.LE.job) (b:=[1,2,3,4,5,6,7,8]) h.jobs (fun j hj=>by
  obtain ⟨x,hx,rfl⟩:=List.mem_map.1 hj
  have:=h.job0 x hx
  simp only [List.mem_cons,List.not_mem_nil,or_false]
  omega)
 rwa [List.length_map] at this
theorem CqOk.tick {c:Cf} {q:Cq} (h:CqOk c q) :
  (Ls.overF q.ls).length ≤ 8 ∧ (Ls.overF q.ls ≠ [] → (encodeF ((expL (Ls.overF q.ls)).map Cg.c)).2 = 0) ∧
   ∃ st,applyF q.st ((expL (Ls.overF q.ls)).map Cg.c) = ((0,0),st) ∧ CqOk c { q with st:=st,ls:=Ls.restF q.ls,ws:=wsDelAll q.ws (Ls.overF q.ls) }:=by
 have hlen:=lk_len h.lk
 have hol:=Ls.overF_len q.ls
 have hmap:(expL (Ls.overF q.ls)).map Cg.c = (Ls.overF q.ls).map expC:=by simp [expL]
 have hov:∀ y ∈ Ls.overF q.ls,1 ≤ y.badge ∧ y.badge ≤ 1099511627776:=fun y hy=>by
  obtain ⟨x,hx,rfl,_⟩:=over_mem.1 hy
  exact h.lk.badge0 x hx
 obtain ⟨st,g1,g2,g3,g4,g5,g6,g7,g8⟩:=expire_all q.st (Ls.overF q.ls) q.st 0 h.ok h.bd h.ds (over_jobs h.lk.jobs) (fun y hy=>by
  obtain ⟨x,hx,rfl,_⟩:=over_mem.1 hy
  exact ⟨(h.lk.job0 x hx).1,(h.lk.badge0 x hx).1,(h.lk.badge0 x hx).2,h.lr x hx⟩)
 refine ⟨by omega,fun hne=>exp_enc hov (List.length_pos_iff.2 hne) (by omega),st,by rw [hmap];exact g1,⟨g4,g5,Ls.restF_ok h.lk,fun y hy=>?_,fun t ht=>h.win t (wsDelAll_mem.1 ht).1,fun k r hr h2=>?_,fun r hr=>?_,⟨h.l0.1,by show q.la ≤ st.res;rw [g2];exact h.l0.2⟩,g6⟩⟩
 ·obtain ⟨x,hx,rfl,hlf⟩:=rest_mem hy
  obtain ⟨r,k1,k2,k3⟩:=h.lr x hx
  refine ⟨r,g8 _ r k1 (fun z hz=>?_),k2,k3⟩
  obtain ⟨x2,hx2,rfl,hl2⟩:=over_mem.1 hz
  intro e
  have hj0:=(h.lk.job0 x hx).1
  have e2:x2.job = x.job:=by have e:x2.job = (((x.job - 1).toNat:Nat):Int) + 1:=e;omega
  have:=nodup_job h.lk.jobs hx2 hx e2
  subst this
  exact hlf hl2
 ·rcases g7 k r hr with ⟨q1,q2⟩|⟨q1,_⟩
  ·obtain ⟨t,e1,e2,e3⟩:=h.hw k r q1 h2
   refine ⟨t,wsDelAll_mem.2 ⟨e1,fun x hx e=>q2 x hx (by rw [← e,e2])⟩,e2,?_⟩
   rw [e3,g3]
  ·exact absurd h2 q1
 ·obtain ⟨k,hk⟩:=List.getElem?_of_mem hr
  rcases g7 k r hk with ⟨q1,_⟩|⟨_,r0,q2,q3⟩
  ·exact h.bl r (List.mem_of_getElem? q1)
  ·rw [← q3];exact h.bl r0 (List.mem_of_getElem? q2)
end Go.Proofs.YtaecdnfkcebbeaaGreat
