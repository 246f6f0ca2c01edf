import Derived.Test.YtkoelgkghijgiaaGreatA01
import Derived.Test.YtkoelgkghijgiaaGreatA04
import Derived.Test.YtkoelgkghijgiaaGreatB01
import Derived.Test.YtkoelgkghijgiaaGreatA16
import Derived.Test.YtkoelgkghijgiaaGreatA11
set_option linter.unusedVariables false
set_option linter.unusedSimpArgs false
namespace Go.Proofs.YtkoelgkghijgiaaGreat.Se
open Go Go.Sep Go.Proofs Go.Proofs.Tryz
set_option maxRecDepth 10000
set_option maxHeartbeats 40000000
set_option synthInstance.maxSize 2000
end Go.Proofs.YtkoelgkghijgiaaGreat.Se
namespace Go.Proofs.YtkoelgkghijgiaaGreat.Ls
open Go Go.Sep Go.Proofs Go.Proofs.Tryz
set_option maxRecDepth 10000
set_option maxHeartbeats 40000000
set_option synthInstance.maxSize 2000
theorem same12 (v1 v2:Value) (l:List LE) (G1 G2:List Blk) (h1:Rs 71 5 v1 (l.map LE.row) G1) (h2:Rs 71 5 v2 (l.map LE.row) G2) (hlen:l.length ≤ 1000) :
  Con prog 19 #[v1,v2] (G1 ++ G2) fun v A=>v = .bool true ∧ A = G1 ++ G2:=by
 obtain ⟨a1,c1,rfl⟩:=h1.form
 obtain ⟨a2,c2,rfl⟩:=h2.form
 have hll:(l.map LE.row).length = l.length:=List.length_map _
 rw [hll] at h1 h2 ⊢
 refine zqI (vs:=[_,_]) func19 ntmps19 fun B=>?_
 refine zg2 ?_
 refine Cd.loopK (fun i:Nat=>i ≤ l.length) (fun i=>[(0,.slice a1 l.length c1),(1,.slice a2 l.length c2),(5,.int .i64 i)]) (fun _=>G1 ++ G2) (fun i=>l.length - i) 0 (Nat.zero_le _) ⟨rfl,rfl,rfl,trivial⟩ (fun w h=>h) (fun i hi=>?_)
 by_cases hil:i < l.length
 ·have hil':(i:Int) < l.length:=by omega
  obtain ⟨x,hx⟩:∃ x,l[i]? = some x:=⟨_,List.getElem?_eq_getElem hil⟩
  have hxr:(l.map LE.row)[(i:Int).toNat]? = some x.row:=map_at hx
  have hk:=lrows_ok l
  obtain ⟨g1,d1,sp1,e1,rfl⟩:=h1.some_ (by rw [hll];omega)
  obtain ⟨g2,d2,sp2,e2,rfl⟩:=h2.some_ (by rw [hll];omega)
  injection e1 with q1 q2 q3
  injection e2 with q4 q5 q6
  subst q1;subst q3;subst q4;subst q6
  clear q2 q5
  refine zg2 ?_
  refine zdr [qz 0,qz 1,qz 2,qy 3,qz 4,qz 5,qz 6,qy 7,qz 8] ?_
  refine zg14 ?_
  exact ze11
 ·refine zg2 ?_
  exact ze12
theorem appseqL_spec (gf:FuncId) (lb:List Value) (Ok:List LE → Prop) (l:List LE) (AI G:List Blk) [hfn:FnOk prog gf] (hit:IterC prog gf lb encL Ok (fun xs=>xs = l) AI G) (hlen:∀ pre,Ok pre → pre.length ≤ 1000000) :
  Con prog 94 #[.slice none 0 0,.func (.func gf) #[] lb.toArray] (AI ++ G) fun v A=>∃ H,Own 71 5 v (l.map LE.row) H ∧ A = AI ++ (G ++ H):=by
 refine zqI (vs:=[_,_]) func94 ntmps94 fun B=>?_
 refine Cd.seq ?_
 refine Cd.reg ?_
 refine Ops.box rfl rfl rfl rfl (noPd rfl) (fun b2=>?_)
 refine zg1 ?_
 refine Cd.range (X:=LE) (C0:=(b2,cl [.slice none 0 0] 53) :: G) hit rfl rfl (ps:=[7]) rfl (fun _=>rfl)
  (fun pre C=>∃ sv H,Own 71 5 sv (pre.map LE.row) H ∧ (pre = [] → sv = .slice none 0 0 ∧ H = []) ∧ C = (b2,cl [sv] 53) :: (G ++ H))
  (fun _ _ _=>False)
  (fun pre x T C=>Ok (pre ++ [x]) ∧ ∃ sv H b4,Own 71 5 sv (pre.map LE.row) H ∧ T = [(2,ptr b2),(5,ptr b4)] ∧ C = (b4,cl x.row 71) :: (b2,cl [sv] 53) :: (G ++ H))
  (fun w hw=>(hw.split:Sat _ (AI ++ ((b2,cl [.slice none 0 0] 53) :: G)) w)) ⟨.slice none 0 0,[],Own.none,fun _=>⟨rfl,rfl⟩,by rw [List.append_nil]⟩ (fun C hC=>by
   obtain ⟨sv,H,hO,he,rfl⟩:=hC
   obtain ⟨rfl,rfl⟩:=he rfl
   exact ⟨[(b2,cl [.slice none 0 0] 53)],by rw [List.append_nil];exact List.perm_append_comm (l₁:=[_])⟩) ?_ ?_ ?_ ?_
 ·rintro B2 pre x C hx hok ⟨sv,H,hO,_,rfl⟩
  repeat' (first|refine zs0 ?_|refine Ops.alloc rfl rfl rfl (noPd rfl) (fun b=>?_))
  exact Ops.nilN (asg_end ⟨hok,sv,H,_,hO,rfl,rfl⟩ (fun a hF=>hF.keeps ⟨rfl,rfl,trivial⟩) (fun w h=>h))
 ·rintro lp r B2 pre x T C hro hlp hx hok ⟨hok',sv,H,b4,hO,rfl,rfl⟩
  have hl:=hlen _ hok'
  rw [List.length_append,List.length_singleton] at hl
  obtain ⟨sa,sc,rfl⟩:=Own.form hO
  repeat' (first|refine zs3 ?_|refine Ops.bs1 rfl rfl rfl rfl rfl rfl rfl (noPd rfl) (fun b=>?_))
  refine Ops.app1 (rows:=pre.map LE.row) hO (by rw [List.length_map];omega) (by rw [List.length_map];omega) rfl rfl rfl rfl (by rfl) (by rfl) rfl (noPd rfl) rfl (fun v G' hG'=>?_)
  obtain ⟨a',c',rfl⟩:=Own.form hG'
  refine zg5 ?_
  exact Ops.nilN (inB (rnd_next ⟨_,G',by rw [List.map_append];exact hG',fun e=>by simp at e,rfl⟩ (fun w h=>h.split)))
 ·rintro D xs C hD rfl ⟨sv,H,hO,_,rfl⟩
  obtain ⟨sa,sc,rfl⟩:=Own.form hO
  refine Cd.next (Q':=fun _ _ _=>True) ?_
  refine zg6 ?_
  exact Cd.ret (unmark (mark1 hD) (ret1 (A':=AI ++ (G ++ H)) rfl (Res.tmp rfl) (fun w h=>h.split) ⟨H,hO,rfl⟩))
 ·rintro D c pre C hD hZ
  exact hZ.elim
theorem collectL_spec (gf:FuncId) (lb:List Value) (Ok:List LE → Prop) (l:List LE) (AI G:List Blk) [hfn:FnOk prog gf] (hit:IterC prog gf lb encL Ok (fun xs=>xs = l) AI G) (hlen:∀ pre,Ok pre → pre.length ≤ 1000000) :
  Con prog 52 #[.func (.func gf) #[] lb.toArray] (AI ++ G) fun v A=>∃ H,Own 71 5 v (l.map LE.row) H ∧ A = AI ++ (G ++ H):=by
 refine zqI (vs:=[_]) func52 ntmps52 fun B=>?_
 refine zg0 ?_
 refine zqA (appseqL_spec gf lb Ok l AI G hit hlen) fun v A' hR=>?_
 obtain ⟨H,hO,rfl⟩:=hR
 obtain ⟨sa,sc,rfl⟩:=Own.form hO
 refine zg0 ?_
 exact Cd.ret (ret1 (A':=AI ++ (G ++ H)) rfl (Res.tmp rfl) (fun w h=>h.split) ⟨H,hO,rfl⟩)
end Go.Proofs.YtkoelgkghijgiaaGreat.Ls
namespace Go.Proofs.YtkoelgkghijgiaaGreat
open Go Go.Sep Go.Proofs Go.Proofs.Tryz
set_option maxRecDepth 10000
set_option maxHeartbeats 40000000
set_option synthInstance.maxSize 2000
theorem cleases_gen (xb lb lm tb cb mb db wb sb:Nat) (c:Cf) (tv:Value) (dead:Bool) (l:List Ls.LE) (es:List ME) (ck:Nat) (h:Ls.TOk c.lease l es ck) :
  Con prog 16 #[ptr xb] (CoB xb lb tb cb mb db wb sb c tv dead :: Ls.TB lb lm c.lease es ck) fun v A=>∃ H,Rs 71 5 v (l.map Ls.LE.row) H ∧ A = H ++ (CoB xb lb tb cb mb db wb sb c tv dead :: Ls.TB lb lm c.lease es ck):=by
 have hfew:=h.lok.few
 refine zqI (vs:=[_]) func16 ntmps16 fun B=>?_
 refine zg1 ?_
 refine zqA (Ls.all_spec lb) fun v A' hR=>?_
 obtain ⟨bx,rfl,rfl⟩:=hR
 refine Ops.call (Ls.collectL_spec _ _ _ _ _ _ (Ls.all_iter lb bx lm c.lease l es ck h) (fun pre hp=>by obtain ⟨i,hi,rfl⟩:=hp;rw [List.length_take];omega)) rfl (noPd rfl) rfl rfl rfl (fun v A' hR=>?_)
 obtain ⟨H,hO,rfl⟩:=hR
 obtain ⟨sa,sc,rfl⟩:=Own.form hO
 refine Ops.call (Ls.clip_spec _ _ _ hO) rfl (noPd rfl) rfl rfl rfl (fun v A' hR=>?_)
 obtain ⟨hrs,rfl⟩:=hR
 obtain ⟨ra,rc,rfl⟩:=hrs.form
 refine zg0 ?_
 exact Cd.ret (ret1 (A':=H ++ (CoB xb lb tb cb mb db wb sb c tv dead :: Ls.TB lb lm c.lease es ck)) rfl (Res.tmp rfl) (fun w h=>h.split) ⟨H,hrs,rfl⟩)
theorem co_leases (B0:Base) (xb db:Nat) (c:Cf) (n:Nat) (o:Co) (A:List Blk) (hA:CoP xb db c n o A) :
  ConB prog B0 16 #[ptr xb] A fun v A'=>∃ H A1,A' = H ++ A1 ∧ Rs 71 5 v (o.q.ls.map Ls.LE.row) H ∧ CoP xb db c n o A1:=by
 obtain ⟨A0,hp1,hA⟩:=hA
 refine ConB.permIn ?_ hp1
 have hAA:=hA
 obtain ⟨lb,lm,tb,cb,mb,wb,sb,tv,les,lck,sv,G,mes,mck_,SD,k,D,TG,TX,WG,rfl,hL,hO,hW,hS,hD,hk,hT⟩:=hA
 have hl:=(Con.toB (B0:=B0) (cleases_gen xb lb lm tb cb mb db wb sb c tv false o.q.ls les lck hL)).beside (F:=Se.TabB tb sv G ++ (CtB cb c.block o.q.la o.q.st.res :: (mb,mpo mes mck_) :: WlB wb db o.w :: (SD ++ (D ++ (TG ++ (TX ++ WG))))))
 refine (hl.permIn ?_).permOut fun v A' hR=>?_
 ·refine perm_of fun c g ha hc' hp h0=>?_
  simp only [CoL,List.cons_append,List.append_assoc,List.nil_append,ha,hc',h0]
 ·obtain ⟨A2,⟨H,hr,rfl⟩,rfl⟩:=hR
  refine ⟨_,⟨H,_,rfl,hr,hAA.p⟩,?_⟩
  refine perm_of fun c g ha hc' hp h0=>?_
  simp only [CoL,List.cons_append,List.append_assoc,List.nil_append,ha,hc',h0]
end Go.Proofs.YtkoelgkghijgiaaGreat
