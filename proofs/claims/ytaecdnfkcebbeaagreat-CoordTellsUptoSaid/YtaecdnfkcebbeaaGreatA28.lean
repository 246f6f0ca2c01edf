import Derived.Test.YtaecdnfkcebbeaaGreatA01
import Derived.Test.YtaecdnfkcebbeaaGreatA27
set_option linter.unusedVariables false
set_option linter.unusedSimpArgs false
namespace Go.Proofs.YtaecdnfkcebbeaaGreat
open Go Go.Sep Go.Proofs
set_option maxRecDepth 10000
set_option maxHeartbeats 40000000
set_option synthInstance.maxSize 2000
theorem SIn.rin {B:Base} {a:Option Addr} {l:List ByteArray} (h:SIn B a l):RIn 1 B a (l.map trow):=fun i r hr=>by
 rw [List.getElem?_map] at hr
 cases hl:l[i]? with
 | none=>rw [hl] at hr;cases hr
 | some t =>
  rw [hl] at hr
  injection hr with hr
  subst hr
  obtain ⟨b,off,ha,hr⟩:=h i t hl
  refine ⟨b,off,ha,fun A j u hu=>?_⟩
  cases j with
  | zero=>injection hu with hu;subst hu;simpa using hr A
  | succ j=>cases hu
theorem qfind_own (B0:Base) (qb:Nat) (att:Int) (a:Option Addr) (c:Nat) (rows:List Rw) (RG:List Blk) (hO:OwnQ (.slice a rows.length c) rows RG) (badge:Int) (hl:rows.length ≤ 8) :
  ConB Tryz.prog B0 114 #[ptr qb,.int .i64 badge] (QuB qb att (.slice a rows.length c) :: RG) fun v A=>v = .tuple #[.agg ((findF18 rows badge).getD Rw.zero).row.toArray,.bool (findF18 rows badge).isSome] ∧ A = QuB qb att (.slice a rows.length c) :: RG :=
 (ConB.lend (A1:=[]) fun B1 e hG=>qfind_spec B1 qb att a c rows badge hl (hG.sub fun p hp=>by rw [List.mem_singleton] at hp;subst hp;exact List.mem_cons_self ..) (Own.rin hO (hG.sub fun p hp=>List.mem_cons_of_mem _ hp))).mono fun v A hR=>by
  obtain ⟨A',⟨rfl,rfl⟩,rfl⟩:=hR
  exact ⟨rfl,rfl⟩
theorem step_log (B0:Base) (c:Ch) (h:c.kind = 4) (hck:checkF c = 0):StepOk B0 c:=by
 intro sb s D a k hD ok hS
 obtain ⟨qb,rv,RG,pv,PG,lv,LG,ls,rfl,y1,y2,y3,y4,y5⟩:=hD
 obtain ⟨o1,o2,o3,o4,o5,o6,o7⟩:=id ok
 obtain ⟨_,ht8,_⟩:=check_more hck
 have e1:doesN c.kind = 65:=by rw [h];rfl
 have hs:stepF s c = (match lastAt s.rows c.badge with
  | none=>none
  | some i=>if (s.rows.getD i ⟨0,0,0,0,0,0,0,0⟩).status ≠ 2 ∨ 32 < (s.logs.getD i []).length + c.txs.length then none else some { s with logs:=s.logs.set i (s.logs.getD i [] ++ c.txs) }):=by
  unfold stepF
  rw [if_neg (by omega),if_neg (by omega),if_neg (by omega),if_pos h]
  rfl
 rw [e1,hs]
 obtain ⟨ra,rc,rfl⟩:=y1.form
 obtain ⟨pa,pc,rfl⟩:=y2.form
 obtain ⟨la,lc,rfl⟩:=Own.form y3
 have hlen:(ls.map Lg.row).length = s.logs.length:=by rw [← y5,List.length_map,List.length_map]
 rw [hlen] at y3 ⊢
 cases hla:lastAt s.rows c.badge with
 | none =>
  have hf:findF18 s.rows c.badge = none:=by unfold findF18;rw [hla];rfl
  dsimp only
  refine ConB.intro (vs:=[_,_]) Tryz.func65 rfl Tryz.ntmps65 rfl (fun B hB=>?_)
  generalize hc1:Code.seq (Code.region 1 _ _) _ = c1
  repeat' (first|refine Cd.seq ?_|refine Cd.reg ?_|refine Ops.nil ?_|refine Ops.asg rfl rfl rfl rfl ?_|refine Ops.box rfl rfl rfl rfl (noPd rfl) (fun b=>?_))
  rename Nat=>cb
  subst hc1
  refine Cd.cut (σ:=Nat) (fun _=>True) (fun rb=>[(0,ptr sb),(3,ptr cb),(4,.bool false),(5,ptr rb),(6,.bool false)]) (fun rb=>(rb,cl Rw.zero.row 98) :: (cb,cl (c.row a k) 69) :: StB sb qb s.res (.slice pa s.progs.length pc) (.slice la s.logs.length lc) :: QuB qb s.att (.slice ra s.rows.length rc) :: (RG ++ (PG ++ (LG ++ ls.flatMap Lg.G)))) ?_ (fun rb _=>?_)
  ·refine Cd.draw [(0,0,[]),(1,0,[]),(2,0,[]),(3,0,[]),(4,1,[]),(5,0,[]),(6,1,[]),(7,4,[]),(8,0,[]),(9,0,[]),(10,0,[]),(11,2,[]),(12,2,[]),(13,0,[])] (by kernel_rfl) (by kernel_rfl) (by simp only [picked,nth];exact rfl) ?_
   refine zg2 ?_
   refine Ops.fork' [(0,0,[]),(1,0,[]),(2,0,[]),(3,0,[]),(4,1,[]),(5,0,[]),(6,1,[]),(11,4,[4,6]),(7,2,[]),(8,0,[]),(9,0,[]),(10,0,[]),(12,2,[]),(13,0,[])] (by kernel_rfl) rfl (by simp only [picked,nth];exact rfl) ?_ ?_
   ·skip
    refine Ops.callB (qfind_own B0 qb s.att ra rc s.rows RG y1 c.badge o3) hB rfl (noPd rfl) rfl rfl rfl (fun v A' hR=>?_)
    rw [hf] at hR
    dsimp only [Option.getD_none,Option.isSome_none] at hR
    obtain ⟨rfl,rfl⟩:=hR
    repeat' (first|refine Ops.mv rfl rfl rfl rfl ?_|refine Ops.asg rfl rfl rfl rfl ?_|refine Ops.ext rfl rfl rfl rfl rfl ?_|refine Ops.alloc rfl rfl rfl zp3 (fun b=>?_)|refine Ops.stN rfl rfl rfl rfl rfl rfl zp4 ?_)
    rename Nat=>rb
    exact ze53
   ·repeat' (first|refine Ops.alloc rfl rfl rfl zp3 (fun b=>?_))
    rename Nat=>rb
    refine Ops.callB (qfind_own B0 qb s.att ra rc s.rows RG y1 c.badge o3) hB rfl (noPd rfl) rfl rfl rfl (fun v A' hR=>?_)
    rw [hf] at hR
    dsimp only [Option.getD_none,Option.isSome_none] at hR
    obtain ⟨rfl,rfl⟩:=hR
    refine zg34 ?_
    exact ze53
  refine zg0 ?_
  refine Cd.draw [(0,0,[]),(1,0,[]),(2,0,[]),(3,0,[]),(4,1,[]),(5,0,[]),(6,0,[]),(7,0,[]),(8,0,[]),(9,0,[]),(10,0,[]),(11,1,[]),(12,0,[]),(13,1,[]),(14,0,[]),(15,0,[]),(16,1,[]),(17,1,[]),(18,0,[]),(19,1,[]),(20,1,[]),(21,0,[]),(22,0,[]),(23,0,[])] (by kernel_rfl) (by kernel_rfl) (by simp only [picked,nth];exact rfl) ?_
  refine zg20 ?_
  exact ze52
 | some i =>
  have hi:=lastAt_lt hla
  obtain ⟨r,hr⟩:∃ r,s.rows[i]? = some r:=⟨_,List.getElem?_eq_getElem hi⟩
  have hf:findF18 s.rows c.badge = some r:=by unfold findF18;rw [hla];exact hr
  have hjb:=o7 i r hr
  have hil:i < ls.length:=by rw [List.length_map] at hlen;omega
  obtain ⟨x,hx2⟩:∃ x,ls[i]? = some x:=⟨_,List.getElem?_eq_getElem hil⟩
  have hxt:s.logs.getD i [] = x.txs:=by
   rw [List.getD_eq_getElem?_getD,← y5,List.getElem?_map,hx2];rfl
  have hx32:x.txs.length ≤ 32:=o6 _ (by rw [← y5];exact List.mem_map_of_mem (List.mem_of_getElem? hx2))
  have hXO:=y4 x (List.mem_of_getElem? hx2)
  obtain ⟨lg,lc',lsp,hlv,rfl,hlsp,hlle⟩:=Own.some_ y3 (by rw [hlen];omega)
  injection hlv with w1 w2 w3
  subst w1
  have hji:(r.job - 1).toNat = i:=by omega
  have hxr:(ls.map Lg.row)[(r.job - 1).toNat]? = some x.row:=by rw [hji,List.getElem?_map,hx2];rfl
  have hokL:=lgs_ok ls
  have hj0:0 ≤ r.job - 1:=by omega
  have hj1:r.job - 1 < ((s.logs.length:Nat):Int):=by omega
  dsimp only
  rw [getD_of hr,hxt]
  refine ConB.permIn (A:=StB sb qb s.res (.slice pa s.progs.length pc) (.slice (some ⟨lg,0,none⟩) s.logs.length lc) :: QuB qb s.att (.slice ra s.rows.length rc) :: (RG ++ (PG ++ ([(lg,cl ((ls.map Lg.row).flatten ++ lsp) 67)] ++ (x.G ++ (ls.set i (⟨none,0,[],[]⟩:Lg)).flatMap Lg.G))))) ?_ (by
   refine List.Perm.cons _ (List.Perm.cons _ (List.Perm.append_left _ (List.Perm.append_left _ (List.Perm.append_left _ (flat_take hx2 rfl)))))
   )
  have hperm:∀ y:Lg,((ls.set i y).flatMap Lg.G).Perm (y.G ++ (ls.set i (⟨none,0,[],[]⟩:Lg)).flatMap Lg.G):=fun y=>by
   have:=flat_take (ls:=ls.set i y) (i:=i) (x:=y) (e:=⟨none,0,[],[]⟩) (List.getElem?_set_self hil) rfl
   rwa [List.set_set] at this
  have hp0:=flat_take hx2 (e:=(⟨none,0,[],[]⟩:Lg)) rfl
  generalize (ls.set i (⟨none,0,[],[]⟩:Lg)).flatMap Lg.G = REST at hperm hp0 ⊢
  obtain ⟨xa,xc,xt,XG⟩:=x
  dsimp only at hXO hx32 hxr hxt hp0 ⊢
  have hxr:(ls.map Lg.row)[(r.job - 1).toNat]? = some [.slice xa xt.length xc]:=hxr
  have h9:(xt.length:Int) + (c.txs.length:Int) ≤ 40:=by omega
  refine ConB.intro (vs:=[_,_]) Tryz.func65 rfl Tryz.ntmps65 rfl (fun B hB=>?_)
  generalize hc1:Code.seq (Code.region 1 _ _) _ = c1
  repeat' (first|refine Cd.seq ?_|refine Cd.reg ?_|refine Ops.nil ?_|refine Ops.asg rfl rfl rfl rfl ?_|refine Ops.box rfl rfl rfl rfl (noPd rfl) (fun b=>?_))
  rename Nat=>cb
  subst hc1
  refine Cd.cut (σ:=Nat) (fun _=>True) (fun rb=>[(0,ptr sb),(3,ptr cb),(4,.bool false),(5,ptr rb),(6,.bool true)]) (fun rb=>(rb,cl r.row 98) :: (cb,cl (c.row a k) 69) :: StB sb qb s.res (.slice pa s.progs.length pc) (.slice (some ⟨lg,0,none⟩) s.logs.length lc) :: QuB qb s.att (.slice ra s.rows.length rc) :: (RG ++ (PG ++ ([(lg,cl ((ls.map Lg.row).flatten ++ lsp) 67)] ++ (XG ++ REST))))) ?_ (fun rb _=>?_)
  ·refine Cd.draw [(0,0,[]),(1,0,[]),(2,0,[]),(3,0,[]),(4,1,[]),(5,0,[]),(6,1,[]),(7,4,[]),(8,0,[]),(9,0,[]),(10,0,[]),(11,2,[]),(12,2,[]),(13,0,[])] (by kernel_rfl) (by kernel_rfl) (by simp only [picked,nth];exact rfl) ?_
   refine zg2 ?_
   refine Ops.fork' [(0,0,[]),(1,0,[]),(2,0,[]),(3,0,[]),(4,1,[]),(5,0,[]),(6,1,[]),(11,4,[4,6]),(7,2,[]),(8,0,[]),(9,0,[]),(10,0,[]),(12,2,[]),(13,0,[])] (by kernel_rfl) rfl (by simp only [picked,nth];exact rfl) ?_ ?_
   ·skip
    refine Ops.callB (qfind_own B0 qb s.att ra rc s.rows RG y1 c.badge o3) hB rfl (noPd rfl) rfl rfl rfl (fun v A' hR=>?_)
    rw [hf] at hR
    dsimp only [Option.getD_some,Option.isSome_some] at hR
    obtain ⟨rfl,rfl⟩:=hR
    repeat' (first|refine Ops.mv rfl rfl rfl rfl ?_|refine Ops.asg rfl rfl rfl rfl ?_|refine Ops.ext rfl rfl rfl rfl rfl ?_|refine Ops.alloc rfl rfl rfl zp3 (fun b=>?_)|refine Ops.stN rfl rfl rfl rfl rfl rfl zp4 ?_)
    rename Nat=>rb
    exact ze53
   ·repeat' (first|refine Ops.alloc rfl rfl rfl zp3 (fun b=>?_))
    rename Nat=>rb
    refine Ops.callB (qfind_own B0 qb s.att ra rc s.rows RG y1 c.badge o3) hB rfl (noPd rfl) rfl rfl rfl (fun v A' hR=>?_)
    rw [hf] at hR
    dsimp only [Option.getD_some,Option.isSome_some] at hR
    obtain ⟨rfl,rfl⟩:=hR
    refine zg34 ?_
    exact ze53
  by_cases hst:r.status = 2
  case neg =>
   rw [if_pos (.inl hst)]
   refine zg0 ?_
   refine Cd.draw [(0,0,[]),(1,0,[]),(2,0,[]),(3,0,[]),(4,1,[]),(5,0,[]),(6,0,[]),(7,0,[]),(8,0,[]),(9,0,[]),(10,0,[]),(11,1,[]),(12,0,[]),(13,1,[]),(14,0,[]),(15,0,[]),(16,1,[]),(17,1,[]),(18,0,[]),(19,1,[]),(20,1,[]),(21,0,[]),(22,0,[]),(23,0,[])] (by kernel_rfl) (by kernel_rfl) (by simp only [picked,nth];exact rfl) ?_
   refine zg31 ?_
   refine Cd.ret (ret1 (A':=StB sb qb s.res (.slice pa s.progs.length pc) (.slice (some ⟨lg,0,none⟩) s.logs.length lc) :: QuB qb s.att (.slice ra s.rows.length rc) :: (RG ++ (PG ++ ([(lg,cl ((ls.map Lg.row).flatten ++ lsp) 67)] ++ ls.flatMap Lg.G)))) rfl (Res.tmp rfl) (fun w h=>?_) ⟨rfl,qb,_,RG,_,PG,_,_,ls,rfl,y1,y2,y3,y4,y5⟩)
   have h2:Sat _ (StB sb qb s.res (.slice pa s.progs.length pc) (.slice (some ⟨lg,0,none⟩) s.logs.length lc) :: QuB qb s.att (.slice ra s.rows.length rc) :: (RG ++ (PG ++ ([(lg,cl ((ls.map Lg.row).flatten ++ lsp) 67)] ++ (XG ++ REST))))) w:=h.split
   exact h2.perm (List.Perm.cons _ (List.Perm.cons _ (List.Perm.append_left _ (List.Perm.append_left _ (List.Perm.append_left _ hp0.symm)))))
  by_cases h32:32 < xt.length + c.txs.length
  ·rw [if_pos (.inr h32)]
   refine zg0 ?_
   refine Cd.draw [(0,0,[]),(1,0,[]),(2,0,[]),(3,0,[]),(4,1,[]),(5,0,[]),(6,0,[]),(7,0,[]),(8,0,[]),(9,0,[]),(10,0,[]),(11,1,[]),(12,0,[]),(13,1,[]),(14,0,[]),(15,0,[]),(16,1,[]),(17,1,[]),(18,0,[]),(19,1,[]),(20,1,[]),(21,0,[]),(22,0,[]),(23,0,[])] (by kernel_rfl) (by kernel_rfl) (by simp only [picked,nth];exact rfl) ?_
   refine zg41 ?_
   refine Cd.ret (ret1 (A':=StB sb qb s.res (.slice pa s.progs.length pc) (.slice (some ⟨lg,0,none⟩) s.logs.length lc) :: QuB qb s.att (.slice ra s.rows.length rc) :: (RG ++ (PG ++ ([(lg,cl ((ls.map Lg.row).flatten ++ lsp) 67)] ++ ls.flatMap Lg.G)))) rfl (Res.tmp rfl) (fun w h=>?_) ⟨rfl,qb,_,RG,_,PG,_,_,ls,rfl,y1,y2,y3,y4,y5⟩)
   have h2:Sat _ (StB sb qb s.res (.slice pa s.progs.length pc) (.slice (some ⟨lg,0,none⟩) s.logs.length lc) :: QuB qb s.att (.slice ra s.rows.length rc) :: (RG ++ (PG ++ ([(lg,cl ((ls.map Lg.row).flatten ++ lsp) 67)] ++ (XG ++ REST))))) w:=h.split
   exact h2.perm (List.Perm.cons _ (List.Perm.cons _ (List.Perm.append_left _ (List.Perm.append_left _ (List.Perm.append_left _ hp0.symm)))))
  rw [if_neg (by rintro (q|q);exact q hst;exact h32 q)]
  have h32':¬ (32:Int) < ((xt.length:Nat):Int) + ((c.txs.length:Nat):Int):=by omega
  refine zg0 ?_
  refine Cd.draw [(0,0,[]),(1,0,[]),(2,0,[]),(3,0,[]),(4,1,[]),(5,0,[]),(6,0,[]),(7,0,[]),(8,0,[]),(9,0,[]),(10,0,[]),(11,1,[]),(12,0,[]),(13,1,[]),(14,0,[]),(15,0,[]),(16,1,[]),(17,1,[]),(18,0,[]),(19,1,[]),(20,1,[]),(21,0,[]),(22,0,[]),(23,0,[])] (by kernel_rfl) (by kernel_rfl) (by simp only [picked,nth];exact rfl) ?_
  refine zg41 ?_
  refine Cd.draw [(0,0,[]),(1,0,[]),(2,0,[]),(3,1,[]),(4,0,[]),(5,1,[]),(6,0,[]),(7,0,[]),(8,0,[]),(9,0,[]),(10,1,[]),(11,0,[]),(12,1,[]),(13,0,[]),(14,0,[]),(15,1,[]),(16,0,[]),(17,1,[]),(18,2,[3,5]),(19,0,[]),(20,2,[])] (by kernel_rfl) (by kernel_rfl) (by simp only [picked,nth];exact rfl) ?_
  refine zg37 ?_
  refine Ops.appS (rows:=xt.map trow) (news:=c.txs.map trow) hXO ((by simpa using ((hS.rin).ext hB).reads (trows_ok c.txs) (by decide) k _):Reads _ _ _ 1 (.slice a c.txs.length k) _) (by simp only [List.length_map];omega) (by simp only [List.length_map];omega) rfl rfl rfl rfl rfl zp10 rfl (fun v G' hG'=>?_)
  rw [← List.map_append] at hG'
  have hG2:OwnT v (xt ++ c.txs) G':=hG'
  clear hG'
  obtain ⟨xa1,xc1,rfl⟩:=hG2.form
  refine zg39 ?_
  refine Ops.stRow1 (i:=(r.job - 1).toNat) (o:=0) rfl rfl rfl rfl rfl hokL hxr rfl (noPd rfl) ?_
  rw [show (ls.map Lg.row).set (r.job - 1).toNat (([.slice xa xt.length xc]:List Value).set 0 (.slice xa1 (xt ++ c.txs).length xc1)) = (ls.set (r.job - 1).toNat (⟨xa1,xc1,xt ++ c.txs,G'⟩:Lg)).map Lg.row from lset (q:=⟨xa1,xc1,xt ++ c.txs,G'⟩),hji]
  refine zg3 ?_
  refine Cd.ret (ret1 (A':=StB sb qb s.res (.slice pa s.progs.length pc) (.slice (some ⟨lg,0,none⟩) s.logs.length lc) :: QuB qb s.att (.slice ra s.rows.length rc) :: (RG ++ (PG ++ ([(lg,cl (((ls.set i (⟨xa1,xc1,xt ++ c.txs,G'⟩:Lg)).map Lg.row).flatten ++ lsp) 67)] ++ (ls.set i (⟨xa1,xc1,xt ++ c.txs,G'⟩:Lg)).flatMap Lg.G)))) rfl (Res.tmp rfl) (fun w h=>?_) ⟨rfl,qb,_,RG,_,PG,_,_,ls.set i (⟨xa1,xc1,xt ++ c.txs,G'⟩:Lg),rfl,y1,y2,own_setL y3,fun z hz=>?_,?_⟩)
  ·have h2:Sat _ (StB sb qb s.res (.slice pa s.progs.length pc) (.slice (some ⟨lg,0,none⟩) s.logs.length lc) :: QuB qb s.att (.slice ra s.rows.length rc) :: (RG ++ (PG ++ ([(lg,cl (((ls.set i (⟨xa1,xc1,xt ++ c.txs,G'⟩:Lg)).map Lg.row).flatten ++ lsp) 67)] ++ (G' ++ REST))))) w:=h.split
   exact h2.perm (List.Perm.cons _ (List.Perm.cons _ (List.Perm.append_left _ (List.Perm.append_left _ (List.Perm.append_left _ (hperm ⟨xa1,xc1,xt ++ c.txs,G'⟩).symm)))))
  ·rcases List.mem_or_eq_of_mem_set hz with hz|rfl
   ·exact y4 z hz
   ·exact hG2
  ·show (ls.set i (⟨xa1,xc1,xt ++ c.txs,G'⟩:Lg)).map Lg.txs = s.logs.set i (xt ++ c.txs)
   rw [List.map_set,y5]
theorem step_all (B0:Base) (c:Ch) (hx:0 ≤ c.rbits ∧ c.rbits < 18446744073709551616) (hck:checkF c = 0):StepOk B0 c:=by
 rcases kind6 (check_kind hck) with h|h|h|h|h|h
 ·exact step_reserve B0 c h
 ·exact step_submit B0 c h
 ·exact step_grant B0 c h hck hx
 ·exact step_log B0 c h hck
 ·exact step_expire B0 c h
 ·exact step_settle B0 c h
end Go.Proofs.YtaecdnfkcebbeaaGreat
namespace Go.Proofs.YtaecdnfkcebbeaaGreat
open Go Go.Sep Go.Proofs
set_option maxRecDepth 10000
structure RwBd (r:Rw):Prop where
 st:0 ≤ r.status ∧ r.status ≤ 4
 at_:0 ≤ r.att ∧ r.att ≤ 8
 bd:0 ≤ r.badge ∧ r.badge ≤ 1099511627776
 nd:0 ≤ r.node ∧ r.node ≤ 9
 lf:0 ≤ r.life ∧ r.life ≤ 1099511627776
 rc:0 ≤ r.rcode ∧ r.rcode ≤ 7
 rx:0 ≤ r.rbits ∧ r.rbits < 18446744073709551616
structure StBd (s:StP):Prop where
 rs:0 ≤ s.res ∧ s.res ≤ 1099511627776
 rb:∀ r ∈ s.rows,RwBd r
 pz:∀ p ∈ s.progs,p.size ≤ 1024
 tz:∀ l ∈ s.logs,l.length ≤ 32 ∧ ∀ t ∈ l,t.size ≤ 32
def rowN (r:Rw):List Int:=[r.status,r.att,r.badge,r.node,r.life,r.rcode]
def catN (l:List Int):Nat → ByteArray
 | 0=>⟨#[]⟩
 | i + 1=>catN l i ++ (match l[i]? with|some n=>numB n.toNat|none=>⟨#[]⟩)
def catT (l:List ByteArray):Nat → ByteArray
 | 0=>⟨#[]⟩
 | i + 1=>catT l i ++ (match l[i]? with|some t=>frameF t|none=>⟨#[]⟩)
def midP (r:Rw) (p:ByteArray) (n:Nat):ByteArray:=(hiB r.rbits.toNat 8 ++ frameF p) ++ numB n
def rowP (r:Rw) (p:ByteArray) (t:List ByteArray):ByteArray:=(catN (rowN r) 6 ++ midP r p t.length) ++ catT t t.length
def headP (s:StP):ByteArray:=numB s.res.toNat ++ numB s.progs.length
def catR (s:StP):Nat → ByteArray
 | 0=>headP s
 | i + 1=>catR s i ++ (match s.rows[i]?,s.progs[i]?,s.logs[i]? with|some r,some p,some t=>rowP r p t|_,_,_=>⟨#[]⟩)
def bytesS (s:StP):ByteArray:=catR s s.rows.length
theorem empty_size:(⟨#[]⟩:ByteArray).size = 0:=rfl
theorem numB_le {k n:Nat} (h:n < 128 ^ (k + 1)):(numB n).size ≤ k + 1:=by
 rw [numB,bytesOf_size];exact numL_len k n h
theorem frameF_le {t:ByteArray} (h:t.size ≤ 1024):(frameF t).size ≤ t.size + 2 ∧ (t.size ≤ 32 → (frameF t).size ≤ 33):=by
 have h1:=numB_le (k:=1) (n:=t.size) (by omega)
 rw [frameF,ByteArray.size_append]
 refine ⟨by omega,fun h2=>?_⟩
 have h3:=numB_le (k:=0) (n:=t.size) (by omega)
 omega
theorem catN_le {r:Rw} (h:RwBd r):∀ i,i ≤ 6 → (catN (rowN r) i).size ≤ 16:=by
 obtain ⟨⟨a1,a2⟩,⟨b1,b2⟩,⟨c1,c2⟩,⟨d1,d2⟩,⟨e1,e2⟩,⟨f1,f2⟩,_⟩:=h
 have q1:=numB_le (k:=0) (n:=r.status.toNat) (by omega)
 have q2:=numB_le (k:=0) (n:=r.att.toNat) (by omega)
 have q3:=numB_le (k:=5) (n:=r.badge.toNat) (by omega)
 have q4:=numB_le (k:=0) (n:=r.node.toNat) (by omega)
 have q5:=numB_le (k:=5) (n:=r.life.toNat) (by omega)
 have q6:=numB_le (k:=0) (n:=r.rcode.toNat) (by omega)
 intro i hi
 have h6:i = 0 ∨ i = 1 ∨ i = 2 ∨ i = 3 ∨ i = 4 ∨ i = 5 ∨ i = 6:=by omega
 rcases h6 with rfl|rfl|rfl|rfl|rfl|rfl|rfl <;> simp only [catN,rowN,List.getElem?_cons_zero,List.getElem?_cons_succ,ByteArray.size_append,empty_size] <;> omega
theorem catT_le {l:List ByteArray} (h:∀ t ∈ l,t.size ≤ 32):∀ i,(catT l i).size ≤ i * 33
 | 0=>by simp [catT,empty_size]
 | i + 1=>by
  have h1:=catT_le h i
  rw [catT,ByteArray.size_append]
  cases hl:l[i]? with
  | none=>dsimp only;rw [empty_size];omega
  | some t =>
   have h2:=h t (List.mem_of_getElem? hl)
   have h3:=(frameF_le (t:=t) (by omega)).2 h2
   dsimp only
   omega
theorem midP_le {r:Rw} {p:ByteArray} {n:Nat} (hp:p.size ≤ 1024) (hn:n ≤ 32):(midP r p n).size ≤ 1035:=by
 have h1:=(frameF_le hp).1
 have h2:=numB_le (k:=0) (n:=n) (by omega)
 rw [midP,ByteArray.size_append,ByteArray.size_append,hiB_size]
 omega
theorem catR_le {s:StP} (h:StBd s) (hp:s.progs.length ≤ 8):∀ i,(catR s i).size ≤ 7 + i * 2107
 | 0=>by
  have h1:=numB_le (k:=5) (n:=s.res.toNat) (by have:=h.rs;omega)
  have h2:=numB_le (k:=0) (n:=s.progs.length) (by omega)
  rw [catR,headP,ByteArray.size_append]
  omega
 | i + 1=>by
  have h1:=catR_le h hp i
  rw [catR,ByteArray.size_append]
  split
  ·rename_i r p t hr hp2 ht
   have q1:=catN_le (h.rb r (List.mem_of_getElem? hr)) 6 (Nat.le_refl _)
   obtain ⟨t1,t2⟩:=h.tz t (List.mem_of_getElem? ht)
   have q2:=midP_le (r:=r) (p:=p) (n:=t.length) (h.pz p (List.mem_of_getElem? hp2)) t1
   have q3:=catT_le t2 t.length
   rw [rowP,ByteArray.size_append,ByteArray.size_append]
   omega
  ·rw [empty_size];omega
theorem bytesS_le {s:StP} (h:StBd s) (ok:StOk s):(bytesS s).size ≤ 17000:=by
 have h1:=catR_le h (by have:=ok.nr;have:=ok.np;omega) s.rows.length
 have h2:=ok.nr
 unfold bytesS
 have h3:s.rows.length * 2107 ≤ 8 * 2107:=Nat.mul_le_mul_right _ h2
 omega
theorem stBd_new {n:Int}:StBd ⟨n,[],0,[],[]⟩:=⟨⟨Int.le_refl _,by show (0:Int) ≤ 1099511627776;omega⟩,fun r h=>(by cases h),fun r h=>(by cases h),fun r h=>(by cases h)⟩
theorem zz {h:Int} (q:0 ≤ h):(0:Int) ≤ 0 ∧ (0:Int) ≤ h:=⟨Int.le_refl _,q⟩
theorem check_prog {c:Ch} (h:checkF c = 0):c.prog.size ≤ 1024 ∧ (∀ t ∈ c.txs,t.size ≤ 32) ∧ (0 ≤ c.n ∧ c.n ≤ 1099511627776) ∧ (0 ≤ c.badge ∧ c.badge ≤ 1099511627776) ∧ (0 ≤ c.life ∧ c.life ≤ 1099511627776) ∧ (0 ≤ c.slot ∧ c.slot ≤ 7) ∧ (0 ≤ c.rcode ∧ c.rcode ≤ 7):=by
 unfold checkF at h
 split at h
 ·cases h
 ·split at h
  ·rename_i hall
   simp only [Bool.and_eq_true] at hall
   obtain ⟨h1,h2,h3,h4,h5,h6,h7⟩:=hall
   have h1:=rgt_true h1
   have h3:=rgt_true h3
   have h4:=rgt_true h4
   have h5:=rgt_true h5
   have h6:=rgt_true h6
   have h7:=rgt_true h7
   simp only [decide_eq_true_eq,Bool.and_eq_true] at h1 h3 h4 h5 h6 h7
   refine ⟨?_,?_,by omega,by omega,by omega,by omega,by omega⟩
   ·rcases h3 with h3|h3
    ·omega
    ·rw [h3];decide
   ·intro t ht
    rcases h6 with h6|h6
    ·unfold textsF at h6
     simp only [Bool.and_eq_true,Bool.not_eq_true',List.any_eq_false] at h6
     have:=h6.2 t ht
     simp only [longT,decide_eq_true_eq] at this
     omega
    ·have:c.txs = []:=List.length_eq_zero_iff.1 (by omega)
     rw [this] at ht
     cases ht
  ·cases h
theorem stepF_bd {s s':StP} {c:Ch} (ok:StOk s) (bd:StBd s) (hck:checkF c = 0) (hx:0 ≤ c.rbits ∧ c.rbits < 18446744073709551616) (h:stepF s c = some s'):StBd s':=by
 have ok':=stepF_ok ok h
 obtain ⟨c1,c2,c3,c4,c5,c6,c7⟩:=check_prog hck
 obtain ⟨rs,rb,pz,tz⟩:=bd
 have a8:=ok'.a8
 unfold stepF at h
 split at h
 ·split at h
  ·injection h with h;subst h;exact ⟨c3,rb,pz,tz⟩
  ·cases h
 split at h
 ·split at h
  ·cases h
  ·injection h with h;subst h
   refine ⟨rs,fun r hr=>?_,fun p hp=>?_,fun l hl=>?_⟩
   ·rcases List.mem_append.1 hr with hr|hr
    ·exact rb r hr
    ·rw [List.mem_singleton] at hr;subst hr
     exact ⟨⟨by show (0:Int) ≤ 1;decide,by show (1:Int) ≤ 4;decide⟩,zz (by decide),zz (by decide),zz (by decide),zz (by decide),zz (by decide),⟨Int.le_refl _,by show (0:Int) < 18446744073709551616;decide⟩⟩
   ·rcases List.mem_append.1 hp with hp|hp
    ·exact pz p hp
    ·rw [List.mem_singleton] at hp;subst hp;exact c1
   ·rcases List.mem_append.1 hl with hl|hl
    ·exact tz l hl
    ·rw [List.mem_singleton] at hl;subst hl;exact ⟨Nat.zero_le _,fun t ht=>(by cases ht)⟩
 split at h
 ·split at h
  ·cases h
  ·split at h
   ·cases h
   ·rename_i r hr
    split at h
    ·cases h
    ·rename_i hno
     injection h with h;subst h
     have hr2:s.rows[(c.job - 1).toNat]? = some r:=by
      split at hr
      ·exact hr
      ·cases hr
     have hrb:=rb r (List.mem_of_getElem? hr2)
     have ham:=ok'.am (r.give c.badge (2 + c.slot) c.life) (List.mem_of_getElem? (List.getElem?_set_self (List.getElem?_eq_some_iff.1 hr2).1))
     refine ⟨rs,set_am rb ⟨?_,?_,c4,?_,c5,hrb.rc,hrb.rx⟩,pz,fun l hl=>?_⟩
     ·show (0:Int) ≤ 2 ∧ (2:Int) ≤ 4;omega
     ·exact ⟨ham.1,Int.le_trans ham.2.1 a8⟩
     ·show 0 ≤ 2 + c.slot ∧ 2 + c.slot ≤ 9;omega
     ·rcases List.mem_or_eq_of_mem_set hl with hl|rfl
      ·exact tz l hl
      ·exact ⟨Nat.zero_le _,fun t ht=>(by cases ht)⟩
 split at h
 ·split at h
  ·cases h
  ·rename_i i hi
   split at h
   ·cases h
   ·rename_i hc
    injection h with h;subst h
    refine ⟨rs,rb,pz,fun l hl=>⟨ok'.lg l hl,fun t ht=>?_⟩⟩
    rcases List.mem_or_eq_of_mem_set hl with hl|rfl
    ·exact (tz l hl).2 t ht
    ·rcases List.mem_append.1 ht with ht|ht
     ·rw [List.getD_eq_getElem?_getD] at ht
      cases hg:s.logs[i]? with
      | none=>rw [hg] at ht;cases ht
      | some l0=>rw [hg] at ht;exact (tz l0 (List.mem_of_getElem? hg)).2 t ht
     ·exact c2 t ht
 split at h
 ·split at h
  ·cases h
  ·rename_i i hi
   injection h with h;subst h
   have hlt:=held_lt hi
   have hg:s.rows.getD i ⟨0,0,0,0,0,0,0,0⟩ = s.rows[i]:=getD_of (List.getElem?_eq_getElem hlt)
   have hrb:=rb _ (List.getElem_mem hlt)
   refine ⟨rs,set_am rb ?_,pz,tz⟩
   rw [hg]
   refine ⟨?_,hrb.at_,hrb.bd,zz (by decide),zz (by decide),hrb.rc,hrb.rx⟩
   show 0 ≤ (if s.att ≤ (s.rows[i]).att then (4:Int) else 1) ∧ (if s.att ≤ (s.rows[i]).att then (4:Int) else 1) ≤ 4
   split <;> omega
 ·split at h
  ·cases h
  ·rename_i i hi
   split at h
   ·cases h
   ·injection h with h;subst h
    have hlt:=held_lt hi
    have hg:s.rows.getD i ⟨0,0,0,0,0,0,0,0⟩ = s.rows[i]:=getD_of (List.getElem?_eq_getElem hlt)
    have hrb:=rb _ (List.getElem_mem hlt)
    refine ⟨rs,set_am rb ?_,pz,tz⟩
    rw [hg]
    exact ⟨by show (0:Int) ≤ 3 ∧ (3:Int) ≤ 4;omega,hrb.at_,hrb.bd,zz (by decide),zz (by decide),c7,hx⟩
theorem applyG_good {s0:StP} (ok0:StOk s0) (bd0:StBd s0):∀ (l:List Ch) (s:StP) (i:Nat),StOk s → StBd s → (∀ c ∈ l,0 ≤ c.rbits ∧ c.rbits < 18446744073709551616) → StOk (applyG s0 s i l).2 ∧ StBd (applyG s0 s i l).2
 | [],s,i,ok,bd,_=>⟨ok,bd⟩
 | c :: l,s,i,ok,bd,hx=>by
  unfold applyG
  split
  ·exact ⟨ok0,bd0⟩
  ·rename_i hck
   split
   ·exact ⟨ok0,bd0⟩
   ·rename_i s' hs
    exact applyG_good ok0 bd0 l s' (i + 1) (stepF_ok ok hs) (stepF_bd ok bd (Classical.not_not.1 hck) (hx c (List.mem_cons_self ..)) hs) (fun d hd=>hx d (List.mem_cons_of_mem _ hd))
end Go.Proofs.YtaecdnfkcebbeaaGreat
