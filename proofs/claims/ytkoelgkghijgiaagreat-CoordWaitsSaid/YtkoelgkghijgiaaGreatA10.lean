import Derived.Test.YtkoelgkghijgiaaGreatA01
import Derived.Test.YtkoelgkghijgiaaGreatA04
import Derived.Test.YtkoelgkghijgiaaGreatA09
import Derived.Test.YtkoelgkghijgiaaGreatA05
import Derived.Test.YtkoelgkghijgiaaGreatA08
import Derived.Test.YtkoelgkghijgiaaGreatA07
set_option linter.unusedVariables false
set_option linter.unusedSimpArgs false
namespace Go.Proofs.YtkoelgkghijgiaaGreat
open Go Go.Sep Go.Proofs Go.Proofs.Tryz
set_option maxRecDepth 10000
set_option maxHeartbeats 40000000
set_option synthInstance.maxSize 2000
theorem step_submit (B0:Base) (c:Ch) (h:c.kind = 2):StepOk B0 c:=by
 intro sb s D a k hD ok hS
 obtain ⟨qb,rv,RG,pv,PG,lv,LG,ls,rfl,y1,y2,y3,y4,y5⟩:=hD
 obtain ⟨o1,o2,o3,o4,o5,o6,o7⟩:=id ok
 have e1:doesN c.kind = 239:=by rw [h];rfl
 have hs:stepF s c = (if c.job ≠ (s.progs.length:Nat) + 1 ∨ 8 ≤ s.rows.length then none else some { s with rows:=s.rows ++ [⟨(s.rows.length:Nat) + 1,1,0,0,0,0,0,0⟩],progs:=s.progs ++ [c.prog],logs:=s.logs ++ [[]] }):=by
  unfold stepF
  rw [if_neg (by omega),if_pos h]
 rw [e1,hs]
 obtain ⟨ra,rc,rfl⟩:=y1.form
 obtain ⟨pa,pc,rfl⟩:=y2.form
 obtain ⟨la,lc,rfl⟩:=Own.form y3
 have hlen:(ls.map Lg.row).length = s.logs.length:=by rw [← y5,List.length_map,List.length_map]
 rw [hlen] at y3 ⊢
 refine zqJ (vs:=[_,_]) func239 ntmps239 fun B hB=>?_
 by_cases hj:c.job = ((s.progs.length:Nat):Int) + 1
 case neg =>
  rw [if_pos (.inl hj)]
  repeat' (first|refine zs1 ?_|refine Ops.box rfl rfl rfl rfl (noPd rfl) (fun b=>?_))
  refine zdr [qz 0,qy 1,qz 2,qz 3,qz 4,qy 5,qy 6,qz 7,qz 8] ?_
  refine zg16 ?_
  exact ze68
 by_cases hf:8 ≤ s.rows.length
 ·rw [if_pos (.inr hf)]
  repeat' (first|refine zs1 ?_|refine Ops.box rfl rfl rfl rfl (noPd rfl) (fun b=>?_))
  refine zdr [qz 0,qy 1,qz 2,qz 3,qz 4,qy 5,qy 6,qz 7,qz 8] ?_
  refine zg13 ?_
  refine zqA (qsubmit_full qb s.att ra rc s.rows.length hf) fun v A' hR=>?_
  obtain ⟨rfl,rfl⟩:=hR
  refine zg4 ?_
  exact ze68
 rw [if_neg (by rintro (q|q);exact q hj;exact hf q)]
 repeat' (first|refine zs1 ?_|refine Ops.box rfl rfl rfl rfl (noPd rfl) (fun b=>?_))
 refine zdr [qz 0,qy 1,qz 2,qz 3,qz 4,qy 5,qy 6,qz 7,qz 8] ?_
 refine zg13 ?_
 refine zqA (qsubmit_spec qb s.att ra rc s.rows RG y1 (by omega)) fun v A' hR=>?_
 obtain ⟨rfl,rv1,RG1,rfl,hQ1⟩:=hR
 refine zg4 ?_
 refine zdr [qz 0,qz 1,qz 2,qz 3,qy 4,qz 5,qy 6,(7,2,[4]),(8,2,[]),qz 9,qz 10,(11,2,[])] ?_
 repeat' (first|refine zs3 ?_|refine Ops.bs1 rfl rfl rfl rfl rfl rfl rfl zp3 (fun b=>?_))
 refine Ops.app1 (rows:=s.progs.map trow) y2 (by simp only [List.length_map];omega) (by simp only [List.length_map];omega) rfl rfl rfl rfl (by rfl) (by rfl) rfl (noPd rfl) rfl (fun v G' hG'=>?_)
 have hP1:OwnT v (s.progs ++ [c.prog]) G':=by
  unfold OwnT
  rw [List.map_append]
  exact hG'
 clear hG'
 obtain ⟨pa1,pc1,rfl⟩:=hP1.form
 rename List Blk=>PG1
 repeat' (first|refine zs9 ?_|refine Ops.bs1 rfl rfl rfl rfl rfl rfl rfl zp3 (fun b=>?_))
 refine Ops.app1 (rows:=ls.map Lg.row) y3 (by rw [hlen];omega) (by rw [hlen];omega) rfl rfl rfl rfl (by rfl) (by rfl) rfl (noPd rfl) rfl (fun v G' hG'=>?_)
 have hL1:Own 60 1 v ((ls ++ [(⟨none,0,[],[]⟩:Lg)]).map Lg.row) G':=by
  rw [List.map_append]
  exact hG'
 clear hG'
 obtain ⟨la1,lc1,rfl⟩:=Own.form hL1
 refine zg1 ?_
 refine Cd.ret (ret1 (A':=StB sb qb s.res (.slice pa1 (s.progs ++ [c.prog]).length pc1) (.slice la1 ((ls ++ [(⟨none,0,[],[]⟩:Lg)]).map Lg.row).length lc1) :: QuB qb s.att rv1 :: (RG1 ++ (PG1 ++ (G' ++ ls.flatMap Lg.G)))) rfl (Res.tmp rfl) (fun _ h=>h.split) ⟨rfl,qb,rv1,RG1,_,PG1,_,G',ls ++ [(⟨none,0,[],[]⟩:Lg)],?_,hQ1,hP1,hL1,fun x hx=>?_,?_⟩)
 ·simp
 ·rcases List.mem_append.1 hx with hx|hx
  ·exact y4 x hx
  ·rw [List.mem_singleton] at hx
   subst hx
   exact Own.none
 ·show (ls ++ [(⟨none,0,[],[]⟩:Lg)]).map Lg.txs = s.logs ++ [[]]
  rw [List.map_append,y5];rfl
theorem own_setL {ls:List Lg} {n g c i:Nat} {sp:List Value} {q:Lg} (h:Own 60 1 (.slice (some ⟨g,0,none⟩) n c) (ls.map Lg.row) [(g,cl ((ls.map Lg.row).flatten ++ sp) 60)]):Own 60 1 (.slice (some ⟨g,0,none⟩) n c) ((ls.set i q).map Lg.row) [(g,cl (((ls.set i q).map Lg.row).flatten ++ sp) 60)]:=by
 refine ⟨lgs_ok _,.inr ⟨g,c,sp,?_,rfl,?_,?_⟩⟩
 ·rcases h.2 with ⟨h1,_⟩|⟨g',c',sp',h1,_⟩
  ·cases h1
  ·injection h1 with _ h2 _
   rw [h2,List.length_map,List.length_map,List.length_set]
 ·rcases h.2 with ⟨h1,_⟩|⟨g',c',sp',h1,h2,h3,_⟩
  ·cases h1
  ·injection h1 with e1 e2 e3
   subst e3
   have e4:sp'.length = sp.length:=by
    injection h2 with h2 _
    injection h2 with _ h2
    have:=congrArg (fun o:Obj=>match o with|.cells a _ _=>a.size|_=>0) h2
    simpa [cl] using this.symm
   rw [(lgs_ok ls).len] at h3
   rw [(lgs_ok _).len]
   simp only [List.length_map,List.length_set] at h3 ⊢
   omega
 ·rcases h.2 with ⟨h1,_⟩|⟨g',c',sp',h1,_,_,h4⟩
  ·cases h1
  ·injection h1 with e1 e2 e3
   subst e3
   simpa using h4
theorem lset {ls:List Lg} {i:Nat} {q:Lg}:(ls.map Lg.row).set i q.row = (ls.set i q).map Lg.row:=List.map_set.symm
theorem flat_take:∀ {ls:List Lg} {i:Nat} {x e:Lg},ls[i]? = some x → e.G = [] → (ls.flatMap Lg.G).Perm (x.G ++ (ls.set i e).flatMap Lg.G)
 | [],i,x,e,h,_=>by simp at h
 | y :: ls,0,x,e,h,he=>by
  simp only [List.getElem?_cons_zero,Option.some.injEq] at h
  subst h
  simp [he]
 | y :: ls,i + 1,x,e,h,he=>by
  simp only [List.getElem?_cons_succ] at h
  rw [List.set_cons_succ,List.flatMap_cons,List.flatMap_cons]
  refine ((flat_take h he).append_left y.G).trans ?_
  rw [← List.append_assoc,← List.append_assoc]
  exact List.perm_append_comm.append_right _
theorem sat_drop {B:Base} {X g r:List Blk} {w:World} (h:Sat B (X ++ (g ++ r)) w):Sat B (X ++ r) w:=by
 have h2:=h.perm (List.Perm.append_left X List.perm_append_comm)
 rw [← List.append_assoc] at h2
 exact h2.left
theorem check_more {c:Ch} (h:checkF c = 0):(0 ≤ c.slot ∧ c.slot ≤ 7) ∧ c.txs.length ≤ 8 ∧ c.job ≤ 8:=by
 unfold checkF at h
 split at h
 ·cases h
 ·split at h
  ·rename_i hall
   simp only [Bool.and_eq_true] at hall
   obtain ⟨_,h2,_,_,h5,h6,_⟩:=hall
   have h2:=rgt_true h2
   have h5:=rgt_true h5
   have h6:=rgt_true h6
   simp only [decide_eq_true_eq,Bool.and_eq_true] at h2 h5 h6
   refine ⟨by omega,?_,by omega⟩
   rcases h6 with h6|h6
   ·unfold textsF at h6
    simp only [Bool.and_eq_true,decide_eq_true_eq] at h6
    omega
   ·omega
  ·cases h
theorem step_grant (B0:Base) (c:Ch) (h:c.kind = 3) (hck:checkF c = 0) (hx:0 ≤ c.rbits ∧ c.rbits < 18446744073709551616):StepOk B0 c:=by
 intro sb s D a k hD ok hS
 obtain ⟨qb,rv,RG,pv,PG,lv,LG,ls,rfl,y1,y2,y3,y4,y5⟩:=hD
 obtain ⟨o1,o2,o3,o4,o5,o6,o7⟩:=id ok
 obtain ⟨hsl,_,hj8⟩:=check_more hck
 have e1:doesN c.kind = 240:=by rw [h];rfl
 have hs:stepF s c = (if s.res < c.badge then none else match (if 1 ≤ c.job then s.rows[(c.job - 1).toNat]? else none) with
  | none=>none
  | some r=>if r.status ≠ 1 ∨ ¬ (1 ≤ c.badge ∧ c.badge ≤ 1099511627776) ∨ s.rows.any (fun q=>decide (c.badge ≤ q.badge)) ∨ ¬ holderOk (2 + c.slot) c.life then none
   else some { s with rows:=s.rows.set (c.job - 1).toNat (r.give c.badge (2 + c.slot) c.life),logs:=s.logs.set (c.job - 1).toNat [] }):=by
  unfold stepF
  rw [if_neg (by omega),if_neg (by omega),if_pos h]
  rfl
 rw [e1,hs]
 obtain ⟨ra,rc,rfl⟩:=y1.form
 obtain ⟨pa,pc,rfl⟩:=y2.form
 obtain ⟨la,lc,rfl⟩:=Own.form y3
 have hlen:(ls.map Lg.row).length = s.logs.length:=by rw [← y5,List.length_map,List.length_map]
 rw [hlen] at y3 ⊢
 refine zqJ (vs:=[_,_]) func240 ntmps240 fun B hB=>?_
 by_cases hb:s.res < c.badge
 ·rw [if_pos hb]
  repeat' (first|refine zs1 ?_|refine Ops.box rfl rfl rfl rfl (noPd rfl) (fun b=>?_))
  refine zdr [qz 0,qy 1,qz 2,qz 3,qz 4,qy 5,qz 6,qz 7,qz 8,qz 9,qz 10,qz 11,qy 12,qz 13,qy 14,qz 15,qy 16,qz 17,qy 18,qz 19,qz 20,qy 21,qz 22,(23,2,[]),qz 24,qz 25] ?_
  refine zg18 ?_
  exact ze68
 rw [if_neg hb]
 by_cases hj:1 ≤ c.job ∧ c.job ≤ s.rows.length
 case neg =>
  have hno:(if 1 ≤ c.job then s.rows[(c.job - 1).toNat]? else none) = none:=by
   split
   ·rw [List.getElem?_eq_none_iff];omega
   ·rfl
  rw [hno]
  repeat' (first|refine zs1 ?_|refine Ops.box rfl rfl rfl rfl (noPd rfl) (fun b=>?_))
  refine zdr [qz 0,qy 1,qz 2,qz 3,qz 4,qy 5,qz 6,qz 7,qz 8,qz 9,qz 10,qz 11,qy 12,qz 13,qy 14,qz 15,qy 16,qz 17,qy 18,qz 19,qz 20,qy 21,qz 22,(23,2,[]),qz 24,qz 25] ?_
  refine zg12 ?_
  refine zqB (grant_range B0 qb s.att ra rc s.rows.length c.job c.badge (2 + c.slot) c.life o3 hj) hB fun v A' hR=>?_
  obtain ⟨rfl,rfl⟩:=hR
  refine zg7 ?_
  exact ze68
 have hi:(c.job - 1).toNat < s.rows.length:=by omega
 obtain ⟨r,hr⟩:∃ r,s.rows[(c.job - 1).toNat]? = some r:=⟨_,List.getElem?_eq_getElem hi⟩
 obtain ⟨m1,m2,m3⟩:=ok.am r (List.mem_of_getElem? hr)
 rw [if_pos hj.1,hr]
 dsimp only
 obtain ⟨g,c',sp,hsv,rfl,hsp,hle⟩:=Own.some_ y1 (by rw [List.length_map];omega)
 injection hsv with q1 q2 q3
 subst q1
 repeat' (first|refine zs1 ?_|refine Ops.box rfl rfl rfl rfl (noPd rfl) (fun b=>?_))
 refine zdr [qz 0,qy 1,qz 2,qz 3,qz 4,qy 5,qz 6,qz 7,qz 8,qz 9,qz 10,qz 11,qy 12,qz 13,qy 14,qz 15,qy 16,qz 17,qy 18,qz 19,qz 20,qy 21,qz 22,(23,2,[]),qz 24,qz 25] ?_
 refine zg12 ?_
 refine zqB (grant_spec B0 qb s.att g rc sp s.rows y1 o3 c.job c.badge (2 + c.slot) c.life hj r hr ⟨m1,by omega⟩) hB fun v A' hR=>?_
 rcases hR with ⟨hno,⟨e,he,rfl⟩,rfl⟩|⟨t1,t2,t3,rfl,rfl⟩
 ·rw [if_pos (by
   rcases hno with q|q|q
   ·exact .inl q
   ·unfold badgeOk at q
    by_cases q1:1 ≤ c.badge ∧ c.badge ≤ 1099511627776
    ·refine .inr (.inr (.inl ?_))
     cases q2:s.rows.any (fun q=>decide (c.badge ≤ q.badge)) with
     | true=>rfl
     | false=>exact absurd ⟨q1,q2⟩ q
    ·exact .inr (.inl q1)
   ·exact .inr (.inr (.inr (by rw [q];simp))))]
  refine zg8 ?_
  exact Cd.ret (ret1 (A':=StB sb qb s.res (.slice pa s.progs.length pc) (.slice la s.logs.length lc) :: QuB qb s.att (.slice (some ⟨g,0,none⟩) s.rows.length rc) :: ([(g,cl ((s.rows.map Rw.row).flatten ++ sp) 62)] ++ (PG ++ (LG ++ ls.flatMap Lg.G)))) rfl (Res.tmp rfl) (fun _ h=>h.split) ⟨rfl,qb,_,_,_,PG,_,LG,ls,rfl,y1,y2,y3,y4,y5⟩)
 ·rw [if_neg (by
   rintro (q|q|q|q)
   ·exact q t1
   ·exact q t2.1
   ·rw [t2.2] at q;cases q
   ·exact q t3)]
  obtain ⟨lg,lc',lsp,hlv,rfl,hlsp,hlle⟩:=Own.some_ y3 (by rw [hlen];omega)
  injection hlv with w1 w2 w3
  subst w1
  have hil:(c.job - 1).toNat < ls.length:=by rw [List.length_map] at hlen;omega
  obtain ⟨x,hx2⟩:∃ x,ls[(c.job - 1).toNat]? = some x:=⟨_,List.getElem?_eq_getElem hil⟩
  have hlt':c.job - 1 < ((s.logs.length:Nat):Int):=by omega
  have hxr:(ls.map Lg.row)[(c.job - 1).toNat]? = some x.row:=by rw [List.getElem?_map,hx2];rfl
  refine zg7 ?_
  refine zdr [qz 0,qz 1,qz 2,qy 3,qz 4,qy 5,qz 6,qz 7,(8,2,[])] ?_
  refine zg10 ?_
  refine Ops.stRow1 (i:=(c.job - 1).toNat) (o:=0) rfl rfl rfl rfl rfl (lgs_ok ls) hxr rfl (noPd rfl) ?_
  rw [show (ls.map Lg.row).set (c.job - 1).toNat (x.row.set 0 (.slice none 0 0)) = (ls.set (c.job - 1).toNat (⟨none,0,[],[]⟩:Lg)).map Lg.row from lset (q:=⟨none,0,[],[]⟩)]
  refine zg1 ?_
  refine Cd.ret (ret1 (A':=StB sb qb s.res (.slice pa s.progs.length pc) (.slice (some ⟨lg,0,none⟩) s.logs.length lc) :: QuB qb s.att (.slice (some ⟨g,0,none⟩) s.rows.length rc) :: ([(g,cl (((s.rows.set (c.job - 1).toNat (r.give c.badge (2 + c.slot) c.life)).map Rw.row).flatten ++ sp) 62)] ++ (PG ++ ([(lg,cl (((ls.set (c.job - 1).toNat (⟨none,0,[],[]⟩:Lg)).map Lg.row).flatten ++ lsp) 60)] ++ (ls.set (c.job - 1).toNat (⟨none,0,[],[]⟩:Lg)).flatMap Lg.G)))) rfl (Res.tmp rfl) (fun w h=>?_) ⟨rfl,qb,_,_,_,PG,_,_,ls.set (c.job - 1).toNat (⟨none,0,[],[]⟩:Lg),rfl,own_set y1,y2,own_setL y3,fun z hz=>?_,?_⟩)
  ·have h2:Sat _ ((StB sb qb s.res (.slice pa s.progs.length pc) (.slice (some ⟨lg,0,none⟩) s.logs.length lc) :: QuB qb s.att (.slice (some ⟨g,0,none⟩) s.rows.length rc) :: ([(g,cl (((s.rows.set (c.job - 1).toNat (r.give c.badge (2 + c.slot) c.life)).map Rw.row).flatten ++ sp) 62)] ++ (PG ++ ([(lg,cl (((ls.set (c.job - 1).toNat (⟨none,0,[],[]⟩:Lg)).map Lg.row).flatten ++ lsp) 60)] ++ ls.flatMap Lg.G))))) w:=h.split
   have h3:=sat_drop (X:=StB sb qb s.res (.slice pa s.progs.length pc) (.slice (some ⟨lg,0,none⟩) s.logs.length lc) :: QuB qb s.att (.slice (some ⟨g,0,none⟩) s.rows.length rc) :: ([(g,cl (((s.rows.set (c.job - 1).toNat (r.give c.badge (2 + c.slot) c.life)).map Rw.row).flatten ++ sp) 62)] ++ (PG ++ [(lg,cl (((ls.set (c.job - 1).toNat (⟨none,0,[],[]⟩:Lg)).map Lg.row).flatten ++ lsp) 60)]))) (g:=x.G) (r:=(ls.set (c.job - 1).toNat (⟨none,0,[],[]⟩:Lg)).flatMap Lg.G) (w:=w) (B:=B.plain) (by
    refine h2.perm ?_
    simp only [List.cons_append,List.append_assoc,List.nil_append]
    refine List.Perm.cons _ (List.Perm.cons _ (List.Perm.cons _ (List.Perm.append_left _ (List.Perm.cons _ (flat_take hx2 rfl)))))
    )
   simpa only [List.cons_append,List.append_assoc,List.nil_append] using h3
  ·rcases List.mem_or_eq_of_mem_set hz with hz|rfl
   ·exact y4 z hz
   ·exact Own.none
  ·show (ls.set (c.job - 1).toNat (⟨none,0,[],[]⟩:Lg)).map Lg.txs = s.logs.set (c.job - 1).toNat []
   rw [List.map_set,y5]
theorem SIn.rin {B:Base} {a:Option Addr} {l:List ByteArray} (h:SIn B a l):RIn 1 B a (l.map trow):=fun i r hr=>by
 rw [List.getElem?_map] at hr
 cases hl:l[i]? with
 | none=>rw [hl] at hr;cases hr
 | some t =>
  rw [hl] at hr
  injection hr with hr
  subst hr
  obtain ⟨b,off,ha,hr⟩:=h i t hl
  refine ⟨b,off,ha,fun A j u hu=>?_⟩
  cases j with
  | zero=>injection hu with hu;subst hu;simpa using hr A
  | succ j=>cases hu
theorem qfind_own (B0:Base) (qb:Nat) (att:Int) (a:Option Addr) (c:Nat) (rows:List Rw) (RG:List Blk) (hO:OwnQ (.slice a rows.length c) rows RG) (badge:Int) (hl:rows.length ≤ 8) :
  ConB prog B0 262 #[ptr qb,.int .i64 badge] (QuB qb att (.slice a rows.length c) :: RG) fun v A=>v = .tuple #[.agg ((findF18 rows badge).getD Rw.zero).row.toArray,.bool (findF18 rows badge).isSome] ∧ A = QuB qb att (.slice a rows.length c) :: RG :=
 (ConB.lend (A1:=[]) fun B1 e hG=>qfind_spec B1 qb att a c rows badge hl (hG.sub fun p hp=>by rw [List.mem_singleton] at hp;subst hp;exact List.mem_cons_self ..) (Own.rin hO (hG.sub fun p hp=>List.mem_cons_of_mem _ hp))).mono fun v A hR=>by
  obtain ⟨A',⟨rfl,rfl⟩,rfl⟩:=hR
  exact ⟨rfl,rfl⟩
theorem step_log (B0:Base) (c:Ch) (h:c.kind = 4) (hck:checkF c = 0):StepOk B0 c:=by
 intro sb s D a k hD ok hS
 obtain ⟨qb,rv,RG,pv,PG,lv,LG,ls,rfl,y1,y2,y3,y4,y5⟩:=hD
 obtain ⟨o1,o2,o3,o4,o5,o6,o7⟩:=id ok
 obtain ⟨_,ht8,_⟩:=check_more hck
 have e1:doesN c.kind = 241:=by rw [h];rfl
 have hs:stepF s c = (match lastAt s.rows c.badge with
  | none=>none
  | some i=>if (s.rows.getD i ⟨0,0,0,0,0,0,0,0⟩).status ≠ 2 ∨ 32 < (s.logs.getD i []).length + c.txs.length then none else some { s with logs:=s.logs.set i (s.logs.getD i [] ++ c.txs) }):=by
  unfold stepF
  rw [if_neg (by omega),if_neg (by omega),if_neg (by omega),if_pos h]
  try rfl
 rw [e1,hs]
 obtain ⟨ra,rc,rfl⟩:=y1.form
 obtain ⟨pa,pc,rfl⟩:=y2.form
 obtain ⟨la,lc,rfl⟩:=Own.form y3
 have hlen:(ls.map Lg.row).length = s.logs.length:=by rw [← y5,List.length_map,List.length_map]
 rw [hlen] at y3 ⊢
 cases hla:lastAt s.rows c.badge with
 | none =>
  have hf:findF18 s.rows c.badge = none:=by unfold findF18;rw [hla];rfl
  dsimp only
  refine zqJ (vs:=[_,_]) func241 ntmps241 fun B hB=>?_
  generalize hc1:Code.seq (Code.region 1 _ _) _ = c1
  repeat' (first|refine zs0 ?_|refine Ops.box rfl rfl rfl rfl (noPd rfl) (fun b=>?_))
  rename Nat=>cb
  subst hc1
  refine Cd.cut (σ:=Nat) (fun _=>True) (fun rb=>[(0,ptr sb),(3,ptr cb),(4,.bool false),(5,ptr rb),(6,.bool false)]) (fun rb=>(rb,cl Rw.zero.row 62) :: (cb,cl (c.row a k) 103) :: StB sb qb s.res (.slice pa s.progs.length pc) (.slice la s.logs.length lc) :: QuB qb s.att (.slice ra s.rows.length rc) :: (RG ++ (PG ++ (LG ++ ls.flatMap Lg.G)))) ?_ (fun rb _=>?_)
  ·refine zdr [qz 0,qz 1,qz 2,qz 3,qy 4,qz 5,qy 6,(7,4,[]),qz 8,qz 9,qz 10,(11,2,[]),(12,2,[]),qz 13] ?_
   refine zg5 ?_
   refine Ops.fork' [(0,0,[]),(1,0,[]),(2,0,[]),(3,0,[]),(4,1,[]),(5,0,[]),(6,1,[]),(11,4,[4,6]),(7,2,[]),(8,0,[]),(9,0,[]),(10,0,[]),(12,2,[]),(13,0,[])] (by kernel_rfl) rfl (by simp only [picked,nth];exact rfl) ?_ ?_
   ·skip
    refine zqB (qfind_own B0 qb s.att ra rc s.rows RG y1 c.badge o3) hB fun v A' hR=>?_
    rw [hf] at hR
    dsimp only [Option.getD_none,Option.isSome_none] at hR
    obtain ⟨rfl,rfl⟩:=hR
    repeat' (first|refine zs6 ?_|refine Ops.alloc rfl rfl rfl zp3 (fun b=>?_))
    rename Nat=>rb
    exact ze69
   ·repeat' (first|refine Ops.alloc rfl rfl rfl zp3 (fun b=>?_))
    rename Nat=>rb
    refine zqB (qfind_own B0 qb s.att ra rc s.rows RG y1 c.badge o3) hB fun v A' hR=>?_
    rw [hf] at hR
    dsimp only [Option.getD_none,Option.isSome_none] at hR
    obtain ⟨rfl,rfl⟩:=hR
    refine zg19 ?_
    exact ze69
  refine zg0 ?_
  refine zdr [qz 0,qz 1,qz 2,qz 3,qy 4,qz 5,qz 6,qz 7,qz 8,qz 9,qz 10,qy 11,qz 12,qy 13,qz 14,qz 15,qy 16,qy 17,qz 18,qy 19,qy 20,qz 21,qz 22,qz 23] ?_
  refine zg7 ?_
  exact ze68
 | some i =>
  have hi:=lastAt_lt hla
  obtain ⟨r,hr⟩:∃ r,s.rows[i]? = some r:=⟨_,List.getElem?_eq_getElem hi⟩
  have hf:findF18 s.rows c.badge = some r:=by unfold findF18;rw [hla];exact hr
  have hjb:=o7 i r hr
  have hil:i < ls.length:=by rw [List.length_map] at hlen;omega
  obtain ⟨x,hx2⟩:∃ x,ls[i]? = some x:=⟨_,List.getElem?_eq_getElem hil⟩
  have hxt:s.logs.getD i [] = x.txs:=by
   rw [List.getD_eq_getElem?_getD,← y5,List.getElem?_map,hx2];rfl
  have hx32:x.txs.length ≤ 32:=o6 _ (by rw [← y5];exact List.mem_map_of_mem (List.mem_of_getElem? hx2))
  have hXO:=y4 x (List.mem_of_getElem? hx2)
  obtain ⟨lg,lc',lsp,hlv,rfl,hlsp,hlle⟩:=Own.some_ y3 (by rw [hlen];omega)
  injection hlv with w1 w2 w3
  subst w1
  have hji:(r.job - 1).toNat = i:=by omega
  have hxr:(ls.map Lg.row)[(r.job - 1).toNat]? = some x.row:=by rw [hji,List.getElem?_map,hx2];rfl
  have hokL:=lgs_ok ls
  have hj0:0 ≤ r.job - 1:=by omega
  have hj1:r.job - 1 < ((s.logs.length:Nat):Int):=by omega
  dsimp only
  rw [getD_of hr,hxt]
  refine ConB.permIn (A:=StB sb qb s.res (.slice pa s.progs.length pc) (.slice (some ⟨lg,0,none⟩) s.logs.length lc) :: QuB qb s.att (.slice ra s.rows.length rc) :: (RG ++ (PG ++ ([(lg,cl ((ls.map Lg.row).flatten ++ lsp) 60)] ++ (x.G ++ (ls.set i (⟨none,0,[],[]⟩:Lg)).flatMap Lg.G))))) ?_ (by
   refine List.Perm.cons _ (List.Perm.cons _ (List.Perm.append_left _ (List.Perm.append_left _ (List.Perm.append_left _ (flat_take hx2 rfl)))))
   )
  have hperm:∀ y:Lg,((ls.set i y).flatMap Lg.G).Perm (y.G ++ (ls.set i (⟨none,0,[],[]⟩:Lg)).flatMap Lg.G):=fun y=>by
   have:=flat_take (ls:=ls.set i y) (i:=i) (x:=y) (e:=⟨none,0,[],[]⟩) (List.getElem?_set_self hil) rfl
   rwa [List.set_set] at this
  have hp0:=flat_take hx2 (e:=(⟨none,0,[],[]⟩:Lg)) rfl
  generalize (ls.set i (⟨none,0,[],[]⟩:Lg)).flatMap Lg.G = REST at hperm hp0 ⊢
  obtain ⟨xa,xc,xt,XG⟩:=x
  dsimp only at hXO hx32 hxr hxt hp0 ⊢
  have hxr:(ls.map Lg.row)[(r.job - 1).toNat]? = some [.slice xa xt.length xc]:=hxr
  have h9:(xt.length:Int) + (c.txs.length:Int) ≤ 40:=by omega
  refine zqJ (vs:=[_,_]) func241 ntmps241 fun B hB=>?_
  generalize hc1:Code.seq (Code.region 1 _ _) _ = c1
  repeat' (first|refine zs0 ?_|refine Ops.box rfl rfl rfl rfl (noPd rfl) (fun b=>?_))
  rename Nat=>cb
  subst hc1
  refine Cd.cut (σ:=Nat) (fun _=>True) (fun rb=>[(0,ptr sb),(3,ptr cb),(4,.bool false),(5,ptr rb),(6,.bool true)]) (fun rb=>(rb,cl r.row 62) :: (cb,cl (c.row a k) 103) :: StB sb qb s.res (.slice pa s.progs.length pc) (.slice (some ⟨lg,0,none⟩) s.logs.length lc) :: QuB qb s.att (.slice ra s.rows.length rc) :: (RG ++ (PG ++ ([(lg,cl ((ls.map Lg.row).flatten ++ lsp) 60)] ++ (XG ++ REST))))) ?_ (fun rb _=>?_)
  ·refine zdr [qz 0,qz 1,qz 2,qz 3,qy 4,qz 5,qy 6,(7,4,[]),qz 8,qz 9,qz 10,(11,2,[]),(12,2,[]),qz 13] ?_
   refine zg5 ?_
   refine Ops.fork' [(0,0,[]),(1,0,[]),(2,0,[]),(3,0,[]),(4,1,[]),(5,0,[]),(6,1,[]),(11,4,[4,6]),(7,2,[]),(8,0,[]),(9,0,[]),(10,0,[]),(12,2,[]),(13,0,[])] (by kernel_rfl) rfl (by simp only [picked,nth];exact rfl) ?_ ?_
   ·skip
    refine zqB (qfind_own B0 qb s.att ra rc s.rows RG y1 c.badge o3) hB fun v A' hR=>?_
    rw [hf] at hR
    dsimp only [Option.getD_some,Option.isSome_some] at hR
    obtain ⟨rfl,rfl⟩:=hR
    repeat' (first|refine zs6 ?_|refine Ops.alloc rfl rfl rfl zp3 (fun b=>?_))
    rename Nat=>rb
    exact ze69
   ·repeat' (first|refine Ops.alloc rfl rfl rfl zp3 (fun b=>?_))
    rename Nat=>rb
    refine zqB (qfind_own B0 qb s.att ra rc s.rows RG y1 c.badge o3) hB fun v A' hR=>?_
    rw [hf] at hR
    dsimp only [Option.getD_some,Option.isSome_some] at hR
    obtain ⟨rfl,rfl⟩:=hR
    refine zg19 ?_
    exact ze69
  by_cases hst:r.status = 2
  case neg =>
   rw [if_pos (.inl hst)]
   refine zg0 ?_
   refine zdr [qz 0,qz 1,qz 2,qz 3,qy 4,qz 5,qz 6,qz 7,qz 8,qz 9,qz 10,qy 11,qz 12,qy 13,qz 14,qz 15,qy 16,qy 17,qz 18,qy 19,qy 20,qz 21,qz 22,qz 23] ?_
   refine zg18 ?_
   refine Cd.ret (ret1 (A':=StB sb qb s.res (.slice pa s.progs.length pc) (.slice (some ⟨lg,0,none⟩) s.logs.length lc) :: QuB qb s.att (.slice ra s.rows.length rc) :: (RG ++ (PG ++ ([(lg,cl ((ls.map Lg.row).flatten ++ lsp) 60)] ++ ls.flatMap Lg.G)))) rfl (Res.tmp rfl) (fun w h=>?_) ⟨rfl,qb,_,RG,_,PG,_,_,ls,rfl,y1,y2,y3,y4,y5⟩)
   have h2:Sat _ (StB sb qb s.res (.slice pa s.progs.length pc) (.slice (some ⟨lg,0,none⟩) s.logs.length lc) :: QuB qb s.att (.slice ra s.rows.length rc) :: (RG ++ (PG ++ ([(lg,cl ((ls.map Lg.row).flatten ++ lsp) 60)] ++ (XG ++ REST))))) w:=h.split
   exact h2.perm (List.Perm.cons _ (List.Perm.cons _ (List.Perm.append_left _ (List.Perm.append_left _ (List.Perm.append_left _ hp0.symm)))))
  by_cases h32:32 < xt.length + c.txs.length
  ·rw [if_pos (.inr h32)]
   refine zg0 ?_
   refine zdr [qz 0,qz 1,qz 2,qz 3,qy 4,qz 5,qz 6,qz 7,qz 8,qz 9,qz 10,qy 11,qz 12,qy 13,qz 14,qz 15,qy 16,qy 17,qz 18,qy 19,qy 20,qz 21,qz 22,qz 23] ?_
   refine zg10 ?_
   refine Cd.ret (ret1 (A':=StB sb qb s.res (.slice pa s.progs.length pc) (.slice (some ⟨lg,0,none⟩) s.logs.length lc) :: QuB qb s.att (.slice ra s.rows.length rc) :: (RG ++ (PG ++ ([(lg,cl ((ls.map Lg.row).flatten ++ lsp) 60)] ++ ls.flatMap Lg.G)))) rfl (Res.tmp rfl) (fun w h=>?_) ⟨rfl,qb,_,RG,_,PG,_,_,ls,rfl,y1,y2,y3,y4,y5⟩)
   have h2:Sat _ (StB sb qb s.res (.slice pa s.progs.length pc) (.slice (some ⟨lg,0,none⟩) s.logs.length lc) :: QuB qb s.att (.slice ra s.rows.length rc) :: (RG ++ (PG ++ ([(lg,cl ((ls.map Lg.row).flatten ++ lsp) 60)] ++ (XG ++ REST))))) w:=h.split
   exact h2.perm (List.Perm.cons _ (List.Perm.cons _ (List.Perm.append_left _ (List.Perm.append_left _ (List.Perm.append_left _ hp0.symm)))))
  rw [if_neg (by rintro (q|q);exact q hst;exact h32 q)]
  have h32':¬ (32:Int) < ((xt.length:Nat):Int) + ((c.txs.length:Nat):Int):=by omega
  refine zg0 ?_
  refine zdr [qz 0,qz 1,qz 2,qz 3,qy 4,qz 5,qz 6,qz 7,qz 8,qz 9,qz 10,qy 11,qz 12,qy 13,qz 14,qz 15,qy 16,qy 17,qz 18,qy 19,qy 20,qz 21,qz 22,qz 23] ?_
  refine zg10 ?_
  refine zdr [qz 0,qz 1,qz 2,qy 3,qz 4,qy 5,qz 6,qz 7,qz 8,qz 9,qy 10,qz 11,qy 12,qz 13,qz 14,qy 15,qz 16,qy 17,(18,2,[3,5]),qz 19,(20,2,[])] ?_
  refine zg14 ?_
  refine Ops.appS (rows:=xt.map trow) (news:=c.txs.map trow) hXO ((by simpa using ((hS.rin).ext hB).reads (trows_ok c.txs) (by decide) k _):Reads _ _ _ 1 (.slice a c.txs.length k) _) (by simp only [List.length_map];omega) (by simp only [List.length_map];omega) rfl rfl rfl rfl rfl zp12 rfl (fun v G' hG'=>?_)
  rw [← List.map_append] at hG'
  have hG2:OwnT v (xt ++ c.txs) G':=hG'
  clear hG'
  obtain ⟨xa1,xc1,rfl⟩:=hG2.form
  refine zg14 ?_
  refine Ops.stRow1 (i:=(r.job - 1).toNat) (o:=0) rfl rfl rfl rfl rfl hokL hxr rfl (noPd rfl) ?_
  rw [show (ls.map Lg.row).set (r.job - 1).toNat (([.slice xa xt.length xc]:List Value).set 0 (.slice xa1 (xt ++ c.txs).length xc1)) = (ls.set (r.job - 1).toNat (⟨xa1,xc1,xt ++ c.txs,G'⟩:Lg)).map Lg.row from lset (q:=⟨xa1,xc1,xt ++ c.txs,G'⟩),hji]
  refine zg1 ?_
  refine Cd.ret (ret1 (A':=StB sb qb s.res (.slice pa s.progs.length pc) (.slice (some ⟨lg,0,none⟩) s.logs.length lc) :: QuB qb s.att (.slice ra s.rows.length rc) :: (RG ++ (PG ++ ([(lg,cl (((ls.set i (⟨xa1,xc1,xt ++ c.txs,G'⟩:Lg)).map Lg.row).flatten ++ lsp) 60)] ++ (ls.set i (⟨xa1,xc1,xt ++ c.txs,G'⟩:Lg)).flatMap Lg.G)))) rfl (Res.tmp rfl) (fun w h=>?_) ⟨rfl,qb,_,RG,_,PG,_,_,ls.set i (⟨xa1,xc1,xt ++ c.txs,G'⟩:Lg),rfl,y1,y2,own_setL y3,fun z hz=>?_,?_⟩)
  ·have h2:Sat _ (StB sb qb s.res (.slice pa s.progs.length pc) (.slice (some ⟨lg,0,none⟩) s.logs.length lc) :: QuB qb s.att (.slice ra s.rows.length rc) :: (RG ++ (PG ++ ([(lg,cl (((ls.set i (⟨xa1,xc1,xt ++ c.txs,G'⟩:Lg)).map Lg.row).flatten ++ lsp) 60)] ++ (G' ++ REST))))) w:=h.split
   exact h2.perm (List.Perm.cons _ (List.Perm.cons _ (List.Perm.append_left _ (List.Perm.append_left _ (List.Perm.append_left _ (hperm ⟨xa1,xc1,xt ++ c.txs,G'⟩).symm)))))
  ·rcases List.mem_or_eq_of_mem_set hz with hz|rfl
   ·exact y4 z hz
   ·exact hG2
  ·show (ls.set i (⟨xa1,xc1,xt ++ c.txs,G'⟩:Lg)).map Lg.txs = s.logs.set i (xt ++ c.txs)
   rw [List.map_set,y5]
theorem step_all (B0:Base) (c:Ch) (hx:0 ≤ c.rbits ∧ c.rbits < 18446744073709551616) (hck:checkF c = 0):StepOk B0 c:=by
 rcases kind6 (check_kind hck) with h|h|h|h|h|h
 ·exact step_reserve B0 c h
 ·exact step_submit B0 c h
 ·exact step_grant B0 c h hck hx
 ·exact step_log B0 c h hck
 ·exact step_expire B0 c h
 ·exact step_settle B0 c h
end Go.Proofs.YtkoelgkghijgiaaGreat
namespace Go.Proofs.YtkoelgkghijgiaaGreat
open Go Go.Sep Go.Proofs
set_option maxRecDepth 10000
structure RwBd (r:Rw):Prop where
 st:0 ≤ r.status ∧ r.status ≤ 4
 at_:0 ≤ r.att ∧ r.att ≤ 8
 bd:0 ≤ r.badge ∧ r.badge ≤ 1099511627776
 nd:0 ≤ r.node ∧ r.node ≤ 9
 lf:0 ≤ r.life ∧ r.life ≤ 1099511627776
 rc:0 ≤ r.rcode ∧ r.rcode ≤ 7
 rx:0 ≤ r.rbits ∧ r.rbits < 18446744073709551616
structure StBd (s:StP):Prop where
 rs:0 ≤ s.res ∧ s.res ≤ 1099511627776
 rb:∀ r ∈ s.rows,RwBd r
 pz:∀ p ∈ s.progs,p.size ≤ 1024
 tz:∀ l ∈ s.logs,l.length ≤ 32 ∧ ∀ t ∈ l,t.size ≤ 32
def rowN (r:Rw):List Int:=[r.status,r.att,r.badge,r.node,r.life,r.rcode]
def catN (l:List Int):Nat → ByteArray
 | 0=>⟨#[]⟩
 | i + 1=>catN l i ++ (match l[i]? with|some n=>numB n.toNat|none=>⟨#[]⟩)
def catT (l:List ByteArray):Nat → ByteArray
 | 0=>⟨#[]⟩
 | i + 1=>catT l i ++ (match l[i]? with|some t=>frameF t|none=>⟨#[]⟩)
def midP (r:Rw) (p:ByteArray) (n:Nat):ByteArray:=(hiB r.rbits.toNat 8 ++ frameF p) ++ numB n
def rowP (r:Rw) (p:ByteArray) (t:List ByteArray):ByteArray:=(catN (rowN r) 6 ++ midP r p t.length) ++ catT t t.length
def headP (s:StP):ByteArray:=numB s.res.toNat ++ numB s.progs.length
def catR (s:StP):Nat → ByteArray
 | 0=>headP s
 | i + 1=>catR s i ++ (match s.rows[i]?,s.progs[i]?,s.logs[i]? with|some r,some p,some t=>rowP r p t|_,_,_=>⟨#[]⟩)
def bytesS (s:StP):ByteArray:=catR s s.rows.length
theorem empty_size:(⟨#[]⟩:ByteArray).size = 0:=rfl
theorem numB_le {k n:Nat} (h:n < 128 ^ (k + 1)):(numB n).size ≤ k + 1:=by
 rw [numB,bytesOf_size];exact numL_len k n h
theorem frameF_le {t:ByteArray} (h:t.size ≤ 1024):(frameF t).size ≤ t.size + 2 ∧ (t.size ≤ 32 → (frameF t).size ≤ 33):=by
 have h1:=numB_le (k:=1) (n:=t.size) (by omega)
 rw [frameF,ByteArray.size_append]
 refine ⟨by omega,fun h2=>?_⟩
 have h3:=numB_le (k:=0) (n:=t.size) (by omega)
 omega
theorem catN_le {r:Rw} (h:RwBd r):∀ i,i ≤ 6 → (catN (rowN r) i).size ≤ 16:=by
 obtain ⟨⟨a1,a2⟩,⟨b1,b2⟩,⟨c1,c2⟩,⟨d1,d2⟩,⟨e1,e2⟩,⟨f1,f2⟩,_⟩:=h
 have q1:=numB_le (k:=0) (n:=r.status.toNat) (by omega)
 have q2:=numB_le (k:=0) (n:=r.att.toNat) (by omega)
 have q3:=numB_le (k:=5) (n:=r.badge.toNat) (by omega)
 have q4:=numB_le (k:=0) (n:=r.node.toNat) (by omega)
 have q5:=numB_le (k:=5) (n:=r.life.toNat) (by omega)
 have q6:=numB_le (k:=0) (n:=r.rcode.toNat) (by omega)
 intro i hi
 have h6:i = 0 ∨ i = 1 ∨ i = 2 ∨ i = 3 ∨ i = 4 ∨ i = 5 ∨ i = 6:=by omega
 rcases h6 with rfl|rfl|rfl|rfl|rfl|rfl|rfl <;> simp only [catN,rowN,List.getElem?_cons_zero,List.getElem?_cons_succ,ByteArray.size_append,empty_size] <;> omega
theorem catT_le {l:List ByteArray} (h:∀ t ∈ l,t.size ≤ 32):∀ i,(catT l i).size ≤ i * 33
 | 0=>by simp [catT,empty_size]
 | i + 1=>by
  have h1:=catT_le h i
  rw [catT,ByteArray.size_append]
  cases hl:l[i]? with
  | none=>dsimp only;rw [empty_size];omega
  | some t =>
   have h2:=h t (List.mem_of_getElem? hl)
   have h3:=(frameF_le (t:=t) (by omega)).2 h2
   dsimp only
   omega
theorem midP_le {r:Rw} {p:ByteArray} {n:Nat} (hp:p.size ≤ 1024) (hn:n ≤ 32):(midP r p n).size ≤ 1035:=by
 have h1:=(frameF_le hp).1
 have h2:=numB_le (k:=0) (n:=n) (by omega)
 rw [midP,ByteArray.size_append,ByteArray.size_append,hiB_size]
 omega
theorem catR_le {s:StP} (h:StBd s) (hp:s.progs.length ≤ 8):∀ i,(catR s i).size ≤ 7 + i * 2107
 | 0=>by
  have h1:=numB_le (k:=5) (n:=s.res.toNat) (by have:=h.rs;omega)
  have h2:=numB_le (k:=0) (n:=s.progs.length) (by omega)
  rw [catR,headP,ByteArray.size_append]
  omega
 | i + 1=>by
  have h1:=catR_le h hp i
  rw [catR,ByteArray.size_append]
  split
  ·rename_i r p t hr hp2 ht
   have q1:=catN_le (h.rb r (List.mem_of_getElem? hr)) 6 (Nat.le_refl _)
   obtain ⟨t1,t2⟩:=h.tz t (List.mem_of_getElem? ht)
   have q2:=midP_le (r:=r) (p:=p) (n:=t.length) (h.pz p (List.mem_of_getElem? hp2)) t1
   have q3:=catT_le t2 t.length
   rw [rowP,ByteArray.size_append,ByteArray.size_append]
   omega
  ·rw [empty_size];omega
theorem bytesS_le {s:StP} (h:StBd s) (ok:StOk s):(bytesS s).size ≤ 17000:=by
 have h1:=catR_le h (by have:=ok.nr;have:=ok.np;omega) s.rows.length
 have h2:=ok.nr
 unfold bytesS
 have h3:s.rows.length * 2107 ≤ 8 * 2107:=Nat.mul_le_mul_right _ h2
 omega
theorem stBd_new {n:Int}:StBd ⟨n,[],0,[],[]⟩:=⟨⟨Int.le_refl _,by show (0:Int) ≤ 1099511627776;omega⟩,fun r h=>(by cases h),fun r h=>(by cases h),fun r h=>(by cases h)⟩
theorem zz {h:Int} (q:0 ≤ h):(0:Int) ≤ 0 ∧ (0:Int) ≤ h:=⟨Int.le_refl _,q⟩
theorem check_prog {c:Ch} (h:checkF c = 0):c.prog.size ≤ 1024 ∧ (∀ t ∈ c.txs,t.size ≤ 32) ∧ (0 ≤ c.n ∧ c.n ≤ 1099511627776) ∧ (0 ≤ c.badge ∧ c.badge ≤ 1099511627776) ∧ (0 ≤ c.life ∧ c.life ≤ 1099511627776) ∧ (0 ≤ c.slot ∧ c.slot ≤ 7) ∧ (0 ≤ c.rcode ∧ c.rcode ≤ 7):=by
 unfold checkF at h
 split at h
 ·cases h
 ·split at h
  ·rename_i hall
   simp only [Bool.and_eq_true] at hall
   obtain ⟨h1,h2,h3,h4,h5,h6,h7⟩:=hall
   have h1:=rgt_true h1
   have h3:=rgt_true h3
   have h4:=rgt_true h4
   have h5:=rgt_true h5
   have h6:=rgt_true h6
   have h7:=rgt_true h7
   simp only [decide_eq_true_eq,Bool.and_eq_true] at h1 h3 h4 h5 h6 h7
   refine ⟨?_,?_,by omega,by omega,by omega,by omega,by omega⟩
   ·rcases h3 with h3|h3
    ·omega
    ·rw [h3];decide
   ·intro t ht
    rcases h6 with h6|h6
    ·unfold textsF at h6
     simp only [Bool.and_eq_true,Bool.not_eq_true',List.any_eq_false] at h6
     have:=h6.2 t ht
     simp only [longT,decide_eq_true_eq] at this
     omega
    ·have:c.txs = []:=List.length_eq_zero_iff.1 (by omega)
     rw [this] at ht
     cases ht
  ·cases h
theorem stepF_bd {s s':StP} {c:Ch} (ok:StOk s) (bd:StBd s) (hck:checkF c = 0) (hx:0 ≤ c.rbits ∧ c.rbits < 18446744073709551616) (h:stepF s c = some s'):StBd s':=by
 have ok':=stepF_ok ok h
 obtain ⟨c1,c2,c3,c4,c5,c6,c7⟩:=check_prog hck
 obtain ⟨rs,rb,pz,tz⟩:=bd
 have a8:=ok'.a8
 unfold stepF at h
 split at h
 ·split at h
  ·injection h with h;subst h;exact ⟨c3,rb,pz,tz⟩
  ·cases h
 split at h
 ·split at h
  ·cases h
  ·injection h with h;subst h
   refine ⟨rs,fun r hr=>?_,fun p hp=>?_,fun l hl=>?_⟩
   ·rcases List.mem_append.1 hr with hr|hr
    ·exact rb r hr
    ·rw [List.mem_singleton] at hr;subst hr
     exact ⟨⟨by show (0:Int) ≤ 1;decide,by show (1:Int) ≤ 4;decide⟩,zz (by decide),zz (by decide),zz (by decide),zz (by decide),zz (by decide),⟨Int.le_refl _,by show (0:Int) < 18446744073709551616;decide⟩⟩
   ·rcases List.mem_append.1 hp with hp|hp
    ·exact pz p hp
    ·rw [List.mem_singleton] at hp;subst hp;exact c1
   ·rcases List.mem_append.1 hl with hl|hl
    ·exact tz l hl
    ·rw [List.mem_singleton] at hl;subst hl;exact ⟨Nat.zero_le _,fun t ht=>(by cases ht)⟩
 split at h
 ·split at h
  ·cases h
  ·split at h
   ·cases h
   ·rename_i r hr
    split at h
    ·cases h
    ·rename_i hno
     injection h with h;subst h
     have hr2:s.rows[(c.job - 1).toNat]? = some r:=by
      split at hr
      ·exact hr
      ·cases hr
     have hrb:=rb r (List.mem_of_getElem? hr2)
     have ham:=ok'.am (r.give c.badge (2 + c.slot) c.life) (List.mem_of_getElem? (List.getElem?_set_self (List.getElem?_eq_some_iff.1 hr2).1))
     refine ⟨rs,set_am rb ⟨?_,?_,c4,?_,c5,hrb.rc,hrb.rx⟩,pz,fun l hl=>?_⟩
     ·show (0:Int) ≤ 2 ∧ (2:Int) ≤ 4;omega
     ·exact ⟨ham.1,Int.le_trans ham.2.1 a8⟩
     ·show 0 ≤ 2 + c.slot ∧ 2 + c.slot ≤ 9;omega
     ·rcases List.mem_or_eq_of_mem_set hl with hl|rfl
      ·exact tz l hl
      ·exact ⟨Nat.zero_le _,fun t ht=>(by cases ht)⟩
 split at h
 ·split at h
  ·cases h
  ·rename_i i hi
   split at h
   ·cases h
   ·rename_i hc
    injection h with h;subst h
    refine ⟨rs,rb,pz,fun l hl=>⟨ok'.lg l hl,fun t ht=>?_⟩⟩
    rcases List.mem_or_eq_of_mem_set hl with hl|rfl
    ·exact (tz l hl).2 t ht
    ·rcases List.mem_append.1 ht with ht|ht
     ·rw [List.getD_eq_getElem?_getD] at ht
      cases hg:s.logs[i]? with
      | none=>rw [hg] at ht;cases ht
      | some l0=>rw [hg] at ht;exact (tz l0 (List.mem_of_getElem? hg)).2 t ht
     ·exact c2 t ht
 split at h
 ·split at h
  ·cases h
  ·rename_i i hi
   injection h with h;subst h
   have hlt:=held_lt hi
   have hg:s.rows.getD i ⟨0,0,0,0,0,0,0,0⟩ = s.rows[i]:=getD_of (List.getElem?_eq_getElem hlt)
   have hrb:=rb _ (List.getElem_mem hlt)
   refine ⟨rs,set_am rb ?_,pz,tz⟩
   rw [hg]
   refine ⟨?_,hrb.at_,hrb.bd,zz (by decide),zz (by decide),hrb.rc,hrb.rx⟩
   show 0 ≤ (if s.att ≤ (s.rows[i]).att then (4:Int) else 1) ∧ (if s.att ≤ (s.rows[i]).att then (4:Int) else 1) ≤ 4
   split <;> omega
 ·split at h
  ·cases h
  ·rename_i i hi
   split at h
   ·cases h
   ·injection h with h;subst h
    have hlt:=held_lt hi
    have hg:s.rows.getD i ⟨0,0,0,0,0,0,0,0⟩ = s.rows[i]:=getD_of (List.getElem?_eq_getElem hlt)
    have hrb:=rb _ (List.getElem_mem hlt)
    refine ⟨rs,set_am rb ?_,pz,tz⟩
    rw [hg]
    exact ⟨by show (0:Int) ≤ 3 ∧ (3:Int) ≤ 4;omega,hrb.at_,hrb.bd,zz (by decide),zz (by decide),c7,hx⟩
theorem applyG_good {s0:StP} (ok0:StOk s0) (bd0:StBd s0):∀ (l:List Ch) (s:StP) (i:Nat),StOk s → StBd s → (∀ c ∈ l,0 ≤ c.rbits ∧ c.rbits < 18446744073709551616) → StOk (applyG s0 s i l).2 ∧ StBd (applyG s0 s i l).2
 | [],s,i,ok,bd,_=>⟨ok,bd⟩
 | c :: l,s,i,ok,bd,hx=>by
  unfold applyG
  split
  ·exact ⟨ok0,bd0⟩
  ·rename_i hck
   split
   ·exact ⟨ok0,bd0⟩
   ·rename_i s' hs
    exact applyG_good ok0 bd0 l s' (i + 1) (stepF_ok ok hs) (stepF_bd ok bd (Classical.not_not.1 hck) (hx c (List.mem_cons_self ..)) hs) (fun d hd=>hx d (List.mem_cons_of_mem _ hd))
end Go.Proofs.YtkoelgkghijgiaaGreat
namespace Go.Sep
open Go
theorem fill_rows {sz:Nat}:∀ (vs:List Value) (k:Nat) (done rest:List Value),(∀ v ∈ vs,v.cells.toList.length = sz) → done.length = k * sz → rest.length = vs.length * sz →
  Instr.fill (fun i=>some (i * sz,sz)) (done ++ rest).toArray (vs.mapIdx fun i v=>(k + i,v)) = some (done ++ (vs.map fun v=>v.cells.toList).flatten).toArray
 | [],k,done,rest,_,_,h3=>by
  have:rest = []:=by cases rest with
   | nil=>rfl
   | cons _ _=>simp at h3
  subst this
  simp [Instr.fill]
 | v :: vs,k,done,rest,h1,h2,h3=>by
  have hv:=h1 v (List.mem_cons_self ..)
  rw [List.mapIdx_cons]
  have hle:sz ≤ rest.length:=by rw [h3,List.length_cons,Nat.add_mul];omega
  rw [fill_one (off:=(k + 0) * sz) (size:=sz) (vs:=v.cells.toList) (by simp) (by simp) hv (by simp [h2,hv];omega)]
  rw [Nat.add_zero,← h2,ins_app,hv]
  have ih:=fill_rows vs (k + 1) (done ++ v.cells.toList) (rest.drop sz) (fun u hu=>h1 u (List.mem_cons_of_mem _ hu)) (by rw [List.length_append,h2,hv,Nat.add_mul];omega) (by rw [List.length_drop,h3,List.length_cons,Nat.add_mul];omega)
  rw [show (vs.mapIdx fun i v=>(k + (i + 1),v)) = vs.mapIdx fun i v=>(k + 1 + i,v) from by
   congr 1;funext i x;rw [show k + (i + 1) = k + 1 + i from by omega]]
  rw [ih]
  simp
section
variable {P:Program} {N:Fi} {B:Base} {Q:Exit → Act → World → Prop} {T:Tm} {A:List Blk} {ops:Array Oper} {l:List Oper}
variable {d:Nat} {ty:TypeId} {pos:String} {af:Array Edge} {m:Md} {gd:Option (Nat × Bool)}
theorem parts_eval {a:Act} {n:Nat}:∀ (ps:List (Nat × Operand)) (vs:List Value) (k:Nat),ps.map (·.1) = (List.range ps.length).map (k + ·) → ps.map (fun p=>a.eval p.2) = vs → ps.map (fun (i,x)=>(i,a.eval x)) = vs.mapIdx fun i v=>(k + i,v)
 | [],vs,k,_,h2=>by simp at h2;subst h2;rfl
 | (i,x) :: ps,vs,k,h1,h2=>by
  simp only [List.map_cons,List.length_cons,List.range_succ_eq_map,List.map_map,List.cons.injEq] at h1 h2
  subst h2
  rw [List.mapIdx_cons]
  have:=parts_eval (a:=a) (n:=n) ps _ (k + 1) (by rw [h1.2];apply List.map_congr_left;intro q _;simp;omega) rfl
  simp only [List.map_cons,h1.1]
  rw [this]
  congr 2
  funext j v
  rw [show k + 1 + j = k + (j + 1) from by omega]
theorem Ops.bsN {t e:TypeId} {ge:Bool} {sz' bs' n:Nat} {zc' vs:List Value} {ps:Array (Nat × Operand)} (rows:List (List Value)) (hm:m.eff = true) (hg:gst ops T gd = some true) [ht:TyD P t (.slice e)] [he:Ty P e ge sz' bs' zc']
  (hi:ps.toList.map (·.1) = List.range n) (hx:evs T (ps.toList.map (·.2)) = some vs) (hn:vs.length = n) (hr:(vs.map fun v=>v.cells.toList) = rows) (hl:(rows.all fun r=>r.length == sz') = true) (h0:Nat.blt 0 (n * sz') = true) (hsz:Nat.ble (n * sz') 16777216 = true) (hd:Nat.blt d N.n = true)
  (hp:Pd P N B ops m T (some d) (NewR (fun b=>.slice (some ⟨b,0,none⟩) n n) (cl (rows.flatten ++ []) e) A)) (k:∀ b,Ops P N B Q ops m.tl l ((d,.slice (some ⟨b,0,none⟩) n n) :: T) ((b,cl (rows.flatten ++ []) e) :: A)):Ops P N B Q ops m (⟨some d,.buildSlice t n ps,ty,pos,af,gd⟩ :: l) T A :=
 Ops.new (v:=fun b=>.slice (some ⟨b,0,none⟩) n n) hm hp hg hd (fun a w hF hS=>by
  obtain ⟨z,hz,hzc⟩:=he.run_zero (w:=w)
  have h0':¬ n * sz' = 0:=by rw [Nat.blt_eq] at h0;omega
  have h1:¬ (16777216 < n * sz'):=by rw [Nat.ble_eq] at hsz;omega
  have hlen:ps.toList.length = n:=by have:=congrArg List.length hi;simpa using this
  have hev:ps.toList.map (fun p=>a.eval p.2) = vs:=by have:=hF.evals hx;rw [List.map_map] at this;exact this
  have hpe:=parts_eval (a:=a) (n:=n) ps.toList vs 0 (by rw [hi,hlen];simp) hev
  simp only [Nat.zero_add] at hpe
  have hsz2:∀ v ∈ vs,v.cells.toList.length = sz':=fun v hv=>by
   have h2:=List.all_eq_true.1 hl v.cells.toList (by rw [← hr];exact List.mem_map.2 ⟨v,hv,rfl⟩)
   simpa using h2
  have hf:=fill_rows (sz:=sz') vs 0 [] ((Array.range (n * sz')).map (fun i=>z.cells[i % z.cells.size]!)).toList hsz2 (by simp) (by simp [hn])
  simp only [Nat.zero_add,List.nil_append,Array.toArray_toList] at hf
  have hpt:(ps.map fun (i,x)=>(i,a.eval x)).toList = vs.mapIdx fun i v=>(i,v):=by rw [Array.toList_map];exact hpe
  simp only [execOp,Instr.buildSlice,ht.run_und,he.run_size,Sem.run_bind,Result.andThen_ok,Sem.run_pure,Sem.run_ite,gt_iff_lt,show (2:Nat)^24 = 16777216 from rfl,if_neg h1,h0',if_false,hz,hpt,hf,hr]
  simp [newRow,cl]) k
end
end Go.Sep
namespace Go.Proofs.YtkoelgkghijgiaaGreat
open Go Go.Sep Go.Proofs Go.Proofs.Tryz
set_option maxRecDepth 10000
set_option maxHeartbeats 40000000
set_option synthInstance.maxSize 2000
theorem snum_spec (n:Int) (h0:0 ≤ n) (h1:n < 9223372036854775808):Con prog 176 #[.int .i64 n] [] fun v A=>v = .string (numB n.toNat) ∧ A = []:=by
 obtain ⟨m,rfl⟩:∃ m:Nat,n = m:=⟨n.toNat,by omega⟩
 refine zqI (vs:=[_]) func176 ntmps176 fun B=>?_
 refine zg0 ?_
 refine Ops.cvI rfl rfl rfl rfl ?_
 rw [wrap_u64 (by omega),Int.toNat_natCast]
 refine zqA (num_spec m (by omega)) fun v A' hR=>?_
 obtain ⟨rfl,rfl⟩:=hR
 refine zg0 ?_
 exact ze9
structure ByS where
 i:Nat
 D:List Blk
@[reducible] def nRows (r:Rw):List (List Value):=[[.int .i64 r.status],[.int .i64 r.att],[.int .i64 r.badge],[.int .i64 r.node],[.int .i64 r.life],[.int .i64 r.rcode]]
theorem nRows_ok (r:Rw):RowsOk 1 (nRows r):=rows_map (f:=fun n:Int=>[Value.int .i64 n]) (fun _=>⟨rfl,rfl⟩) (rowN r)
theorem nRows_at {r:Rw} {j:Nat} {n:Int} (h:(rowN r)[j]? = some n):(nRows r)[j]? = some [.int .i64 n]:=by
 rw [show nRows r = (rowN r).map fun n:Int=>[Value.int .i64 n] from rfl,List.getElem?_map,h];rfl
theorem rowN_bd {r:Rw} (h:RwBd r) {j:Nat} {n:Int} (hj:(rowN r)[j]? = some n):0 ≤ n ∧ n ≤ 1099511627776:=by
 obtain ⟨⟨a1,a2⟩,⟨b1,b2⟩,⟨c1,c2⟩,⟨d1,d2⟩,⟨e1,e2⟩,⟨f1,f2⟩,_⟩:=h
 have:=List.mem_of_getElem? hj
 simp only [rowN,List.mem_cons,List.not_mem_nil,or_false] at this
 omega
theorem sbytes_spec (B0:Base) (sb:Nat) (s:StP) (hS:StIn B0 sb s) (ok:StOk s) (bd:StBd s):ConB prog B0 109 #[ptr sb] [] fun v A=>v = .string (bytesS s) ∧ A = []:=by
 obtain ⟨qb,ra,rc,pa,pc,la,lc,ls,h1,h2,h3,h4,h5,h6⟩:=hS
 obtain ⟨o1,o2,o3,o4,o5,o6,o7⟩:=id ok
 have hq2:Holds B0 [QuB qb s.att (.slice ra s.rows.length rc)]:=h1.sub fun p hp=>List.mem_cons_of_mem _ hp
 have hall:=catR_le bd (by omega)
 refine zqJ (vs:=[_]) func109 ntmps109 fun B hB=>?_
 have hQ:=hB.holds h1
 have hc0:∀ A,Rd B.plain A sb 0 (ptr qb):=hQ.cell (List.mem_cons_self ..) rfl
 have hc1:∀ A,Rd B.plain A sb 1 (.int .i64 s.res):=hQ.cell (List.mem_cons_self ..) rfl
 have hc2:∀ A,Rd B.plain A sb 2 (.slice pa s.progs.length pc):=hQ.cell (List.mem_cons_self ..) rfl
 have hc3:∀ A,Rd B.plain A sb 3 (.slice la s.logs.length lc):=hQ.cell (List.mem_cons_self ..) rfl
 repeat' (first|refine zs1 ?_|refine Ops.alloc rfl rfl rfl (noPd rfl) (fun b=>?_))
 rename Nat=>bb
 have hD0:BuA bb .empty [BuB bb none (.slice none 0 0)]:=⟨none,_,[],rfl,.inl rfl,BG.none⟩
 refine zdr [qz 0,qz 1,qz 2,qy 3,qz 5,qz 6,qz 7,qy 8,qy 9,(4,2,[8,9]),(10,2,[]),qz 11,(12,2,[])] ?_
 refine zg5 ?_
 refine Ops.ldR rfl rfl rfl (hc1 _) rfl ?_
 refine zg5 ?_
 refine Ops.ldR rfl rfl rfl (hc2 _) rfl ?_
 refine zg3 ?_
 refine Ops.call (snum_spec s.res bd.rs.1 (by have:=bd.rs.2;omega)) rfl zp1 rfl rfl rfl (fun v A' hR=>?_)
 obtain ⟨rfl,rfl⟩:=hR
 refine Ops.call (snum_spec ((s.progs.length:Nat):Int) (by omega) (by omega)) rfl zp1 rfl rfl rfl (fun v A' hR=>?_)
 obtain ⟨rfl,rfl⟩:=hR
 rw [Int.toNat_natCast]
 have hz0:=hall 0
 have hh0:headP s = numB s.res.toNat ++ numB s.progs.length:=rfl
 have hcat0:(numB s.res.toNat).size + (numB s.progs.length).size ≤ 4000000:=by
  rw [catR,headP,ByteArray.size_append] at hz0;omega
 refine Ops.cat rfl rfl rfl rfl (by omega) rfl ?_
 rw [← hh0]
 refine Ops.call (bwrite_spec bb .empty (headP s) _ hD0 (by rw [hh0,ByteArray.size_append];show 0 + _ ≤ _;omega)) rfl (noPd rfl) rfl rfl rfl (fun v A' hR=>?_)
 rw [ByteArray.empty_append] at hR
 rename List Blk=>D1
 refine zg1 ?_
 refine Ops.ldR rfl rfl rfl (hc0 _) rfl ?_
 refine Ops.callB (rows_spec B0 qb s.att ra rc s.rows hq2 h2 (by omega)) hB rfl (noPd rfl) rfl rfl rfl (fun v A' hR2=>?_)
 obtain ⟨r2,rfl,hrs⟩:=hR2
 rename List Blk=>RG
 refine zg1 ?_
 refine Cd.loopK (σ:=ByS) (fun t=>t.i ≤ s.rows.length ∧ BuA bb (catR s t.i) t.D) (fun t=>[(0,ptr sb),(3,ptr bb),(28,.slice r2 s.rows.length s.rows.length),(29,.int .i64 s.rows.length),(30,.int .i64 ((t.i:Nat):Int))]) (fun t=>t.D ++ RG) (fun t=>s.rows.length - t.i) ⟨0,D1⟩ ⟨Nat.zero_le _,hR⟩ ⟨rfl,rfl,rfl,rfl,rfl,trivial⟩ (fun w h=>h.split) (fun t ht=>?_)
 obtain ⟨i,D⟩:=t
 obtain ⟨hi,hD⟩:=ht
 dsimp only at hi hD ⊢
 by_cases hlt:i < s.rows.length
 case neg =>
  have hlt':¬ ((i:Nat):Int) < ((s.rows.length:Nat):Int):=by omega
  have he:i = s.rows.length:=by omega
  subst he
  refine zg2 ?_
  refine Ops.call (bstring_spec bb (catR s s.rows.length) D hD (by have:=hall s.rows.length;have:s.rows.length * 2107 ≤ 8 * 2107:=Nat.mul_le_mul_right _ o3;omega)) rfl (noPd rfl) rfl rfl rfl (fun v A' hR=>?_)
  obtain ⟨rfl,_⟩:=hR
  refine zg0 ?_
  exact ze9
 have hlt':((i:Nat):Int) < ((s.rows.length:Nat):Int):=by omega
 obtain ⟨r,hr⟩:∃ r,s.rows[i]? = some r:=⟨_,List.getElem?_eq_getElem hlt⟩
 obtain ⟨p,hp⟩:∃ p,s.progs[i]? = some p:=⟨_,List.getElem?_eq_getElem (by omega)⟩
 have hil:i < ls.length:=by
  have:ls.length = s.logs.length:=(by rw [← h6,List.length_map]);omega
 obtain ⟨x,hx⟩:∃ x,ls[i]? = some x:=⟨_,List.getElem?_eq_getElem hil⟩
 obtain ⟨xa,xc,xt,XG⟩:=x
 have hlg:s.logs[i]? = some xt:=by rw [← h6,List.getElem?_map,hx];rfl
 obtain ⟨t1,t2⟩:=bd.tz xt (List.mem_of_getElem? hlg)
 have hpz:=bd.pz p (List.mem_of_getElem? hp)
 have hrb:=bd.rb r (List.mem_of_getElem? hr)
 have hcn:catR s (i + 1) = catR s i ++ rowP r p xt:=by rw [catR,hr,hp,hlg]
 have hzi:=hall i
 have hi8:i * 2107 ≤ 8 * 2107:=Nat.mul_le_mul_right _ (by omega)
 obtain ⟨rg,rc2,rsp,hsv,hRG⟩:∃ g c sp,Value.slice r2 s.rows.length s.rows.length = .slice (some ⟨g,0,none⟩) s.rows.length c ∧ RG = [(g,cl ((s.rows.map Rw.row).flatten ++ sp) 62)]:=by
  rcases hrs.2 with ⟨q,_,_⟩|⟨g,c,sp,q1,q2⟩
  ·injection q with _ q _;omega
  ·exact ⟨g,c,sp,by rw [q1,List.length_map],q2⟩
 subst hRG
 injection hsv with q1 _ _
 subst q1
 have hokR:=rws_ok s.rows
 have hri:(s.rows.map Rw.row)[((i:Nat):Int).toNat]? = some r.row:=by rw [Int.toNat_natCast];exact rget hr
 obtain ⟨pb,poff,hpa,hpr0⟩:=(h3.ext hB) i (trow p) (by rw [List.getElem?_map,hp];rfl)
 subst hpa
 have hpr:∀ A,Rd B.plain A pb (poff + ((i:Nat):Int).toNat * 1) (.string p):=fun A=>by rw [Int.toNat_natCast];exact hpr0 A 0 _ rfl
 obtain ⟨lb,loff,hla,hlr0⟩:=(h4.ext hB) i (⟨xa,xc,xt,XG⟩:Lg).row (by rw [List.getElem?_map,hx];rfl)
 subst hla
 have hlr:∀ A,Rd B.plain A lb (loff + ((i:Nat):Int).toNat * 1) (.slice xa xt.length xc):=fun A=>by rw [Int.toNat_natCast];exact hlr0 A 0 _ rfl
 have hip':((i:Nat):Int) < ((s.progs.length:Nat):Int):=by omega
 have hil':((i:Nat):Int) < ((s.logs.length:Nat):Int):=by omega
 repeat' (first|refine zs8 ?_|refine Ops.alloc rfl rfl rfl (noPd rfl) (fun b=>?_))
 rename Nat=>rw_
 refine Ops.bsN (nRows r) rfl rfl rfl rfl rfl rfl rfl rfl rfl rfl (noPd rfl) (fun nb=>?_)
 refine zg1 ?_
 refine Cd.loopK (σ:=ByS) (fun t=>t.i ≤ 6 ∧ BuA bb (catR s i ++ catN (rowN r) t.i) t.D) (fun t=>[(0,ptr sb),(3,ptr bb),(4,.int .i64 ((i:Nat):Int)),(5,ptr rw_),(28,.slice (some ⟨rg,0,none⟩) s.rows.length s.rows.length),(29,.int .i64 s.rows.length),(30,.int .i64 ((i:Nat):Int)),(50,.slice (some ⟨nb,0,none⟩) 6 6),(51,.int .i64 6),(52,.int .i64 ((t.i:Nat):Int))]) (fun t=>(nb,cl ((nRows r).flatten ++ []) 3) :: (rw_,cl r.row 62) :: (rg,cl ((s.rows.map Rw.row).flatten ++ rsp) 62) :: t.D) (fun t=>6 - t.i) ⟨0,D⟩ ⟨Nat.zero_le _,by show BuA bb (catR s i ++ ⟨#[]⟩) D;rw [show (⟨#[]⟩:ByteArray) = .empty from rfl,ByteArray.append_empty];exact hD⟩ ⟨rfl,rfl,rfl,rfl,rfl,rfl,rfl,rfl,rfl,rfl,trivial⟩ (fun w h=>h.split) (fun t ht=>?_)
 obtain ⟨j,E⟩:=t
 obtain ⟨hj,hE⟩:=ht
 dsimp only at hj hE ⊢
 have hzj:=catN_le hrb j hj
 by_cases hjl:j < 6
 ·have hjl':((j:Nat):Int) < 6:=by omega
  obtain ⟨n,hn⟩:∃ n,(rowN r)[j]? = some n:=⟨_,List.getElem?_eq_getElem (by simpa [rowN] using hjl)⟩
  obtain ⟨n0,n1⟩:=rowN_bd hrb hn
  have hokN:=nRows_ok r
  have hnr:(nRows r)[((j:Nat):Int).toNat]? = some [.int .i64 n]:=by rw [Int.toNat_natCast];exact nRows_at hn
  have hz2:=numB_size (n:=n.toNat) (by omega)
  have hcj:catN (rowN r) (j + 1) = catN (rowN r) j ++ numB n.toNat:=by rw [catN,hn]
  refine zg14 ?_
  refine zqA (snum_spec n n0 (by omega)) fun v A' hR=>?_
  obtain ⟨rfl,rfl⟩:=hR
  refine zqA (bwrite_spec bb (catR s i ++ catN (rowN r) j) (numB n.toNat) E hE (by rw [ByteArray.size_append];omega)) fun v A' hR=>?_
  rw [ByteArray.append_assoc,← hcj] at hR
  refine zg9 ?_
  exact Ops.nilN (round_end (⟨j + 1,A'⟩:ByS) ⟨by show j + 1 ≤ 6;omega,hR⟩ (by show 6 - (j + 1) < 6 - j;omega) ⟨rfl,rfl,rfl,rfl,rfl,rfl,rfl,rfl,rfl,rfl,trivial⟩ (fun w h=>h.split))
 have hjl':¬ ((j:Nat):Int) < 6:=by omega
 have hj6:j = 6:=by omega
 subst hj6
 have hm:=midP_le (r:=r) (n:=xt.length) hpz t1
 have hm2:midP r p xt.length = (hiB r.rbits.toNat 8 ++ frameF p) ++ numB xt.length:=rfl
 have hm3:(hiB r.rbits.toNat 8).size + (frameF p).size ≤ 4000000 ∧ (hiB r.rbits.toNat 8 ++ frameF p).size + (numB xt.length).size ≤ 4000000:=by
  rw [hm2,ByteArray.size_append] at hm
  rw [ByteArray.size_append] at hm ⊢
  omega
 generalize hc11:Code.seq (Code.region 11 _ _) _ = c11
 refine zg7 ?_
 subst hc11
 refine Cd.cut (σ:=List Blk) (fun E1=>BuA bb (catR s i ++ (catN (rowN r) 6 ++ midP r p xt.length)) E1) (fun _=>[(0,ptr sb),(3,ptr bb),(4,.int .i64 ((i:Nat):Int)),(28,.slice (some ⟨rg,0,none⟩) s.rows.length s.rows.length),(29,.int .i64 s.rows.length),(30,.int .i64 ((i:Nat):Int))]) (fun E1=>(rg,cl ((s.rows.map Rw.row).flatten ++ rsp) 62) :: E1) ?_ (fun E1 hE1=>?_)
 ·refine zdr [qz 0,qz 1,qy 2,qz 4,qz 5,qz 6,qy 7,qz 8,qz 9,qy 10,qz 13,qz 14,qz 15,qy 16,qz 17,qz 18,qy 19,qy 20,(3,2,[7,10,16,19,20]),(11,2,[16,19,20]),qz 12,(21,2,[]),qz 22,(23,2,[])] ?_
  refine zg5 ?_
  refine Ops.ldR rfl rfl rfl (hc2 _) rfl ?_
  refine zg15 ?_
  refine Ops.ldR rfl rfl rfl (hpr _) rfl ?_
  refine zg5 ?_
  refine Ops.ldR rfl rfl rfl (hc3 _) rfl ?_
  refine zg15 ?_
  refine Ops.ldR rfl rfl rfl (hlr _) rfl ?_
  refine zg3 ?_
  obtain ⟨xb,hxb⟩:∃ n:Nat,r.rbits = n:=⟨r.rbits.toNat,by have:=hrb.rx;omega⟩
  rw [hxb] at hm2 hm3 ⊢
  rw [Int.toNat_natCast] at hm2 hm3
  refine Ops.call (bits_spec xb (by have:=hrb.rx;omega)) rfl zp1 rfl rfl rfl (fun v A' hR=>?_)
  obtain ⟨rfl,rfl⟩:=hR
  refine Ops.call (text_spec p (by omega)) rfl zp1 rfl rfl rfl (fun v A' hR=>?_)
  obtain ⟨rfl,rfl⟩:=hR
  rw [show numB p.size ++ p = frameF p from rfl]
  refine Ops.cat rfl rfl rfl rfl (by omega) rfl ?_
  refine zqA (snum_spec ((xt.length:Nat):Int) (by omega) (by omega)) fun v A' hR=>?_
  obtain ⟨rfl,rfl⟩:=hR
  rw [Int.toNat_natCast]
  refine Ops.cat rfl rfl rfl rfl (by omega) rfl ?_
  rw [← hm2]
  refine zqA (bwrite_spec bb (catR s i ++ catN (rowN r) 6) (midP r p xt.length) E hE (by rw [ByteArray.size_append];omega)) fun v A' hR=>?_
  rw [ByteArray.append_assoc] at hR
  exact Ops.nilN (meet_end (Q:=fun _ _ _=>True) A' hR ⟨rfl,rfl,rfl,rfl,rfl,rfl,trivial⟩ (fun w h=>h.split))
 have hzm:(catR s i ++ (catN (rowN r) 6 ++ midP r p xt.length)).size ≤ 20000:=by
  rw [ByteArray.size_append,ByteArray.size_append];omega
 generalize hbase:catR s i ++ (catN (rowN r) 6 ++ midP r p xt.length) = base at hE1 hzm
 refine zg1 ?_
 refine Ops.ldR rfl rfl rfl (hc3 _) rfl ?_
 refine zg15 ?_
 refine Ops.ldR rfl rfl rfl (hlr _) rfl ?_
 refine zg1 ?_
 refine Cd.loopK (σ:=ByS) (fun t=>t.i ≤ xt.length ∧ BuA bb (base ++ catT xt t.i) t.D) (fun t=>[(0,ptr sb),(3,ptr bb),(28,.slice (some ⟨rg,0,none⟩) s.rows.length s.rows.length),(29,.int .i64 s.rows.length),(30,.int .i64 ((i:Nat):Int)),(90,.slice xa xt.length xc),(91,.int .i64 xt.length),(92,.int .i64 ((t.i:Nat):Int))]) (fun t=>(rg,cl ((s.rows.map Rw.row).flatten ++ rsp) 62) :: t.D) (fun t=>xt.length - t.i) ⟨0,E1⟩ ⟨Nat.zero_le _,by show BuA bb (base ++ ⟨#[]⟩) E1;rw [show (⟨#[]⟩:ByteArray) = .empty from rfl,ByteArray.append_empty];exact hE1⟩ ⟨rfl,rfl,rfl,rfl,rfl,rfl,rfl,rfl,trivial⟩ (fun w h=>h.split) (fun t ht=>?_)
 obtain ⟨k,F⟩:=t
 obtain ⟨hk,hF⟩:=ht
 dsimp only at hk hF ⊢
 have hzk:=catT_le t2 k
 have hk33:k * 33 ≤ 32 * 33:=Nat.mul_le_mul_right _ (by omega)
 by_cases hkl:k < xt.length
 ·have hkl':((k:Nat):Int) < ((xt.length:Nat):Int):=by omega
  obtain ⟨u,hu⟩:∃ u,xt[k]? = some u:=⟨_,List.getElem?_eq_getElem hkl⟩
  have huz:=t2 u (List.mem_of_getElem? hu)
  have hfz:=(frameF_le (t:=u) (by omega)).2 huz
  have hck:catT xt (k + 1) = catT xt k ++ frameF u:=by rw [catT,hu]
  obtain ⟨ub,uoff,hxa,hur0⟩:=((h5 _ (List.mem_of_getElem? hx)).ext hB) k (trow u) (by rw [List.getElem?_map,hu];rfl)
  have hur:∀ A,Rd B.plain A ub (uoff + ((k:Nat):Int).toNat * 1) (.string u):=fun A=>by rw [Int.toNat_natCast];exact hur0 A 0 _ rfl
  subst hxa
  refine zg15 ?_
  refine Ops.ldR rfl rfl rfl (hur _) rfl ?_
  refine zg0 ?_
  refine zqA (text_spec u (by omega)) fun v A' hR=>?_
  obtain ⟨rfl,rfl⟩:=hR
  rw [show numB u.size ++ u = frameF u from rfl]
  refine zqA (bwrite_spec bb (base ++ catT xt k) (frameF u) F hF (by rw [ByteArray.size_append];omega)) fun v A' hR=>?_
  rw [ByteArray.append_assoc,← hck] at hR
  refine zg9 ?_
  exact Ops.nilN (round_end (⟨k + 1,A'⟩:ByS) ⟨by show k + 1 ≤ xt.length;omega,hR⟩ (by show xt.length - (k + 1) < xt.length - k;omega) ⟨rfl,rfl,rfl,rfl,rfl,rfl,rfl,rfl,trivial⟩ (fun w h=>h.split))
 have hkl':¬ ((k:Nat):Int) < ((xt.length:Nat):Int):=by omega
 have hke:k = xt.length:=by omega
 subst hke
 refine zg13 ?_
 exact Ops.nilN (round_end (⟨i + 1,F⟩:ByS) ⟨by show i + 1 ≤ s.rows.length;omega,by show BuA bb (catR s (i + 1)) F;rw [hcn,rowP,← ByteArray.append_assoc,hbase];exact hF⟩ (by show s.rows.length - (i + 1) < s.rows.length - i;omega) ⟨rfl,rfl,rfl,rfl,rfl,trivial⟩ (fun w h=>h.split))
theorem sbytes_own (B0:Base) (sb:Nat) (s:StP) (D:List Blk) (hD:StA sb s D) (ok:StOk s) (bd:StBd s):ConB prog B0 109 #[ptr sb] D fun v A=>v = .string (bytesS s) ∧ A = D :=
 (ConB.lend (A1:=[]) fun B1 e hG=>sbytes_spec B1 sb s (hD.in_ hG) ok bd).mono fun v A hR=>by
  obtain ⟨A',⟨rfl,rfl⟩,rfl⟩:=hR
  exact ⟨rfl,rfl⟩
structure Calm (x:Dk) (len:Nat):Prop where
 de:x.de = false
 ar:x.ar = 0
 len:x.S.length = len
 sz:∀ s ∈ x.S,s.size = 128
theorem write_calm {x:Dk} {len i:Nat} {s:ByteArray} (h:Calm x len) (hi:i < len) (hs:s.size = 128):(x.write (i:Int) s).2 = 0 ∧ Calm (x.write (i:Int) s).1 len:=by
 obtain ⟨S,ar,bd,de⟩:=x
 obtain ⟨h1,h2,h3,h4⟩:=h
 dsimp only at h1 h2 h3 h4
 subst h1
 subst h2
 have e:writeD S 0 bd false (i:Int) s = ((S.set i s,0,false),0):=by
  unfold writeD
  rw [if_neg (by simp),if_neg (by omega),if_neg (by omega),if_neg (by decide)]
  rfl
 unfold Dk.write Dk.put
 dsimp only
 rw [e]
 refine ⟨rfl,rfl,rfl,by simpa using h3,fun t ht=>?_⟩
 rcases List.mem_or_eq_of_mem_set ht with ht|rfl
 ·exact h4 t ht
 ·exact hs
theorem pages_calm {half len:Nat} (hh:half ≤ 1):∀ (n at_:Nat) (s:ByteArray) (x:Dk),s.size ≤ n → Calm x len → at_ + s.size ≤ roomF len → (pagesF half at_ s x).2 = true ∧ Calm (pagesF half at_ s x).1 len
 | 0,at_,s,x,hs,hc,hr=>by
  unfold pagesF
  rw [dif_pos (by omega)]
  exact ⟨rfl,hc⟩
 | n + 1,at_,s,x,hs,hc,hr=>by
  by_cases h0:s.size = 0
  ·unfold pagesF
   rw [dif_pos h0]
   exact ⟨rfl,hc⟩
  have hrm:roomF len ≠ 0:=by omega
  have e1:roomF len = (len - 2) / 2 * 128 ∧ 4 ≤ len ∧ len % 2 = 0:=by
   unfold roomF at hrm ⊢
   split at hrm
   ·omega
   ·rename_i h;rw [if_neg h];omega
  obtain ⟨e1,e2,e3⟩:=e1
  have e4:half * roomF len / 128 = half * ((len - 2) / 2):=by
   rw [e1,← Nat.mul_assoc,Nat.mul_div_cancel _ (by decide)]
  have hlt:2 + half * roomF x.S.length / 128 + at_ / 128 < len:=by
   rw [hc.len,e4]
   have:at_ / 128 < (len - 2) / 2:=by omega
   rcases (by omega:half = 0 ∨ half = 1) with rfl|rfl <;> omega
  have hpg:(pageF (x.S.getD (2 + half * roomF x.S.length / 128 + at_ / 128) .empty) s (at_ % 128)).size = 128:=by
   refine pageF_size ?_ (Nat.mod_lt _ (by decide))
   rw [List.getD_eq_getElem?_getD,List.getElem?_eq_getElem (by have:=hc.len;omega)]
   exact hc.sz _ (List.getElem_mem _)
  obtain ⟨w1,w2⟩:=write_calm hc hlt hpg
  have hng:¬ (x.de = true ∨ ¬ 2 + half * roomF x.S.length / 128 + at_ / 128 < x.S.length):=by
   rintro (q|q)
   ·rw [hc.de] at q;cases q
   ·have:=hc.len;omega
  unfold pagesF
  rw [dif_neg h0,if_neg hng]
  dsimp only
  rw [if_neg (not_not_intro w1)]
  refine pages_calm hh n _ _ _ ?_ w2 ?_
  ·rw [ByteArray.size_extract];omega
  ·rw [ByteArray.size_extract];omega
theorem head_calm {h:Hd} {r:Dk × Bool} {len:Nat} (hr:r.2 = true) (hc:Calm r.1 len) (hl:2 ≤ len):(headF h r).2 = true ∧ Calm (headF h r).1 len:=by
 have hlt:h.number % 2 < len:=by omega
 obtain ⟨w1,w2⟩:=write_calm hc hlt (sectorF_size h)
 unfold headF
 rw [if_pos hr]
 exact ⟨by rw [decide_eq_true w1],w2⟩
theorem append_calm {w:Wl} {x:Dk} {len:Nat} {r:ByteArray} (hc:Calm x len) (hw:WlOk w len) (hd:w.dead = false) (h1:0 < r.size) (h2:r.size ≤ 2048) (hfit:w.h.snap + w.h.log + (frameF r).size ≤ roomF len) (hn:w.h.number < 1099511627776) :
  (appendF w x r).2 = 0 ∧ (appendF w x r).1.1 = ⟨⟨w.h.number + 1,w.h.half,w.h.snap,w.h.log + (frameF r).size⟩,w.recs + 1,false⟩ ∧ Calm (appendF w x r).1.2 len:=by
 have hl2:2 ≤ len:=by
  unfold roomF at hfit
  split at hfit
  ·rw [frameF,ByteArray.size_append] at hfit;omega
  ·omega
 have e:appendF w x r = w.done ⟨w.h.number + 1,w.h.half,w.h.snap,w.h.log + (frameF r).size⟩ (w.recs + 1)
  (headF ⟨w.h.number + 1,w.h.half,w.h.snap,w.h.log + (frameF r).size⟩ (pagesF w.h.half (w.h.snap + w.h.log) (frameF r) x)):=by
  unfold appendF
  rw [if_neg (by rw [hd,hc.de];simp),if_neg (by omega),if_neg (by rw [hc.len];omega),if_neg (by omega)]
 rw [e]
 obtain ⟨p1,p2⟩:=pages_calm hw.f _ (w.h.snap + w.h.log) (frameF r) x (Nat.le_refl _) hc (by omega)
 obtain ⟨q1,q2⟩:=head_calm (h:=⟨w.h.number + 1,w.h.half,w.h.snap,w.h.log + (frameF r).size⟩) p1 p2 hl2
 unfold Wl.done
 rw [if_pos q1]
 exact ⟨rfl,by rw [hd],q2⟩
theorem numL_mono:∀ (n m:Nat),n ≤ m → (numL n).length ≤ (numL m).length:=by
 intro n
 induction n using Nat.strongRecOn with
 | _ n ih =>
  intro m h
  by_cases h1:n < 128
  ·rw [numL_small h1]
   unfold numL
   split <;> simp
  ·have h2:¬ m < 128:=by omega
   rw [numL_big h1,numL_big h2,List.length_cons,List.length_cons]
   have:=ih (n / 128) (by omega) (m / 128) (Nat.div_le_div_right h)
   omega
theorem numB_mono {n m:Nat} (h:n ≤ m):(numB n).size ≤ (numB m).size:=by
 rw [numB,numB,bytesOf_size,bytesOf_size];exact numL_mono n m h
theorem fitN_ok (left:Nat):∀ n,fitN left n = 0 ∨ (numB (fitN left n)).size + fitN left n ≤ left
 | 0=>.inl rfl
 | n + 1=>by
  unfold fitN
  split
  ·exact fitN_ok left n
  ·rename_i h;right;omega
theorem room_fits {w:Wl} {len:Nat} {r:ByteArray} (h0:0 < r.size) (h:r.size ≤ roomW w len) (hf:w.h.snap + w.h.log ≤ roomF len):w.h.snap + w.h.log + (frameF r).size ≤ roomF len:=by
 unfold roomW at h
 rcases fitN_ok (roomF len - w.h.snap - w.h.log) (min 2048 (roomF len - w.h.snap - w.h.log)) with h1|h1
 ·rw [h1] at h;omega
 ·have h2:=numB_mono h
  rw [frameF,ByteArray.size_append]
  omega
theorem snap_calm {w:Wl} {x:Dk} {len:Nat} {s:ByteArray} (hc:Calm x len) (hw:WlOk w len) (hd:w.dead = false) (h1:s.size ≤ 17000) (hr:20480 ≤ roomF len) (hn:w.h.number < 1099511627776) :
  (snapF w x s).2 = 0 ∧ (snapF w x s).1.1 = ⟨⟨w.h.number + 1,1 - w.h.half,s.size,0⟩,0,false⟩ ∧ Calm (snapF w x s).1.2 len:=by
 have hl2:2 ≤ len:=by
  unfold roomF at hr
  split at hr
  ·omega
  ·omega
 have e:snapF w x s = w.done ⟨w.h.number + 1,1 - w.h.half,s.size,0⟩ 0 (headF ⟨w.h.number + 1,1 - w.h.half,s.size,0⟩ (pagesF (1 - w.h.half) 0 s x)):=by
  unfold snapF
  rw [if_neg (by rw [hd,hc.de];simp),if_neg (by rw [hc.len];omega),if_neg (by omega)]
 rw [e]
 obtain ⟨p1,p2⟩:=pages_calm (half:=1 - w.h.half) (by omega) _ 0 s x (Nat.le_refl _) hc (by omega)
 obtain ⟨q1,q2⟩:=head_calm (h:=⟨w.h.number + 1,1 - w.h.half,s.size,0⟩) p1 p2 hl2
 unfold Wl.done
 rw [if_pos q1]
 exact ⟨rfl,by rw [hd],q2⟩
def wants (every:Int) (w:Wl) (len:Nat) (r:ByteArray):Prop:=every ≤ w.recs ∨ roomW w len < r.size
instance (every:Int) (w:Wl) (len:Nat) (r:ByteArray):Decidable (wants every w len r):=by unfold wants;infer_instance
def mkW (every:Int) (w:Wl) (x:Dk) (b r:ByteArray):Wl × Dk :=
 if wants every w x.S.length r then (appendF (snapF w x b).1.1 (snapF w x b).1.2 r).1 else (appendF w x r).1
structure LgOk (w:Wl) (x:Dk) (len:Nat):Prop where
 cm:Calm x len
 wo:WlOk w len
 nd:w.dead = false
theorem mk_calm {every:Int} {w:Wl} {x:Dk} {len:Nat} {b r:ByteArray} (ok:LgOk w x len) (hev:every ≤ 16) (hr:20480 ≤ roomF len) (hn:w.h.number + 2 < 1099511627776) (hb:b.size ≤ 17000) (h0:0 < r.size) (h1:r.size ≤ 2048) :
  LgOk (mkW every w x b r).1 (mkW every w x b r).2 len ∧ (mkW every w x b r).1.h.number ≤ w.h.number + 2 ∧
   (wants every w x.S.length r → (snapF w x b).2 = 0 ∧ LgOk (snapF w x b).1.1 (snapF w x b).1.2 len ∧ (appendF (snapF w x b).1.1 (snapF w x b).1.2 r).2 = 0) ∧ (¬ wants every w x.S.length r → (appendF w x r).2 = 0):=by
 obtain ⟨hc,hw,hd⟩:=ok
 have hfz:=frameF_size r (by omega)
 by_cases hwt:wants every w x.S.length r
 ·obtain ⟨s1,s2,s3⟩:=snap_calm (s:=b) hc hw hd hb hr (by omega)
  have hw2:WlOk (snapF w x b).1.1 len:=by
   rw [s2]
   exact ⟨by show w.h.number + 1 ≤ 1099511627776;omega,by show 1 - w.h.half ≤ 1;omega,by show b.size + 0 ≤ roomF len;omega,Int.le_refl _,by show (0:Int) ≤ 4000000000000000000;omega⟩
  have hd2:(snapF w x b).1.1.dead = false:=by rw [s2]
  obtain ⟨a1,a2,a3⟩:=append_calm (r:=r) s3 hw2 hd2 h0 h1 (by rw [s2];show b.size + 0 + (frameF r).size ≤ roomF len;omega) (by rw [s2];show w.h.number + 1 < 1099511627776;omega)
  have e:mkW every w x b r = (appendF (snapF w x b).1.1 (snapF w x b).1.2 r).1:=if_pos hwt
  rw [e]
  refine ⟨⟨a3,?_,?_⟩,?_,fun _=>⟨s1,⟨s3,hw2,hd2⟩,a1⟩,fun q=>absurd hwt q⟩
  ·rw [a2,s2]
   exact ⟨by show w.h.number + 1 + 1 ≤ 1099511627776;omega,by show 1 - w.h.half ≤ 1;omega,by show b.size + (0 + (frameF r).size) ≤ roomF len;omega,by show (0:Int) ≤ 0 + 1;omega,by show (0:Int) + 1 ≤ 4000000000000000000;omega⟩
  ·rw [a2]
  ·rw [a2,s2];show w.h.number + 1 + 1 ≤ w.h.number + 2;omega
 ·have hroom:r.size ≤ roomW w len:=by
   unfold wants at hwt
   rw [hc.len] at hwt
   omega
  have hfit:=room_fits h0 hroom hw.fit
  obtain ⟨a1,a2,a3⟩:=append_calm (r:=r) hc hw hd h0 h1 hfit (by omega)
  have e:mkW every w x b r = (appendF w x r).1:=if_neg hwt
  rw [e]
  have hrc:w.recs < every:=by unfold wants at hwt;omega
  refine ⟨⟨a3,?_,?_⟩,?_,fun q=>absurd q hwt,fun _=>a1⟩
  ·rw [a2]
   refine ⟨by show w.h.number + 1 ≤ 1099511627776;omega,hw.f,by show w.h.snap + (w.h.log + (frameF r).size) ≤ roomF len;omega,by show 0 ≤ w.recs + 1;have:=hw.r0;omega,?_⟩
   show w.recs + 1 ≤ 4000000000000000000
   omega
  ·rw [a2]
  ·rw [a2];show w.h.number + 1 ≤ w.h.number + 2;omega
end Go.Proofs.YtkoelgkghijgiaaGreat
namespace Go.Proofs.YtkoelgkghijgiaaGreat
open Go Go.Sep Go.Proofs Go.Proofs.Tryz
set_option maxRecDepth 10000
set_option maxHeartbeats 40000000
set_option synthInstance.maxSize 2000
structure Cf where
 runners:Int
 lease:Int
 resend:Int
 attempts:Int
 window:Int
 quantum:Int
 block:Int
 every:Int
 half:Int
@[reducible] def Cf.row (c:Cf):List Value:=[.int .i64 c.runners,.int .i64 c.lease,.int .i64 c.resend,.int .i64 c.attempts,.int .i64 c.window,.int .i64 c.quantum,.int .i64 c.block,.int .i64 c.every,.int .i64 c.half]
def CfOk (c:Cf):Prop:=(1 ≤ c.runners ∧ c.runners ≤ 8) ∧ (1 ≤ c.lease ∧ c.lease ≤ 256) ∧ (1 ≤ c.resend ∧ c.resend ≤ 16) ∧ (1 ≤ c.attempts ∧ c.attempts ≤ 8) ∧ (1 ≤ c.window ∧ c.window ≤ 8) ∧ (1 ≤ c.quantum ∧ c.quantum ≤ 64) ∧ (1 ≤ c.block ∧ c.block ≤ 16) ∧ (1 ≤ c.every ∧ c.every ≤ 16) ∧ (160 ≤ c.half ∧ c.half ≤ 512)
instance (c:Cf):Decidable (CfOk c):=by unfold CfOk;infer_instance
def checkC (c:Cf):Int:=if CfOk c then 0 else 180
theorem cin_spec (a l h:Int):Con prog 181 #[.int .i64 a,.int .i64 l,.int .i64 h] [] fun v A=>v = .bool (decide (l ≤ a ∧ a ≤ h)) ∧ A = []:=by
 refine zqI (vs:=[_,_,_]) func181 ntmps181 fun B=>?_
 by_cases h1:l ≤ a
 ·by_cases h2:a ≤ h
  ·rw [decide_eq_true (⟨h1,h2⟩:l ≤ a ∧ a ≤ h)]
   refine zg7 ?_
   exact ze46
  ·rw [decide_eq_false (fun q:l ≤ a ∧ a ≤ h=>h2 q.2)]
   refine zg7 ?_
   exact ze47
 ·rw [decide_eq_false (fun q:l ≤ a ∧ a ≤ h=>h1 q.1)]
  refine zg11 ?_
  exact ze9
theorem rin18_spec (a l h:Int):Con prog 35 #[.int .i64 a,.int .i64 l,.int .i64 h] [] fun v A=>v = .bool (decide (l ≤ a ∧ a ≤ h)) ∧ A = []:=by
 refine zqI (vs:=[_,_,_]) func35 ntmps35 fun B=>?_
 by_cases h1:l ≤ a
 ·by_cases h2:a ≤ h
  ·rw [decide_eq_true (⟨h1,h2⟩:l ≤ a ∧ a ≤ h)]
   refine zg7 ?_
   exact ze46
  ·rw [decide_eq_false (fun q:l ≤ a ∧ a ≤ h=>h2 q.2)]
   refine zg7 ?_
   exact ze47
 ·rw [decide_eq_false (fun q:l ≤ a ∧ a ≤ h=>h1 q.1)]
  refine zg11 ?_
  exact ze9
theorem ccheck_spec (c:Cf):Con prog 112 #[.agg c.row.toArray] [] fun v A=>v = .int .i64 (checkC c) ∧ A = []:=by
 refine zqI (vs:=[_]) func112 ntmps112 fun B=>?_
 repeat' (first|refine zs0 ?_|refine Ops.box rfl rfl rfl rfl (noPd rfl) (fun b=>?_))
 refine Ops.callV (fi:=[]) (ca:=[]) (vs:=[_,_,_]) (cin_spec c.runners 1 8) rfl (noPd rfl) rfl rfl rfl rfl (fun v A' hR=>?_)
 obtain ⟨rfl,rfl⟩:=hR
 by_cases h0:1 ≤ c.runners ∧ c.runners ≤ 8
 case neg =>
  rw [decide_eq_false h0,show checkC c = 180 from if_neg (fun q=>h0 q.1)]
  refine zg6 ?_
  exact ze9
 rw [decide_eq_true h0]
 refine zg5 ?_
 refine Ops.callV (fi:=[]) (ca:=[]) (vs:=[_,_,_]) (cin_spec c.lease 1 256) rfl (noPd rfl) rfl rfl rfl rfl (fun v A' hR=>?_)
 obtain ⟨rfl,rfl⟩:=hR
 by_cases h1:1 ≤ c.lease ∧ c.lease ≤ 256
 case neg =>
  rw [decide_eq_false h1,show checkC c = 180 from if_neg (fun q=>h1 q.2.1)]
  refine zg6 ?_
  exact ze9
 rw [decide_eq_true h1]
 refine zg5 ?_
 refine Ops.callV (fi:=[]) (ca:=[]) (vs:=[_,_,_]) (cin_spec c.resend 1 16) rfl (noPd rfl) rfl rfl rfl rfl (fun v A' hR=>?_)
 obtain ⟨rfl,rfl⟩:=hR
 by_cases h2:1 ≤ c.resend ∧ c.resend ≤ 16
 case neg =>
  rw [decide_eq_false h2,show checkC c = 180 from if_neg (fun q=>h2 q.2.2.1)]
  refine zg6 ?_
  exact ze9
 rw [decide_eq_true h2]
 refine zg5 ?_
 refine Ops.callV (fi:=[]) (ca:=[]) (vs:=[_,_,_]) (cin_spec c.attempts 1 8) rfl (noPd rfl) rfl rfl rfl rfl (fun v A' hR=>?_)
 obtain ⟨rfl,rfl⟩:=hR
 by_cases h3:1 ≤ c.attempts ∧ c.attempts ≤ 8
 case neg =>
  rw [decide_eq_false h3,show checkC c = 180 from if_neg (fun q=>h3 q.2.2.2.1)]
  refine zg6 ?_
  exact ze9
 rw [decide_eq_true h3]
 refine zg5 ?_
 refine Ops.callV (fi:=[]) (ca:=[]) (vs:=[_,_,_]) (cin_spec c.window 1 8) rfl (noPd rfl) rfl rfl rfl rfl (fun v A' hR=>?_)
 obtain ⟨rfl,rfl⟩:=hR
 by_cases h4:1 ≤ c.window ∧ c.window ≤ 8
 case neg =>
  rw [decide_eq_false h4,show checkC c = 180 from if_neg (fun q=>h4 q.2.2.2.2.1)]
  refine zg6 ?_
  exact ze9
 rw [decide_eq_true h4]
 refine zg5 ?_
 refine Ops.callV (fi:=[]) (ca:=[]) (vs:=[_,_,_]) (cin_spec c.quantum 1 64) rfl (noPd rfl) rfl rfl rfl rfl (fun v A' hR=>?_)
 obtain ⟨rfl,rfl⟩:=hR
 by_cases h5:1 ≤ c.quantum ∧ c.quantum ≤ 64
 case neg =>
  rw [decide_eq_false h5,show checkC c = 180 from if_neg (fun q=>h5 q.2.2.2.2.2.1)]
  refine zg6 ?_
  exact ze9
 rw [decide_eq_true h5]
 refine zg5 ?_
 refine Ops.callV (fi:=[]) (ca:=[]) (vs:=[_,_,_]) (cin_spec c.block 1 16) rfl (noPd rfl) rfl rfl rfl rfl (fun v A' hR=>?_)
 obtain ⟨rfl,rfl⟩:=hR
 by_cases h6:1 ≤ c.block ∧ c.block ≤ 16
 case neg =>
  rw [decide_eq_false h6,show checkC c = 180 from if_neg (fun q=>h6 q.2.2.2.2.2.2.1)]
  refine zg6 ?_
  exact ze9
 rw [decide_eq_true h6]
 refine zg5 ?_
 refine Ops.callV (fi:=[]) (ca:=[]) (vs:=[_,_,_]) (cin_spec c.every 1 16) rfl (noPd rfl) rfl rfl rfl rfl (fun v A' hR=>?_)
 obtain ⟨rfl,rfl⟩:=hR
 by_cases h7:1 ≤ c.every ∧ c.every ≤ 16
 case neg =>
  rw [decide_eq_false h7,show checkC c = 180 from if_neg (fun q=>h7 q.2.2.2.2.2.2.2.1)]
  refine zg6 ?_
  exact ze9
 rw [decide_eq_true h7]
 refine zg5 ?_
 refine Ops.callV (fi:=[]) (ca:=[]) (vs:=[_,_,_]) (cin_spec c.half 160 512) rfl (noPd rfl) rfl rfl rfl rfl (fun v A' hR=>?_)
 obtain ⟨rfl,rfl⟩:=hR
 by_cases h8:160 ≤ c.half ∧ c.half ≤ 512
 case neg =>
  rw [decide_eq_false h8,show checkC c = 180 from if_neg (fun q=>h8 q.2.2.2.2.2.2.2.2)]
  refine zg6 ?_
  exact ze9
 rw [decide_eq_true h8]
 refine zg6 ?_
 rw [show checkC c = 0 from if_pos ⟨h0,h1,h2,h3,h4,h5,h6,h7,h8⟩]
 exact ze9
theorem rcheck18_spec (c:Cf):Con prog 9 #[.agg c.row.toArray] [] fun v A=>v = .int .i64 (checkC c) ∧ A = []:=by
 refine zqI (vs:=[_]) func9 ntmps9 fun B=>?_
 repeat' (first|refine zs0 ?_|refine Ops.box rfl rfl rfl rfl (noPd rfl) (fun b=>?_))
 refine zqA (rin18_spec c.runners 1 8) fun v A' hR=>?_
 obtain ⟨rfl,rfl⟩:=hR
 by_cases h0:1 ≤ c.runners ∧ c.runners ≤ 8
 case neg =>
  rw [decide_eq_false h0,show checkC c = 180 from if_neg (fun q=>h0 q.1)]
  refine zg6 ?_
  exact ze9
 rw [decide_eq_true h0]
 refine zg5 ?_
 refine zqA (rin18_spec c.lease 1 256) fun v A' hR=>?_
 obtain ⟨rfl,rfl⟩:=hR
 by_cases h1:1 ≤ c.lease ∧ c.lease ≤ 256
 case neg =>
  rw [decide_eq_false h1,show checkC c = 180 from if_neg (fun q=>h1 q.2.1)]
  refine zg6 ?_
  exact ze9
 rw [decide_eq_true h1]
 refine zg5 ?_
 refine zqA (rin18_spec c.resend 1 16) fun v A' hR=>?_
 obtain ⟨rfl,rfl⟩:=hR
 by_cases h2:1 ≤ c.resend ∧ c.resend ≤ 16
 case neg =>
  rw [decide_eq_false h2,show checkC c = 180 from if_neg (fun q=>h2 q.2.2.1)]
  refine zg6 ?_
  exact ze9
 rw [decide_eq_true h2]
 refine zg5 ?_
 refine zqA (rin18_spec c.attempts 1 8) fun v A' hR=>?_
 obtain ⟨rfl,rfl⟩:=hR
 by_cases h3:1 ≤ c.attempts ∧ c.attempts ≤ 8
 case neg =>
  rw [decide_eq_false h3,show checkC c = 180 from if_neg (fun q=>h3 q.2.2.2.1)]
  refine zg6 ?_
  exact ze9
 rw [decide_eq_true h3]
 refine zg5 ?_
 refine zqA (rin18_spec c.window 1 8) fun v A' hR=>?_
 obtain ⟨rfl,rfl⟩:=hR
 by_cases h4:1 ≤ c.window ∧ c.window ≤ 8
 case neg =>
  rw [decide_eq_false h4,show checkC c = 180 from if_neg (fun q=>h4 q.2.2.2.2.1)]
  refine zg6 ?_
  exact ze9
 rw [decide_eq_true h4]
 refine zg5 ?_
 refine zqA (rin18_spec c.quantum 1 64) fun v A' hR=>?_
 obtain ⟨rfl,rfl⟩:=hR
 by_cases h5:1 ≤ c.quantum ∧ c.quantum ≤ 64
 case neg =>
  rw [decide_eq_false h5,show checkC c = 180 from if_neg (fun q=>h5 q.2.2.2.2.2.1)]
  refine zg6 ?_
  exact ze9
 rw [decide_eq_true h5]
 refine zg5 ?_
 refine zqA (rin18_spec c.block 1 16) fun v A' hR=>?_
 obtain ⟨rfl,rfl⟩:=hR
 by_cases h6:1 ≤ c.block ∧ c.block ≤ 16
 case neg =>
  rw [decide_eq_false h6,show checkC c = 180 from if_neg (fun q=>h6 q.2.2.2.2.2.2.1)]
  refine zg6 ?_
  exact ze9
 rw [decide_eq_true h6]
 refine zg5 ?_
 refine zqA (rin18_spec c.every 1 16) fun v A' hR=>?_
 obtain ⟨rfl,rfl⟩:=hR
 by_cases h7:1 ≤ c.every ∧ c.every ≤ 16
 case neg =>
  rw [decide_eq_false h7,show checkC c = 180 from if_neg (fun q=>h7 q.2.2.2.2.2.2.2.1)]
  refine zg6 ?_
  exact ze9
 rw [decide_eq_true h7]
 refine zg5 ?_
 refine zqA (rin18_spec c.half 160 512) fun v A' hR=>?_
 obtain ⟨rfl,rfl⟩:=hR
 by_cases h8:160 ≤ c.half ∧ c.half ≤ 512
 case neg =>
  rw [decide_eq_false h8,show checkC c = 180 from if_neg (fun q=>h8 q.2.2.2.2.2.2.2.2)]
  refine zg6 ?_
  exact ze9
 rw [decide_eq_true h8]
 refine zg6 ?_
 rw [show checkC c = 0 from if_pos ⟨h0,h1,h2,h3,h4,h5,h6,h7,h8⟩]
 exact ze9
def fitsF (c:Cf) (x:Dk):Bool:=decide (checkC c = 0 ∧ (x.S.length:Int) = 2 + 2 * c.half)
theorem fits_spec (c:Cf) (db:Nat) (x:Dk) (k:Nat) (D:List Blk) (hD:DkA db x k D):Con prog 73 #[.agg c.row.toArray,ptr db] D fun v A=>v = .bool (fitsF c x) ∧ A = D:=by
 refine zqI (vs:=[_,_]) func73 ntmps73 fun B=>?_
 repeat' (first|refine zs1 ?_|refine Ops.box rfl rfl rfl rfl (noPd rfl) (fun b=>?_))
 refine zdr [qy 0,(1,2,[]),qz 2,qz 3,qz 4,qz 6,qy 7,qz 8,qz 9,(5,2,[7]),qz 10,qz 11,qz 12] ?_
 refine zg3 ?_
 refine Ops.call (ccheck_spec c) rfl zp1 rfl rfl rfl (fun v A' hR=>?_)
 obtain ⟨rfl,rfl⟩:=hR
 by_cases hc:CfOk c
 case neg =>
  rw [show checkC c = 180 from if_neg hc,show fitsF c x = false from by unfold fitsF;rw [show checkC c = 180 from if_neg hc];simp]
  refine zg12 ?_
  exact ze59
 have hh:160 ≤ c.half ∧ c.half ≤ 512:=hc.2.2.2.2.2.2.2.2
 rw [show checkC c = 0 from if_pos hc,show fitsF c x = decide ((x.S.length:Int) = 2 + 2 * c.half) from by unfold fitsF;rw [show checkC c = 0 from if_pos hc];simp]
 refine zg16 ?_
 refine Ops.call (dsize_spec db x.S x.ar x.bd x.de k D hD.a) rfl zp1 rfl rfl rfl (fun v A' hR=>?_)
 obtain ⟨rfl,e⟩:=hR
 subst A'
 refine zg3 ?_
 exact ze59
end Go.Proofs.YtkoelgkghijgiaaGreat
namespace Go.Proofs.YtkoelgkghijgiaaGreat.Ls
open Go Go.Sep Go.Proofs Go.Proofs.Tryz
set_option maxRecDepth 10000
set_option maxHeartbeats 2000000
set_option synthInstance.maxSize 2000
theorem u64_small {n:Int} (h0:0 ≤ n) (h1:n ≤ 12):IntKind.u64.wrap n = n:=by simp [IntKind.wrap,IntKind.bits,IntKind.signed];omega
theorem u8_small {n:Int} (h0:0 ≤ n) (h1:n ≤ 12):IntKind.u8.wrap n = n:=by simp [IntKind.wrap,IntKind.bits,IntKind.signed];omega
theorem nan_spec (a:Int):Con prog 304 #[.int .i64 a] [] fun v A=>v = .bool false ∧ A = []:=by
 refine zqI (vs:=[_]) func304 ntmps304 fun B=>?_
 refine zg3 ?_
 exact Cd.ret (ret1 rfl (Res.tmp rfl) (fun _ h=>h) ⟨by simp,rfl⟩)
theorem less_spec (a b:Int):Con prog 270 #[.int .i64 a,.int .i64 b] [] fun v A=>v = .bool (decide (a < b)) ∧ A = []:=by
 refine zqI (vs:=[_,_]) func270 ntmps270 fun B=>?_
 refine zg0 ?_
 refine zqA (nan_spec a) fun v A' hR=>?_
 obtain ⟨rfl,rfl⟩:=hR
 refine zg7 ?_
 exact Cd.ret (ret1 rfl (Res.tmp rfl) (fun _ h=>h) ⟨rfl,rfl⟩)
theorem len64_spec (n:Int) (h0:0 ≤ n) (h1:n ≤ 12):Con prog 274 #[.int .u64 n] [] fun v A=>(∃ k,v = .int .i64 k) ∧ A = []:=by
 refine zqI (vs:=[_]) func274 ntmps274 fun B=>?_
 refine zg2 ?_
 refine Ops.cvI rfl rfl rfl rfl ?_
 rw [u8_small h0 h1]
 refine Ops.ixE rfl rfl rfl rfl h0 (Nat.lt_of_le_of_lt (show n.toNat ≤ 12 from by omega) (by decide +kernel)) rfl (fun b _=>?_)
 refine Ops.cvI rfl rfl rfl rfl ?_
 refine zg3 ?_
 exact Cd.ret (ret1 rfl (Res.tmp rfl) (fun _ h=>h) ⟨⟨_,rfl⟩,rfl⟩)
theorem blen_spec (n:Int) (h0:0 ≤ n) (h1:n ≤ 12):Con prog 224 #[.int .u64 n] [] fun v A=>(∃ k,v = .int .i64 k) ∧ A = []:=by
 refine zqI (vs:=[_]) func224 ntmps224 fun B=>?_
 refine zg4 ?_
 refine zqA (len64_spec n h0 h1) fun v A' hR=>?_
 obtain ⟨⟨k,rfl⟩,rfl⟩:=hR
 refine zg0 ?_
 exact Cd.ret (ret1 rfl (Res.tmp rfl) (fun _ h=>h) ⟨⟨_,rfl⟩,rfl⟩)
@[reducible] def irow (x:Int):List Value:=[.int .i64 x]
theorem irows_ok (xs:List Int):RowsOk 1 (xs.map irow):=rows_map (f:=irow) (fun _=>⟨rfl,rfl⟩) xs
def OwnI (sv:Value) (xs:List Int) (G:List Blk):Prop:=Own 3 1 sv (xs.map irow) G
@[reducible] def IB (g:Nat) (xs:List Int) (sp:List Value):List Blk:=[(g,cl ((xs.map irow).flatten ++ sp) 3)]
theorem pw_app {a b:List Int} (h:(a ++ b).Pairwise (· ≤ ·)):a.Pairwise (· ≤ ·) ∧ b.Pairwise (· ≤ ·) ∧ ∀ x ∈ a,∀ y ∈ b,x ≤ y:=List.pairwise_append.1 h
theorem swap_rows (L' R':List Int) (x y:Int):((((L' ++ [y]) ++ x :: R').map irow).set (L'.length + 1) [.int .i64 y]).set L'.length [.int .i64 x] = (L' ++ x :: (y :: R')).map irow:=by
 simp [List.set_append]
theorem ins_spec (g n c:Nat) (xs:List Int) (sp:List Value) (hn:xs.length = n) (hc:n ≤ c) (hbig:n ≤ 1000000) :
  Con prog 264 #[.slice (some ⟨g,0,none⟩) n c,.int .i64 0,.int .i64 n] (IB g xs sp) fun v A=>∃ ys,A = IB g ys sp ∧ ys.Perm xs ∧ ys.Pairwise (· ≤ ·):=by
 refine zqI (vs:=[_,_,_]) func264 ntmps264 fun B=>?_
 refine zg9 ?_
 refine Cd.loopK (fun s:Nat × List Int=>1 ≤ s.1 ∧ (s.1 ≤ n ∨ s.1 = 1) ∧ s.2.Perm xs ∧ (s.2.take s.1).Pairwise (· ≤ ·)) (fun s=>[(0,.slice (some ⟨g,0,none⟩) n c),(1,.int .i64 0),(2,.int .i64 n),(6,.int .i64 s.1)])
  (fun s=>IB g s.2 sp) (fun s=>n - s.1) (1,xs) ⟨Nat.le_refl _,.inr rfl,.refl _,by
   cases xs with
   | nil=>exact List.Pairwise.nil
   | cons x xs=>simp⟩ ⟨rfl,rfl,rfl,rfl,trivial⟩ (fun w h=>h) (fun s hI=>?_)
 obtain ⟨i,zs⟩:=s
 obtain ⟨hi1,hin,hp,hs⟩:=hI
 dsimp only at hi1 hin hp hs ⊢
 have hzl:zs.length = n:=by rw [hp.length_eq,hn]
 by_cases hil:i < n
 ·have hil':(i:Int) < n:=by omega
  obtain ⟨x,hx⟩:∃ x,zs[i]? = some x:=⟨_,List.getElem?_eq_getElem (by omega)⟩
  have hsplit:zs = zs.take i ++ x :: zs.drop (i + 1):=by
   obtain ⟨h1,h2⟩:=List.getElem?_eq_some_iff.1 hx
   have e:=List.take_append_drop i zs
   rw [List.drop_eq_getElem_cons h1,h2] at e
   exact e.symm
  have htl:(zs.take i).length = i:=by rw [List.length_take];omega
  generalize zs.take i = L0 at hsplit hs htl
  generalize hrest:zs.drop (i + 1) = rest at hsplit
  refine zg2 ?_
  refine Cd.loopK (fun s:List Int × List Int=>s.1.length + s.2.length = i ∧ (s.1 ++ s.2).Pairwise (· ≤ ·) ∧ (∀ y ∈ s.2,x ≤ y) ∧ (s.1 ++ x :: (s.2 ++ rest)).Perm xs) (fun s=>[(0,.slice (some ⟨g,0,none⟩) n c),(1,.int .i64 0),(2,.int .i64 n),(6,.int .i64 i),(7,.int .i64 s.1.length)])
   (fun s=>IB g (s.1 ++ x :: (s.2 ++ rest)) sp) (fun s=>s.1.length) (L0,[]) ⟨by simp [htl],by simpa using hs,by simp,by rw [List.nil_append,← hsplit];exact hp⟩
   ⟨rfl,rfl,rfl,rfl,by rw [htl];rfl,trivial⟩ (fun w h=>by rw [List.nil_append,← hsplit];exact h) (fun s hJ=>?_)
  obtain ⟨L,R⟩:=s
  obtain ⟨hl,hpw,hge,hperm⟩:=hJ
  dsimp only at hl hpw hge hperm ⊢
  have hlen:(L ++ x :: (R ++ rest)).length = n:=by rw [hperm.length_eq,hn]
  have hk:=irows_ok (L ++ x :: (R ++ rest))
  have hxj:((L ++ x :: (R ++ rest)).map irow)[(L.length:Int).toNat]? = some [.int .i64 x]:=by
   rw [Int.toNat_natCast,List.getElem?_map,List.getElem?_append_right (Nat.le_refl _),Nat.sub_self];rfl
  have fin2:(∀ y ∈ L,y ≤ x) → ((L ++ x :: (R ++ rest)).take (i + 1)).Pairwise (· ≤ ·):=fun hle=>by
   rw [show L ++ x :: (R ++ rest) = (L ++ x :: R) ++ rest from by simp,List.take_left' (by simp;omega)]
   obtain ⟨a1,a2,a3⟩:=pw_app hpw
   rw [List.pairwise_append]
   refine ⟨a1,List.pairwise_cons.2 ⟨hge,a2⟩,fun y hy z hz=>?_⟩
   rcases List.mem_cons.1 hz with rfl|hz
   ·exact hle y hy
   ·exact a3 y hy z hz
  have done:∀ y':List Int,y'.Perm xs → (y'.take (i + 1)).Pairwise (· ≤ ·) → 1 ≤ i + 1 ∧ (i + 1 ≤ n ∨ i + 1 = 1) ∧ y'.Perm xs ∧ (y'.take (i + 1)).Pairwise (· ≤ ·):=fun y' h1 h2=>⟨by omega,.inl (by omega),h1,h2⟩
  clear hsplit hs htl hx hrest hp hzl
  rcases List.eq_nil_or_concat L with rfl|⟨L',y,rfl⟩
  ·have hz:([]:List Int).length = 0:=rfl
   rw [hz]
   refine zg0 ?_
   refine zdr [qz 0,qz 1,qz 2,qz 3,qz 4,qz 5,qz 6,qy 7,qz 8,qz 9,qz 10,qz 11,qy 12,(13,2,[]),qz 14] ?_
   refine zg13 ?_
   have h9:=fin2 (fun y hy=>by cases hy)
   exact Ops.nilN (round_end (i + 1,([]:List Int) ++ x :: (R ++ rest)) (done _ hperm h9) (by show n - (i + 1) < n - i;omega) ⟨rfl,rfl,rfl,rfl,trivial⟩ (fun w h=>h))
  ·rw [List.concat_eq_append] at *
   have hyj:(((L' ++ [y]) ++ x :: (R ++ rest)).map irow)[(((L'.length + 1:Nat):Int) - 1).toNat]? = some [.int .i64 y]:=by
    rw [show (((L'.length + 1:Nat):Int) - 1).toNat = L'.length from by omega,List.getElem?_map,List.getElem?_append_left (by simp),List.getElem?_append_right (Nat.le_refl _),Nat.sub_self];try rfl
   rw [show (L' ++ [y]).length = L'.length + 1 from by simp] at hxj hl
   have hbd:L'.length + 1 < n:=by rw [← hlen];simp
   rw [show (L' ++ [y]).length = L'.length + 1 from by simp]
   refine zg0 ?_
   refine zdr [qz 0,qz 1,qz 2,qz 3,qz 4,qz 5,qz 6,qy 7,qz 8,qz 9,qz 10,qz 11,qy 12,(13,2,[]),qz 14] ?_
   refine zg14 ?_
   refine zqA (less_spec x y) fun v A' hR=>?_
   obtain ⟨rfl,rfl⟩:=hR
   by_cases hlt:x < y
   ·refine zg15 ?_
    refine zdr [qz 0,qz 1,qz 2,qz 3,qz 4,qz 5,qz 6,qz 7,qz 8,qy 9,qz 10,qz 11,qz 12,qy 13,qz 14,(15,2,[]),qz 16,(17,2,[])] ?_
    refine zg14 ?_
    refine Ops.stRow rfl rfl rfl rfl rfl rfl hk (by rw [List.length_map,hlen,Int.toNat_natCast];omega) (noPd rfl) ?_
    refine zg14 ?_
    refine Ops.stRow rfl rfl rfl rfl rfl rfl (hk.set rfl rfl) (by rw [List.length_set,List.length_map,hlen];omega) (noPd rfl) ?_
    refine zg11 ?_
    have e1:(((L'.length + 1:Nat):Int) - 1).toNat = L'.length:=by omega
    obtain ⟨a1,a2,a3⟩:=pw_app hpw
    obtain ⟨b1,b2,b3⟩:=pw_app a1
    have g1:∀ z ∈ y :: R,x ≤ z:=fun z hz=>by
     rcases List.mem_cons.1 hz with rfl|hz
     ·omega
     ·have:=a3 y (by simp) z hz;omega
    have g2:(L' ++ x :: (y :: R ++ rest)).Perm xs:=by
     refine List.Perm.trans ?_ hperm
     simp only [List.append_assoc,List.cons_append,List.nil_append]
     exact (List.Perm.swap y x _).append_left L'
    exact Ops.nilN (round_end ((L',y :: R):List Int × List Int) ⟨by show L'.length + (y :: R).length = i;simp;omega,by show (L' ++ y :: R).Pairwise (· ≤ ·);simpa using hpw,g1,g2⟩ (by show L'.length < L'.length + 1;omega) ⟨rfl,rfl,rfl,rfl,congrArg (fun x=>some (Value.int .i64 x)) (by show ((L'.length + 1:Nat):Int) - 1 = L'.length;omega),trivial⟩ (fun w h=>by
     rw [e1,Int.toNat_natCast,swap_rows] at h
     exact h))
   ·refine zg13 ?_
    have h9:=fin2 (fun z hz=>by
     rcases List.mem_append.1 hz with hz|hz
     ·have:=(pw_app (pw_app hpw).1).2.2 z hz y (by simp);omega
     ·obtain rfl:=List.mem_singleton.1 hz;omega)
    exact Ops.nilN (round_end (i + 1,(L' ++ [y]) ++ x :: (R ++ rest)) (done _ hperm h9) (by show n - (i + 1) < n - i;omega) ⟨rfl,rfl,rfl,rfl,trivial⟩ (fun w h=>h))
 ·have hil':¬ (i:Int) < n:=by omega
  have:zs.take i = zs:=List.take_of_length_le (by omega)
  rw [this] at hs
  refine zg2 ?_
  exact Cd.exit (end0 (A':=IB g zs sp) rfl (fun w h=>h) ⟨zs,rfl,hp,hs⟩)
end Go.Proofs.YtkoelgkghijgiaaGreat.Ls
