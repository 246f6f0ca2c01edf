import Derived.Test.YtaecdnfkcebbeaaGreatA01
import Derived.Test.YtaecdnfkcebbeaaGreatA19
set_option linter.unusedVariables false
set_option linter.unusedSimpArgs false
namespace Go.Proofs.YtaecdnfkcebbeaaGreat
open Go Go.Sep Go.Proofs
set_option maxRecDepth 10000
set_option maxHeartbeats 40000000
set_option synthInstance.maxSize 2000
theorem cloneT_spec (B0:Base) (a:Option Addr) (n c:Nat) (rows:List (List Value)) (hn:n = rows.length) (hok:RowsOk 1 rows) (hS:RIn 1 B0 a rows) (hl:rows.length ≤ 2000000) :
  ConB Tryz.prog B0 29 #[.slice a n c] [] fun v A=>Own 9 1 v rows A:=by
 subst hn
 refine ConB.intro (vs:=[_]) Tryz.func29 rfl Tryz.ntmps29 rfl (fun B hx=>?_)
 have hS:=hS.ext hx
 generalize B.plain = B1 at hS ⊢
 clear hx
 cases a with
 | none =>
  obtain rfl:rows = []:=by
   cases rows with
   | nil=>rfl
   | cons x l=>obtain ⟨b,off,h,_⟩:=hS 0 x rfl;cases h
  refine zg5 ?_
  exact ze31
 | some ad =>
  repeat' (first|refine Cd.seq ?_|refine Cd.reg ?_|refine Ops.nil ?_|refine Ops.mv rfl rfl rfl rfl ?_|refine Ops.asg rfl rfl rfl rfl ?_|refine Ops.bin rfl rfl rfl rfl rfl ?_|refine Ops.bs0 rfl rfl rfl (noPd rfl) (fun b=>?_)|refine Cd.condF rfl rfl ?_|refine Cd.skip (Cd.next ?_))
  refine Ops.appS (rows:=[]) (news:=rows) Own.empty (hS.reads hok (by decide) c _) (by rw [List.length_nil];omega) (by rw [List.length_nil];omega) rfl rfl rfl rfl rfl (noPd rfl) rfl (fun v G' hG'=>?_)
  rw [List.nil_append] at hG'
  obtain ⟨a',c',rfl⟩:=hG'.form
  refine zg1 ?_
  exact ze32
theorem cloneL_spec (B0:Base) (a:Option Addr) (n c:Nat) (rows:List (List Value)) (hn:n = rows.length) (hok:RowsOk 1 rows) (hS:RIn 1 B0 a rows) (hl:rows.length ≤ 2000000) :
  ConB Tryz.prog B0 55 #[.slice a n c] [] fun v A=>Own 67 1 v rows A:=by
 subst hn
 refine ConB.intro (vs:=[_]) Tryz.func55 rfl Tryz.ntmps55 rfl (fun B hx=>?_)
 have hS:=hS.ext hx
 generalize B.plain = B1 at hS ⊢
 clear hx
 cases a with
 | none =>
  obtain rfl:rows = []:=by
   cases rows with
   | nil=>rfl
   | cons x l=>obtain ⟨b,off,h,_⟩:=hS 0 x rfl;cases h
  refine zg5 ?_
  exact ze31
 | some ad =>
  repeat' (first|refine Cd.seq ?_|refine Cd.reg ?_|refine Ops.nil ?_|refine Ops.mv rfl rfl rfl rfl ?_|refine Ops.asg rfl rfl rfl rfl ?_|refine Ops.bin rfl rfl rfl rfl rfl ?_|refine Ops.bs0 rfl rfl rfl (noPd rfl) (fun b=>?_)|refine Cd.condF rfl rfl ?_|refine Cd.skip (Cd.next ?_))
  refine Ops.appS (rows:=[]) (news:=rows) Own.empty (hS.reads hok (by decide) c _) (by rw [List.length_nil];omega) (by rw [List.length_nil];omega) rfl rfl rfl rfl rfl (noPd rfl) rfl (fun v G' hG'=>?_)
  rw [List.nil_append] at hG'
  obtain ⟨a',c',rfl⟩:=hG'.form
  refine zg1 ?_
  exact ze32
theorem cloneR_spec (B0:Base) (a:Option Addr) (n c:Nat) (rows:List (List Value)) (hn:n = rows.length) (hok:RowsOk 8 rows) (hS:RIn 8 B0 a rows) (hl:rows.length ≤ 2000000) :
  ConB Tryz.prog B0 70 #[.slice a n c] [] fun v A=>Own 98 8 v rows A:=by
 subst hn
 refine ConB.intro (vs:=[_]) Tryz.func70 rfl Tryz.ntmps70 rfl (fun B hx=>?_)
 have hS:=hS.ext hx
 generalize B.plain = B1 at hS ⊢
 clear hx
 cases a with
 | none =>
  obtain rfl:rows = []:=by
   cases rows with
   | nil=>rfl
   | cons x l=>obtain ⟨b,off,h,_⟩:=hS 0 x rfl;cases h
  refine zg5 ?_
  exact ze31
 | some ad =>
  repeat' (first|refine Cd.seq ?_|refine Cd.reg ?_|refine Ops.nil ?_|refine Ops.mv rfl rfl rfl rfl ?_|refine Ops.asg rfl rfl rfl rfl ?_|refine Ops.bin rfl rfl rfl rfl rfl ?_|refine Ops.bs0 rfl rfl rfl (noPd rfl) (fun b=>?_)|refine Cd.condF rfl rfl ?_|refine Cd.skip (Cd.next ?_))
  refine Ops.appS (rows:=[]) (news:=rows) Own.empty (hS.reads hok (by decide) c _) (by rw [List.length_nil];omega) (by rw [List.length_nil];omega) rfl rfl rfl rfl rfl (noPd rfl) rfl (fun v G' hG'=>?_)
  rw [List.nil_append] at hG'
  obtain ⟨a',c',rfl⟩:=hG'.form
  refine zg1 ?_
  exact ze32
structure Rw where
 job:Int
 status:Int
 att:Int
 badge:Int
 node:Int
 life:Int
 rcode:Int
 rbits:Int
@[reducible] def Rw.row (r:Rw):List Value:=[.int .i64 r.job,.int .i64 r.status,.int .i64 r.att,.int .i64 r.badge,.int .i64 r.node,.int .i64 r.life,.int .i64 r.rcode,.int .u64 r.rbits]
theorem rws_ok (l:List Rw):RowsOk 8 (l.map Rw.row):=rows_map (f:=Rw.row) (fun _=>⟨rfl,rfl⟩) l
def OwnQ (sv:Value) (l:List Rw) (G:List Blk):Prop:=Own 98 8 sv (l.map Rw.row) G
theorem OwnQ.form {sv:Value} {l:List Rw} {G:List Blk} (h:OwnQ sv l G):∃ a c,sv = .slice a l.length c:=by
 obtain ⟨a,c,h⟩:=Own.form h
 exact ⟨a,c,by rw [h,List.length_map]⟩
@[reducible] def QuB (qb:Nat) (att:Int) (rv:Value):Blk:=(qb,cl [.int .i64 att,rv] 125)
@[reducible] def StB (sb qb:Nat) (res:Int) (pv lv:Value):Blk:=(sb,cl [ptr qb,.int .i64 res,pv,lv] 78)
theorem qnew_yes (n:Int) (h1:1 ≤ n) (h2:n ≤ 8):Con Tryz.prog 22 #[.int .i64 n] [] fun v A=>∃ qb,v = .tuple #[ptr qb,.int .i64 0] ∧ A = [QuB qb n (.slice none 0 0)]:=by
 refine Con.intro (vs:=[_]) Tryz.func22 rfl Tryz.ntmps22 rfl (fun B=>?_)
 have g1:¬ n < 1:=by omega
 have g2:¬ 8 < n:=by omega
 repeat' (first|refine Cd.seq ?_|refine Cd.reg ?_|refine Ops.nil ?_|refine Ops.mv rfl rfl rfl rfl ?_|refine Ops.asg rfl rfl rfl rfl ?_|refine Ops.bin rfl rfl rfl rfl rfl ?_|refine Ops.pickF rfl rfl rfl rfl rfl ?_|refine Ops.bld rfl rfl rfl rfl ?_|refine Ops.box rfl rfl rfl rfl (noPd rfl) (fun b=>?_)|refine Cd.skip (Cd.next ?_)|refine Cd.condF rfl zp0 ?_|((fail_if_success refine Ops.probe rfl ?_);refine Ops.gF rfl rfl zp0 ?_))
 rename Nat=>qb
 exact Cd.ret (ret2 (A':=[QuB qb n (.slice none 0 0)]) rfl (Res.tmp rfl) (Res.tmp rfl) (fun _ h=>h.split) ⟨qb,rfl,rfl⟩)
theorem snew_yes (n:Int) (h1:1 ≤ n) (h2:n ≤ 8):Con Tryz.prog 7 #[.int .i64 n] [] fun v A=>∃ sb qb,v = .tuple #[ptr sb,.int .i64 0] ∧ A = [StB sb qb 0 (.slice none 0 0) (.slice none 0 0),QuB qb n (.slice none 0 0)]:=by
 refine Con.intro (vs:=[_]) Tryz.func7 rfl Tryz.ntmps7 rfl (fun B=>?_)
 refine zg0 ?_
 refine Ops.call (qnew_yes n h1 h2) rfl (noPd rfl) rfl rfl rfl (fun v A' hR=>?_)
 obtain ⟨qb,rfl,rfl⟩:=hR
 repeat' (first|refine Cd.seq ?_|refine Cd.reg ?_|refine Ops.nil ?_|refine Ops.mv rfl rfl rfl rfl ?_|refine Ops.asg rfl rfl rfl rfl ?_|refine Ops.bin rfl rfl rfl rfl rfl ?_|refine Ops.ext rfl rfl rfl rfl rfl ?_|refine Ops.bld rfl rfl rfl rfl ?_|refine Ops.box rfl rfl rfl rfl (noPd rfl) (fun b=>?_)|refine Cd.condF rfl rfl ?_|refine Cd.skip (Cd.next ?_))
 rename Nat=>sb
 exact Cd.ret (ret2 (A':=[StB sb qb 0 (.slice none 0 0) (.slice none 0 0),QuB qb n (.slice none 0 0)]) rfl (Res.tmp rfl) (Res.tmp rfl) (fun _ h=>h.split) ⟨sb,qb,rfl,rfl⟩)
theorem reserved_spec (sb qb:Nat) (res:Int) (pv lv:Value):Con Tryz.prog 83 #[ptr sb] [StB sb qb res pv lv] fun v A=>v = .int .i64 res ∧ A = [StB sb qb res pv lv]:=by
 refine Con.intro (vs:=[_]) Tryz.func83 rfl Tryz.ntmps83 rfl (fun B=>?_)
 refine zg4 ?_
 exact ze33
theorem qclone_spec (B0:Base) (qb:Nat) (att:Int) (a:Option Addr) (c:Nat) (l:List Rw) (hQ:Holds B0 [QuB qb att (.slice a l.length c)]) (hR:RIn 8 B0 a (l.map Rw.row)) (hl:l.length ≤ 2000000) :
  ConB Tryz.prog B0 54 #[ptr qb] [] fun v A=>∃ q2 rv G,v = ptr q2 ∧ A = QuB q2 att rv :: G ∧ OwnQ rv l G:=by
 refine ConB.intro (vs:=[_]) Tryz.func54 rfl Tryz.ntmps54 rfl (fun B hB=>?_)
 have hQ:=hB.holds hQ
 have hc0:∀ A,Rd B.plain A qb 0 (.int .i64 att):=hQ.cell (List.mem_singleton.2 rfl) rfl
 have hc1:∀ A,Rd B.plain A qb 1 (.slice a l.length c):=hQ.cell (List.mem_singleton.2 rfl) rfl
 refine zg0 ?_
 refine Cd.draw [(0,0,[]),(1,0,[]),(2,0,[]),(3,1,[]),(4,0,[]),(5,0,[]),(6,0,[]),(7,1,[]),(8,2,[3]),(9,0,[]),(10,2,[]),(11,0,[])] (by kernel_rfl) (by kernel_rfl) (by simp only [picked,nth];exact rfl) ?_
 refine zg2 ?_
 refine Ops.ldR rfl rfl rfl (hc0 _) rfl ?_
 refine zg2 ?_
 refine Ops.ldR rfl rfl rfl (hc1 _) rfl ?_
 refine Ops.callB (cloneR_spec B0 a l.length c (l.map Rw.row) (by simp) (rws_ok l) hR (by simpa using hl)) hB rfl zp6 rfl rfl rfl (fun v A' hR=>?_)
 obtain ⟨a2,c2,rfl⟩:=Own.form hR
 repeat' (first|refine Ops.nil ?_|refine Ops.asg rfl rfl rfl rfl ?_|refine Ops.bld rfl rfl rfl rfl ?_|refine Ops.box rfl rfl rfl rfl (noPd rfl) (fun b=>?_))
 rename Nat=>q2
 exact Cd.ret (ret1 (A':=QuB q2 att _ :: A') rfl (Res.tmp rfl) (fun _ h=>h.split) ⟨q2,_,A',rfl,rfl,hR⟩)
structure Lg where
 a:Option Addr
 c:Nat
 txs:List ByteArray
 G:List Blk
@[reducible] def Lg.row (x:Lg):List Value:=[.slice x.a x.txs.length x.c]
theorem lgs_ok (l:List Lg):RowsOk 1 (l.map Lg.row):=rows_map (f:=Lg.row) (fun _=>⟨rfl,rfl⟩) l
structure StP where
 att:Int
 rows:List Rw
 res:Int
 progs:List ByteArray
 logs:List (List ByteArray)
def StA (sb:Nat) (s:StP) (D:List Blk):Prop :=
 ∃ qb rv RG pv PG lv LG,∃ ls:List Lg,D = StB sb qb s.res pv lv :: QuB qb s.att rv :: (RG ++ (PG ++ (LG ++ ls.flatMap Lg.G))) ∧ OwnQ rv s.rows RG ∧ OwnT pv s.progs PG ∧ Own 67 1 lv (ls.map Lg.row) LG ∧ (∀ x ∈ ls,OwnT (.slice x.a x.txs.length x.c) x.txs x.G) ∧ ls.map Lg.txs = s.logs
def StIn (B:Base) (sb:Nat) (s:StP):Prop :=
 ∃ qb ra rc pa pc la lc,∃ ls:List Lg,Holds B [StB sb qb s.res (.slice pa s.progs.length pc) (.slice la s.logs.length lc),QuB qb s.att (.slice ra s.rows.length rc)] ∧ RIn 8 B ra (s.rows.map Rw.row) ∧ RIn 1 B pa (s.progs.map trow) ∧ RIn 1 B la (ls.map Lg.row) ∧ (∀ x ∈ ls,RIn 1 B x.a (x.txs.map trow)) ∧ ls.map Lg.txs = s.logs
theorem StA.in_ {sb:Nat} {s:StP} {D:List Blk} (h:StA sb s D) {B:Base} (hB:Holds B D):StIn B sb s:=by
 obtain ⟨qb,rv,RG,pv,PG,lv,LG,ls,rfl,hR,hP,hL,hT,hl⟩:=h
 obtain ⟨ra,rc,rfl⟩:=hR.form
 obtain ⟨pa,pc,rfl⟩:=hP.form
 obtain ⟨la,lc,rfl⟩:=Own.form hL
 have hlen:(ls.map Lg.row).length = s.logs.length:=by rw [← hl,List.length_map,List.length_map]
 rw [hlen] at hB hL
 refine ⟨qb,ra,rc,pa,pc,la,lc,ls,hB.sub (fun p hp=>?_),Own.rin hR (hB.sub fun p hp=>?_),Own.rin hP (hB.sub fun p hp=>?_),Own.rin hL (hB.sub fun p hp=>?_),fun x hx=>Own.rin (hT x hx) (hB.sub fun p hp=>?_),hl⟩
 ·rcases List.mem_cons.1 hp with rfl|hp
  ·exact List.mem_cons_self ..
  ·rw [List.mem_singleton] at hp
   subst hp
   exact List.mem_cons_of_mem _ (List.mem_cons_self ..)
 ·simp [hp]
 ·simp [hp]
 ·simp [hp]
 ·have:p ∈ ls.flatMap Lg.G:=List.mem_flatMap.2 ⟨x,hx,hp⟩
  simp only [List.mem_cons,List.mem_append]
  exact .inr (.inr (.inr (.inr (.inr this))))
theorem StIn.ext {B B2:Base} {sb:Nat} {s:StP} (e:Ext B B2) (h:StIn B sb s):StIn B2 sb s:=by
 obtain ⟨qb,ra,rc,pa,pc,la,lc,ls,h1,h2,h3,h4,h5,h6⟩:=h
 exact ⟨qb,ra,rc,pa,pc,la,lc,ls,e.holds h1,h2.ext e,h3.ext e,h4.ext e,fun x hx=>(h5 x hx).ext e,h6⟩
structure StOk (s:StP):Prop where
 a1:1 ≤ s.att
 a8:s.att ≤ 8
 nr:s.rows.length ≤ 8
 np:s.progs.length = s.rows.length
 nl:s.logs.length = s.rows.length
 lg:∀ l ∈ s.logs,l.length ≤ 32
 jb:∀ (i:Nat) (r:Rw),s.rows[i]? = some r → r.job = (i:Int) + 1
 am:∀ r ∈ s.rows,0 ≤ r.att ∧ r.att ≤ s.att ∧ (r.status = 1 → r.att < s.att)
structure ScS where
 cs:List Lg
 LG:List Blk
theorem sclone_state (B0:Base) (sb:Nat) (s:StP) (hS:StIn B0 sb s) (ok:StOk s):ConB Tryz.prog B0 25 #[ptr sb] [] fun v A=>∃ s2,v = ptr s2 ∧ StA s2 s A:=by
 obtain ⟨qb,ra,rc,pa,pc,la,lc,ls,h1,h2,h3,h4,h5,h6⟩:=hS
 obtain ⟨o1,o2,o3,o4,o5,o6,_⟩:=ok
 have hlen:ls.length = s.logs.length:=by rw [← h6,List.length_map]
 have hlenr:(ls.map Lg.row).length = s.logs.length:=by rw [List.length_map,hlen]
 refine ConB.intro (vs:=[_]) Tryz.func25 rfl Tryz.ntmps25 rfl (fun B hB=>?_)
 have hQ:=hB.holds h1
 have hc0:∀ A,Rd B.plain A sb 0 (ptr qb):=hQ.cell (List.mem_cons_self ..) rfl
 have hc1:∀ A,Rd B.plain A sb 1 (.int .i64 s.res):=hQ.cell (List.mem_cons_self ..) rfl
 have hc2:∀ A,Rd B.plain A sb 2 (.slice pa s.progs.length pc):=hQ.cell (List.mem_cons_self ..) rfl
 have hc3:∀ A,Rd B.plain A sb 3 (.slice la s.logs.length lc):=hQ.cell (List.mem_cons_self ..) rfl
 have hq2:Holds B0 [QuB qb s.att (.slice ra s.rows.length rc)]:=h1.sub fun p hp=>List.mem_cons_of_mem _ hp
 refine zg0 ?_
 refine Cd.draw [(0,0,[]),(1,0,[]),(2,0,[]),(3,0,[]),(4,1,[]),(7,0,[]),(8,0,[]),(9,0,[]),(10,1,[]),(11,0,[]),(12,0,[]),(13,0,[]),(14,1,[]),(16,0,[]),(17,0,[]),(18,0,[]),(19,1,[]),(5,2,[10,14,19]),(6,0,[]),(15,2,[10,19]),(20,2,[10]),(21,0,[]),(22,2,[]),(23,0,[])] (by kernel_rfl) (by kernel_rfl) (by simp only [picked,nth];exact rfl) ?_
 refine zg2 ?_
 refine Ops.ldR rfl rfl rfl (hc0 _) rfl ?_
 refine zg2 ?_
 refine Ops.ldR rfl rfl rfl (hc1 _) rfl ?_
 refine zg2 ?_
 refine Ops.ldR rfl rfl rfl (hc2 _) rfl ?_
 refine zg2 ?_
 refine Ops.ldR rfl rfl rfl (hc3 _) rfl ?_
 skip
 refine Ops.callB (qclone_spec B0 qb s.att ra rc s.rows hq2 h2 (by omega)) hB rfl (by intro v A' hR i hi;obtain ⟨A2,hR,rfl⟩:=hR;obtain ⟨q2,rv,G,rfl,rfl,_⟩:=hR;(repeat (rcases List.mem_cons.1 hi with rfl|hi;· (first|exact Still.ld1 rfl rfl rfl rfl rfl|exact Still.ldN rfl rfl rfl rfl|exact Still.len rfl rfl rfl rfl rfl|exact Still.skip rfl rfl rfl|exact Still.ldRow1 rfl rfl rfl (by assumption) (by assumption) rfl rfl|exact Still.ldR rfl rfl rfl (by apply_assumption) rfl)));cases hi) rfl rfl rfl (fun v A' hR=>?_)
 obtain ⟨q2,rv,RG,rfl,rfl,hRG⟩:=hR
 refine zg26 ?_
 refine Ops.callB (cloneT_spec B0 pa s.progs.length pc (s.progs.map trow) (by simp) (trows_ok _) h3 (by simp;omega)) hB rfl zp6 rfl rfl rfl (fun v A' hR=>?_)
 have hPG:OwnT v s.progs A':=hR
 clear hR
 rename List Blk=>PG
 obtain ⟨p2,pc2,rfl⟩:=hPG.form
 skip
 refine Ops.callB (cloneL_spec B0 la s.logs.length lc (ls.map Lg.row) hlenr.symm (lgs_ok _) h4 (by rw [hlenr];omega)) hB rfl zp6 rfl rfl rfl (fun v A' hR=>?_)
 rename List Blk=>LG
 obtain ⟨l2,lc2,rfl⟩:=Own.form hR
 rw [hlenr] at hR ⊢
 repeat' (first|refine Cd.seq ?_|refine Cd.reg ?_|refine Ops.nil ?_|refine Ops.mv rfl rfl rfl rfl ?_|refine Ops.asg rfl rfl rfl rfl ?_|refine Ops.nilP rfl rfl rfl rfl ?_|refine Ops.fa0 rfl rfl rfl rfl ?_|refine Ops.ld1 rfl rfl rfl rfl rfl ?_|refine Ops.lenS rfl rfl rfl rfl ?_|refine Ops.bld rfl rfl rfl rfl ?_|refine Ops.box rfl rfl rfl rfl (noPd rfl) (fun b=>?_)|refine Cd.block ?_)
 rename Nat=>s2
 refine Cd.loopK (σ:=ScS) (fun t=>t.cs.length ≤ s.logs.length ∧ Own 67 1 (.slice l2 s.logs.length lc2) (t.cs.map Lg.row ++ (ls.drop t.cs.length).map Lg.row) t.LG ∧ (∀ x ∈ t.cs,OwnT (.slice x.a x.txs.length x.c) x.txs x.G) ∧ t.cs.map Lg.txs = s.logs.take t.cs.length) (fun t=>[(3,ptr s2),(32,.int .i64 s.logs.length),(33,.int .i64 t.cs.length)])
  (fun t=>StB s2 q2 s.res (.slice p2 s.progs.length pc2) (.slice l2 s.logs.length lc2) :: QuB q2 s.att rv :: (RG ++ (PG ++ (t.LG ++ t.cs.flatMap Lg.G)))) (fun t=>s.logs.length - t.cs.length) ⟨[],LG⟩ ⟨Nat.zero_le _,by simpa using hR,fun x hx=>(by cases hx),rfl⟩ ⟨rfl,rfl,rfl,trivial⟩ (fun w h=>by have h2:Sat _ (StB s2 q2 s.res (.slice p2 s.progs.length pc2) (.slice l2 s.logs.length lc2) :: QuB q2 s.att rv :: (RG ++ (PG ++ LG))) w:=h.split;simpa using h2) (fun t ht=>?_)
 obtain ⟨cs,LG2⟩:=t
 obtain ⟨hi,hO,hT,hl⟩:=ht
 dsimp only at hi hO hT hl ⊢
 by_cases hlt:cs.length < s.logs.length
 ·have hlt':(cs.length:Int) < s.logs.length:=by omega
  obtain ⟨x,hx⟩:∃ x,ls[cs.length]? = some x:=⟨_,List.getElem?_eq_getElem (by omega)⟩
  have hdr:ls.drop cs.length = x :: ls.drop (cs.length + 1):=by
   obtain ⟨h1,rfl⟩:=List.getElem?_eq_some_iff.1 hx
   exact List.drop_eq_getElem_cons h1
  rw [hdr,List.map_cons] at hO
  have hrow:(cs.map Lg.row ++ (x.row :: (ls.drop (cs.length + 1)).map Lg.row))[cs.length]? = some x.row:=by simp
  have hxm:=h5 x (List.mem_of_getElem? hx)
  have hxs:s.logs[cs.length]? = some x.txs:=by rw [← h6,List.getElem?_map,hx];rfl
  have hxl:=o6 _ (List.mem_of_getElem? hxs)
  have hok:=hO.1
  obtain ⟨g,c',sp,hsv,rfl,hsp,hle⟩:=Own.some_ hO (by simp only [List.length_append,List.length_cons];omega)
  injection hsv with e1 e2 e3
  subst e1
  refine zg14 ?_
  refine Cd.draw [(0,0,[]),(1,0,[]),(2,0,[]),(3,1,[]),(4,0,[]),(5,0,[]),(6,0,[]),(7,0,[]),(8,1,[]),(9,0,[]),(10,0,[]),(11,1,[]),(12,2,[3]),(13,0,[]),(14,2,[])] (by kernel_rfl) (by kernel_rfl) (by simp only [picked,nth];exact rfl) ?_
  refine zg37 ?_
  refine Ops.callB (cloneT_spec B0 x.a x.txs.length x.c (x.txs.map trow) (by simp) (trows_ok _) hxm (by simp;omega)) hB rfl zp6 rfl rfl rfl (fun v A' hX=>?_)
  have hX:OwnT v x.txs A':=hX
  obtain ⟨xa,xc,rfl⟩:=hX.form
  have hset:(cs.map Lg.row ++ x.row :: (ls.drop (cs.length + 1)).map Lg.row).set cs.length (x.row.set 0 (.slice xa x.txs.length xc)) = (cs ++ [(⟨xa,xc,x.txs,A'⟩:Lg)]).map Lg.row ++ (ls.drop (cs.length + 1)).map Lg.row:=by
   rw [List.set_append_right _ _ (by simp),List.length_map,Nat.sub_self]
   simp
  have hok2:RowsOk 1 ((cs ++ [(⟨xa,xc,x.txs,A'⟩:Lg)]).map Lg.row ++ (ls.drop (cs.length + 1)).map Lg.row):=(lgs_ok _).app (lgs_ok _)
  refine zg39 ?_
  refine Ops.stRow1 (i:=cs.length) (o:=0) (r:=x.row) rfl rfl rfl rfl rfl hok hrow rfl (noPd rfl) ?_
  rw [hset]
  refine zg18 ?_
  rw [hok.len] at hsp
  simp only [List.length_append,List.length_cons,List.length_map,List.length_drop] at hsp hle e2
  rw [show (cs.length:Int) + 1 = (((cs ++ [(⟨xa,xc,x.txs,A'⟩:Lg)]).length:Nat):Int) from by simp]
  refine Ops.nilN (round_end (⟨cs ++ [(⟨xa,xc,x.txs,A'⟩:Lg)],[(g,cl (((cs ++ [(⟨xa,xc,x.txs,A'⟩:Lg)]).map Lg.row ++ (ls.drop (cs.length + 1)).map Lg.row).flatten ++ sp) 67)]⟩:ScS) ⟨by simp;omega,?_,?_,?_⟩ (by simp;omega) ⟨rfl,rfl,rfl,trivial⟩ (fun w h=>?_))
  ·show Own _ _ _ ((cs ++ [(⟨xa,xc,x.txs,A'⟩:Lg)]).map Lg.row ++ (ls.drop (cs ++ [(⟨xa,xc,x.txs,A'⟩:Lg)]).length).map Lg.row) _
   rw [show (cs ++ [(⟨xa,xc,x.txs,A'⟩:Lg)]).length = cs.length + 1 from by simp]
   refine ⟨hok2,.inr ⟨g,lc2,sp,?_,rfl,?_,?_⟩⟩
   ·congr 1
    simp only [List.length_append,List.length_cons,List.length_map,List.length_drop,List.length_nil]
    omega
   ·rw [hok2.len]
    simp only [List.length_append,List.length_cons,List.length_map,List.length_drop,List.length_nil]
    omega
   ·simp only [List.length_append,List.length_cons,List.length_map,List.length_drop,List.length_nil]
    omega
  ·intro y hy
   rcases List.mem_append.1 hy with hy|hy
   ·exact hT y hy
   ·rw [List.mem_singleton] at hy
    subst hy
    exact hX
  ·show (cs ++ [(⟨xa,xc,x.txs,A'⟩:Lg)]).map Lg.txs = s.logs.take (cs ++ [(⟨xa,xc,x.txs,A'⟩:Lg)]).length
   rw [show (cs ++ [(⟨xa,xc,x.txs,A'⟩:Lg)]).length = cs.length + 1 from by simp,List.map_append,hl,List.take_add_one,hxs]
   rfl
  ·have h2:Sat _ (StB s2 q2 s.res (.slice p2 s.progs.length pc2) (.slice (some ⟨g,0,none⟩) s.logs.length lc2) :: QuB q2 s.att rv :: (RG ++ (PG ++ ([(g,cl (((cs ++ [(⟨xa,xc,x.txs,A'⟩:Lg)]).map Lg.row ++ (ls.drop (cs.length + 1)).map Lg.row).flatten ++ sp) 67)] ++ (cs.flatMap Lg.G ++ A'))))) w:=h.split
   simpa using h2
 ·have hlt':¬ (cs.length:Int) < s.logs.length:=by omega
  refine zg12 ?_
  have he:cs.length = s.logs.length:=by omega
  have hO2:Own 67 1 (.slice l2 s.logs.length lc2) (cs.map Lg.row) LG2:=by
   rw [he,List.drop_of_length_le (by omega)] at hO
   simpa using hO
  exact Cd.ret (ret1 (A':=StB s2 q2 s.res (.slice p2 s.progs.length pc2) (.slice l2 s.logs.length lc2) :: QuB q2 s.att rv :: (RG ++ (PG ++ (LG2 ++ cs.flatMap Lg.G)))) rfl (Res.tmp rfl) (fun _ h=>h.split) ⟨s2,rfl,q2,rv,RG,_,PG,_,LG2,cs,rfl,hRG,hPG,hO2,hT,by rw [hl,he,List.take_length]⟩)
end Go.Proofs.YtaecdnfkcebbeaaGreat
namespace Go.Sep
open Go
section
variable {P:Program} {N:Fi} {B:Base} {Q:Exit → Act → World → Prop} {T:Tm} {A:List Blk} {ops:Array Oper} {l:List Oper}
variable {d:Nat} {ty:TypeId} {pos:String} {af:Array Edge} {m:Md} {gd:Option (Nat × Bool)}
theorem Ops.bldA {t e n:TypeId} {ge:Bool} {parts:List (Nat × Operand)} {ps:List (Nat × Value)} {sz bs bs':Nat} {zc:List Value} {z:Value} (L:List Value) (hm:m.rd true = true) (hg:gst ops T gd = some true) (hp:evp T parts = some ps) [ht:Ty P t true sz bs zc] [hd':TyD P t (.array n e)] [he:Ty P e ge 1 bs' [z]]
  (hf:Instr.fill (fun i=>some (i * 1,1)) zc.toArray ps = some L.toArray) (hd:Nat.blt d N.n = true) (k:Ops P N B Q ops m.tl l ((d,.agg L.toArray) :: T) A) :
  Ops P N B Q ops m (⟨some d,.build t parts.toArray,ty,pos,af,gd⟩ :: l) T A :=
 Ops.pureV hm hg hd (fun a w hF=>by
  obtain ⟨z,hz,hzc⟩:=ht.run_zero (w:=w)
  have h4:(parts.toArray.map fun (i,x)=>(i,a.eval x)).toList = ps:=by simpa using hF.evalp hp
  simp only [execOp,Instr.build,Sem.run_bind,hz,Result.andThen_ok,hd'.run_und,he.run_size,h4,hzc,hf]
  simp) k
theorem Ops.ixV {t e n:TypeId} {x y:Operand} {bs:Nat} {z v:Value} {L:List Value} {k1:IntKind} {i:Int} (hm:m.rd true = true) (hg:gst ops T gd = some true) [hd':TyD P t (.array n e)] [he:Ty P e false 1 bs [z]] (hx:ev T x = some (.agg L.toArray)) (hy:ev T y = some (.int k1 i)) (h0:0 ≤ i) (h1:i < n) (hv:L[i.toNat]? = some v) (hd:Nat.blt d N.n = true)
  (k:Ops P N B Q ops m.tl l ((d,v) :: T) A):Ops P N B Q ops m (⟨some d,.index t x y,ty,pos,af,gd⟩ :: l) T A :=
 Ops.pureV hm hg hd (fun a w hF=>by
  simp [execOp,hF.eval hx,hF.eval hy,Instr.index,asIntOf,hd'.run_und,he.run_size,he.run_isAgg,part,h0,h1,hv]) k
end
end Go.Sep
namespace Go.Proofs.YtaecdnfkcebbeaaGreat
open Go Go.Sep Go.Proofs
set_option maxRecDepth 10000
set_option maxHeartbeats 40000000
set_option synthInstance.maxSize 2000
def doesN (kind:Int):Nat:=if kind = 1 then 62 else if kind = 2 then 63 else if kind = 3 then 64 else if kind = 4 then 65 else if kind = 5 then 66 else 67
theorem kind6 {k:Int} (h:1 ≤ k ∧ k ≤ 6):k = 1 ∨ k = 2 ∨ k = 3 ∨ k = 4 ∨ k = 5 ∨ k = 6:=by omega
theorem sdoes_spec (kind:Int) (h:1 ≤ kind ∧ kind ≤ 6):Con Tryz.prog 27 #[.int .i64 kind] [] fun v A=>v = .func (.func (doesN kind)) #[] #[] ∧ A = []:=by
 refine Con.intro (vs:=[_]) Tryz.func27 rfl Tryz.ntmps27 rfl (fun B=>?_)
 have h7:kind < 7:=by omega
 refine zg0 ?_
 refine Ops.bldA [.nilFunc,.func (.func 62) #[] #[],.func (.func 63) #[] #[],.func (.func 64) #[] #[],.func (.func 65) #[] #[],.func (.func 66) #[] #[],.func (.func 67) #[] #[]] rfl rfl rfl (by rfl) rfl ?_
 refine zg0 ?_
 refine Ops.ixV (v:=.func (.func (doesN kind)) #[] #[]) rfl rfl rfl rfl (by omega) (by show kind < ((7:Nat):Int);omega) (by rcases kind6 h with rfl|rfl|rfl|rfl|rfl|rfl <;> rfl) rfl ?_
 refine zg1 ?_
 exact ze8
theorem reserve_spec (sb qb:Nat) (res:Int) (pv lv:Value) (c:Ch) (a:Option Addr) (k:Nat):Con Tryz.prog 62 #[ptr sb,.agg (c.row a k).toArray] [StB sb qb res pv lv] fun v A=>v = .bool (decide (res < c.n)) ∧ A = [StB sb qb (if res < c.n then c.n else res) pv lv]:=by
 refine Con.intro (vs:=[_,_]) Tryz.func62 rfl Tryz.ntmps62 rfl (fun B=>?_)
 by_cases h:res < c.n
 ·have h':¬ c.n ≤ res:=by omega
  rw [if_pos h,decide_eq_true h]
  repeat' (first|refine Cd.seq ?_|refine Cd.reg ?_|refine Ops.asg rfl rfl rfl rfl ?_|refine Ops.box rfl rfl rfl rfl (noPd rfl) (fun b=>?_))
  refine Cd.draw [(0,0,[]),(1,1,[]),(2,0,[]),(3,0,[]),(4,0,[]),(5,1,[]),(6,0,[])] (by kernel_rfl) (by kernel_rfl) (by simp only [picked,nth];exact rfl) ?_
  refine zg21 ?_
  exact Cd.ret (ret1 (A':=[StB sb qb c.n pv lv]) rfl (Res.tmp rfl) (fun _ h=>h.split) ⟨rfl,rfl⟩)
 ·have h':c.n ≤ res:=by omega
  rw [if_neg h,decide_eq_false h]
  repeat' (first|refine Cd.seq ?_|refine Cd.reg ?_|refine Ops.asg rfl rfl rfl rfl ?_|refine Ops.box rfl rfl rfl rfl (noPd rfl) (fun b=>?_))
  refine Cd.draw [(0,0,[]),(1,1,[]),(2,0,[]),(3,0,[]),(4,0,[]),(5,1,[]),(6,0,[])] (by kernel_rfl) (by kernel_rfl) (by simp only [picked,nth];exact rfl) ?_
  refine zg24 ?_
  exact ze33
theorem clipT_spec (a:Option Addr) (n c:Nat) (h:n ≤ c):Con Tryz.prog 28 #[.slice a n c] [] fun v A=>v = .slice a n n ∧ A = []:=by
 refine Con.intro (vs:=[_]) Tryz.func28 rfl Tryz.ntmps28 rfl (fun B=>?_)
 refine zg3 ?_
 refine Ops.slHM rfl rfl rfl rfl rfl (by omega) (by omega) (by omega) rfl ?_
 rw [Int.toNat_natCast]
 refine zg1 ?_
 exact ze8
theorem clipR_spec (a:Option Addr) (n c:Nat) (h:n ≤ c):Con Tryz.prog 69 #[.slice a n c] [] fun v A=>v = .slice a n n ∧ A = []:=by
 refine Con.intro (vs:=[_]) Tryz.func69 rfl Tryz.ntmps69 rfl (fun B=>?_)
 refine zg3 ?_
 refine Ops.slHM rfl rfl rfl rfl rfl (by omega) (by omega) (by omega) rfl ?_
 rw [Int.toNat_natCast]
 refine zg1 ?_
 exact ze8
theorem clipP_spec (a:Option Addr) (n c:Nat) (h:n ≤ c):Con Tryz.prog 33 #[.slice a n c] [] fun v A=>v = .slice a n n ∧ A = []:=by
 refine Con.intro (vs:=[_]) Tryz.func33 rfl Tryz.ntmps33 rfl (fun B=>?_)
 refine zg3 ?_
 refine Ops.slHM rfl rfl rfl rfl rfl (by omega) (by omega) (by omega) rfl ?_
 rw [Int.toNat_natCast]
 refine zg1 ?_
 exact ze8
theorem own_cut {E sz n c:Nat} {a:Option Addr} {rows:List (List Value)} {G:List Blk} (h:Own E sz (.slice a n c) rows G):n ≤ c ∧ Rs E sz (.slice a n n) rows G:=by
 rcases h.2 with ⟨h1,h2,h3⟩|⟨g,c',sp,h1,h2,h3,h4⟩
 ·injection h1 with h1 h4 h5
  subst h1;subst h4;subst h5
  exact ⟨Nat.le_refl _,h.1,.inl ⟨rfl,h2,h3⟩⟩
 ·injection h1 with h1 h5 h6
  subst h1;subst h5;subst h6
  exact ⟨h4,h.1,.inr ⟨g,rows.length,sp,rfl,h2⟩⟩
structure Pl where
 r:Rw
 prog:ByteArray
 l:Lg
@[reducible] def Pl.row (p:Pl):List Value:=[.int .i64 p.r.job,.int .i64 p.r.status,.int .i64 p.r.att,.int .i64 p.r.badge,.int .i64 p.r.node,.int .i64 p.r.life,.int .i64 p.r.rcode,.int .u64 p.r.rbits,.string p.prog,.slice p.l.a p.l.txs.length p.l.c]
@[reducible] def Pl.pure (p:Pl):Rw × ByteArray × List ByteArray:=(p.r,p.prog,p.l.txs)
theorem place_spec (B0:Base) (sb:Nat) (s:StP) (hS:StIn B0 sb s) (ok:StOk s) (i:Nat) (r:Rw) (p:ByteArray) (t:List ByteArray) (hr:s.rows[i]? = some r) (hp:s.progs[i]? = some p) (ht:s.logs[i]? = some t) :
  ConB Tryz.prog B0 32 #[ptr sb,.agg r.row.toArray] [] fun v A=>∃ x:Lg,v = .agg (Pl.row ⟨r,p,x⟩).toArray ∧ A = x.G ∧ x.txs = t ∧ RsT (.slice x.a x.txs.length x.c) x.txs x.G:=by
 obtain ⟨qb,ra,rc,pa,pc,la,lc,ls,h1,h2,h3,h4,h5,h6⟩:=hS
 obtain ⟨o1,o2,o3,o4,o5,o6,o7⟩:=ok
 have hj:=o7 i r hr
 have hil:=(List.getElem?_eq_some_iff.1 hr).1
 refine ConB.intro (vs:=[_,_]) Tryz.func32 rfl Tryz.ntmps32 rfl (fun B hB=>?_)
 have hQ:=hB.holds h1
 have h3:=h3.ext hB
 have h4:=h4.ext hB
 have hc2:∀ A,Rd B.plain A sb 2 (.slice pa s.progs.length pc):=hQ.cell (List.mem_cons_self ..) rfl
 have hc3:∀ A,Rd B.plain A sb 3 (.slice la s.logs.length lc):=hQ.cell (List.mem_cons_self ..) rfl
 obtain ⟨pb,po,rfl,hpr⟩:=h3 i (trow p) (by rw [List.getElem?_map,hp];rfl)
 obtain ⟨x,hx,rfl⟩:∃ x,ls[i]? = some x ∧ x.txs = t:=by
  rw [← h6,List.getElem?_map] at ht
  cases hl:ls[i]? with
  | none=>rw [hl] at ht;cases ht
  | some x=>rw [hl] at ht;injection ht with ht;exact ⟨x,rfl,ht⟩
 obtain ⟨lb,lo,rfl,hlr⟩:=h4 i x.row (by rw [List.getElem?_map,hx];rfl)
 have hxm:=h5 x (List.mem_of_getElem? hx)
 have hxl:=o6 x.txs (by rw [← h6];exact List.mem_map_of_mem (List.mem_of_getElem? hx))
 have hcp:∀ A,Rd B.plain A pb (po + (r.job - 1).toNat * 1) (.string p):=fun A=>by rw [hj,show ((i:Int) + 1 - 1).toNat = i from by omega];exact hpr A 0 _ rfl
 have hcl:∀ A,Rd B.plain A lb (lo + (r.job - 1).toNat * 1) (.slice x.a x.txs.length x.c):=fun A=>by rw [hj,show ((i:Int) + 1 - 1).toNat = i from by omega];exact hlr A 0 _ rfl
 clear hpr hlr
 repeat' (first|refine Cd.seq ?_|refine Cd.reg ?_|refine Ops.box rfl rfl rfl rfl (noPd rfl) (fun b=>?_)|refine Ops.alloc rfl rfl rfl (noPd rfl) (fun b=>?_))
 refine Cd.draw [(0,1,[]),(1,0,[]),(2,0,[]),(3,0,[]),(4,1,[]),(5,0,[]),(6,1,[]),(7,0,[]),(8,0,[]),(9,1,[]),(10,0,[]),(11,0,[]),(12,0,[]),(13,1,[]),(14,0,[]),(15,1,[]),(16,0,[]),(17,0,[]),(18,1,[]),(19,2,[0,4,6,9]),(20,2,[0,4,6,9]),(21,0,[]),(22,2,[])] (by kernel_rfl) (by kernel_rfl) (by simp only [picked,nth];exact rfl) ?_
 refine zg9 ?_
 rename_i bx
 rename Nat=>rz
 refine Ops.ldR rfl rfl rfl (hc2 _) rfl ?_
 refine zg38 ?_
 refine Ops.ldR rfl rfl rfl (hcp _) rfl ?_
 refine zg2 ?_
 refine Ops.ldR rfl rfl rfl (hc3 _) rfl ?_
 refine zg38 ?_
 refine Ops.ldR rfl rfl rfl (hcl _) rfl ?_
 refine Ops.callB (cloneT_spec B0 x.a x.txs.length x.c (x.txs.map trow) (by simp) (trows_ok _) hxm (by simp;omega)) hB rfl zp6 rfl rfl rfl (fun v A' hX=>?_)
 have hX:OwnT v x.txs A':=hX
 obtain ⟨xa,xc,rfl⟩:=hX.form
 obtain ⟨hcut,hrs⟩:=hX.cut rfl
 refine Ops.call (clipT_spec xa x.txs.length xc hcut) rfl zp1 rfl rfl rfl (fun v A2 hR=>?_)
 obtain ⟨rfl,rfl⟩:=hR
 refine zg34 ?_
 exact Cd.ret (ret1 (A':=A') rfl (Res.cellN rfl) (fun _ h=>h.split) ⟨⟨xa,x.txs.length,x.txs,A'⟩,rfl,rfl,rfl,hrs⟩)
theorem rows_spec (B0:Base) (qb:Nat) (att:Int) (a:Option Addr) (c:Nat) (l:List Rw) (hQ:Holds B0 [QuB qb att (.slice a l.length c)]) (hR:RIn 8 B0 a (l.map Rw.row)) (hl:l.length ≤ 2000000) :
  ConB Tryz.prog B0 31 #[ptr qb] [] fun v A=>∃ a2,v = .slice a2 l.length l.length ∧ Rs 98 8 v (l.map Rw.row) A:=by
 refine ConB.intro (vs:=[_]) Tryz.func31 rfl Tryz.ntmps31 rfl (fun B hB=>?_)
 have hQ:=hB.holds hQ
 have hc1:∀ A,Rd B.plain A qb 1 (.slice a l.length c):=hQ.cell (List.mem_singleton.2 rfl) rfl
 refine zg4 ?_
 refine Ops.ldR rfl rfl rfl (hc1 _) rfl ?_
 refine Ops.callB (cloneR_spec B0 a l.length c (l.map Rw.row) (by simp) (rws_ok l) hR (by simpa using hl)) hB rfl (noPd rfl) rfl rfl rfl (fun v A' hR=>?_)
 obtain ⟨a2,c2,rfl⟩:=Own.form hR
 rw [List.length_map] at hR ⊢
 obtain ⟨hcut,hrs⟩:=own_cut hR
 refine Ops.call (clipR_spec a2 l.length c2 hcut) rfl (noPd rfl) rfl rfl rfl (fun v A2 hR=>?_)
 obtain ⟨rfl,rfl⟩:=hR
 refine zg1 ?_
 exact Cd.ret (ret1 (A':=A') rfl (Res.tmp rfl) (fun _ h=>h.split) ⟨a2,rfl,hrs⟩)
def viewL (s:StP):List (Rw × ByteArray × List ByteArray):=s.rows.zip (s.progs.zip s.logs)
def ViewA (v:Value) (s:StP) (A:List Blk):Prop :=
 ∃ (a:Option Addr) (ps:List Pl) (JG:List Blk),v = .agg [.int .i64 s.res,.slice a s.rows.length s.rows.length].toArray ∧ A = JG ++ ps.flatMap (fun p:Pl=>p.l.G) ∧ Rs 100 10 (.slice a s.rows.length s.rows.length) (ps.map Pl.row) JG ∧ (∀ p ∈ ps,RsT (.slice p.l.a p.l.txs.length p.l.c) p.l.txs p.l.G) ∧ ps.map Pl.pure = viewL s
structure VwS where
 ps:List Pl
 jv:Value
 JG:List Blk
theorem view_spec (B0:Base) (sb:Nat) (s:StP) (hS:StIn B0 sb s) (ok:StOk s):ConB Tryz.prog B0 12 #[ptr sb] [] fun v A=>ViewA v s A:=by
 have hS0:=hS
 obtain ⟨qb,ra,rc,pa,pc,la,lc,ls,h1,h2,h3,h4,h5,h6⟩:=hS
 have ok0:=ok
 obtain ⟨o1,o2,o3,o4,o5,o6,o7⟩:=ok
 have hq2:Holds B0 [QuB qb s.att (.slice ra s.rows.length rc)]:=h1.sub fun p hp=>List.mem_cons_of_mem _ hp
 have hvl:(viewL s).length = s.rows.length:=by simp [viewL];omega
 refine ConB.intro (vs:=[_]) Tryz.func12 rfl Tryz.ntmps12 rfl (fun B hB=>?_)
 have hQ:=hB.holds h1
 have hc0:∀ A,Rd B.plain A sb 0 (ptr qb):=hQ.cell (List.mem_cons_self ..) rfl
 have hc1:∀ A,Rd B.plain A sb 1 (.int .i64 s.res):=hQ.cell (List.mem_cons_self ..) rfl
 repeat' (first|refine Cd.seq ?_|refine Cd.reg ?_|refine Ops.mv rfl rfl rfl rfl ?_|refine Ops.nilP rfl rfl rfl rfl ?_|refine Ops.fa0 rfl rfl rfl rfl ?_|refine Ops.alloc rfl rfl rfl (noPd rfl) (fun b=>?_))
 refine Ops.ldR rfl rfl rfl (hc1 _) rfl ?_
 repeat' (first|refine Cd.seq ?_|refine Cd.reg ?_|refine Ops.mv rfl rfl rfl rfl ?_|refine Ops.nilP rfl rfl rfl rfl ?_|refine Ops.fa0 rfl rfl rfl rfl ?_|refine Ops.bld rfl rfl rfl rfl ?_|refine Ops.alloc rfl rfl rfl (noPd rfl) (fun b=>?_)|refine Ops.stN rfl rfl rfl rfl rfl rfl (noPd rfl) ?_)
 rename_i v2
 rename Nat=>v3
 refine Ops.ldR rfl rfl rfl (hc0 _) rfl ?_
 refine Ops.callB (rows_spec B0 qb s.att ra rc s.rows hq2 h2 (by omega)) hB rfl (noPd rfl) rfl rfl rfl (fun v A' hR=>?_)
 obtain ⟨r2,rfl,hrs⟩:=hR
 rename List Blk=>RG
 refine zg3 ?_
 refine Cd.loopK (σ:=VwS) (fun t=>t.ps.length ≤ s.rows.length ∧ Own 100 10 t.jv (t.ps.map Pl.row) t.JG ∧ (∀ p ∈ t.ps,RsT (.slice p.l.a p.l.txs.length p.l.c) p.l.txs p.l.G) ∧ t.ps.map Pl.pure = (viewL s).take t.ps.length) (fun t=>[(0,ptr sb),(2,ptr v2),(3,ptr v3),(16,.slice r2 s.rows.length s.rows.length),(17,.int .i64 s.rows.length),(18,.int .i64 t.ps.length)])
  (fun t=>(v2,cl [.int .i64 0,.slice none 0 0] 52) :: (v3,cl [.int .i64 s.res,t.jv] 52) :: (RG ++ (t.JG ++ t.ps.flatMap (fun p=>p.l.G)))) (fun t=>s.rows.length - t.ps.length) ⟨[],.slice none 0 0,[]⟩ ⟨Nat.zero_le _,Own.none,fun p hp=>(by cases hp),rfl⟩ ⟨rfl,rfl,rfl,rfl,rfl,rfl,trivial⟩ (fun w h=>by have h2:Sat _ ((v2,cl [.int .i64 0,.slice none 0 0] 52) :: (v3,cl [.int .i64 s.res,.slice none 0 0] 52) :: RG) w:=h.split;simpa using h2) (fun t ht=>?_)
 obtain ⟨ps,jv,JG⟩:=t
 obtain ⟨hi,hO,hT,hl⟩:=ht
 dsimp only at hi hO hT hl ⊢
 obtain ⟨ja,jc,rfl⟩:=Own.form hO
 rw [List.length_map] at hO ⊢
 by_cases hlt:ps.length < s.rows.length
 ·have hlt':(ps.length:Int) < s.rows.length:=by omega
  obtain ⟨r,hr⟩:∃ r,s.rows[ps.length]? = some r:=⟨_,List.getElem?_eq_getElem hlt⟩
  obtain ⟨p,hp⟩:∃ p,s.progs[ps.length]? = some p:=⟨_,List.getElem?_eq_getElem (by omega)⟩
  obtain ⟨t,ht⟩:∃ t,s.logs[ps.length]? = some t:=⟨_,List.getElem?_eq_getElem (by omega)⟩
  have hvx:(viewL s)[ps.length]? = some (r,p,t):=by simp [viewL,List.getElem?_zip_eq_some,hr,hp,ht]
  have hrow:(s.rows.map Rw.row)[ps.length]? = some r.row:=by rw [List.getElem?_map,hr];rfl
  have hrok:=rws_ok s.rows
  obtain ⟨g,c',sp,hsv,rfl⟩:=Rs.some_ hrs (by rw [List.length_map];omega)
  injection hsv with e1 e2 e3
  subst e1
  repeat' (first|refine Cd.seq ?_|refine Cd.reg ?_|refine Ops.nil ?_|refine Ops.bin rfl rfl rfl rfl rfl ?_|refine Ops.alloc rfl rfl rfl (noPd rfl) (fun b=>?_)|refine Ops.stN rfl rfl rfl rfl rfl rfl (noPd rfl) ?_|refine Cd.block ?_|refine Cd.skip (Cd.next ?_)|refine Ops.ixa0 rfl rfl rfl rfl (by omega) (by omega) rfl ?_|refine Ops.ldRow rfl rfl rfl (by assumption) (by assumption) rfl ?_|refine Cd.condT rfl zp0 ?_)
  rename Nat=>b5
  refine Cd.draw [(0,0,[]),(1,1,[]),(2,0,[]),(3,1,[]),(4,2,[1]),(5,2,[1]),(6,2,[]),(7,0,[]),(8,2,[])] (by kernel_rfl) (by kernel_rfl) (by simp only [picked,nth];exact rfl) ?_
  refine zg9 ?_
  refine Ops.callB (place_spec B0 sb s hS0 ok0 ps.length r p t hr hp ht) hB rfl (by intro v A' hR i hi;obtain ⟨A2,hR,rfl⟩:=hR;obtain ⟨x,rfl,rfl,_,_⟩:=hR;(repeat (rcases List.mem_cons.1 hi with rfl|hi;· (first|exact Still.ld1 rfl rfl rfl rfl rfl|exact Still.ldN rfl rfl rfl rfl|exact Still.len rfl rfl rfl rfl rfl|exact Still.skip rfl rfl rfl|exact Still.ldRow1 rfl rfl rfl (by assumption) (by assumption) rfl rfl|exact Still.ldR rfl rfl rfl (by apply_assumption) rfl)));cases hi) rfl rfl rfl (fun v A' hX=>?_)
  obtain ⟨x,rfl,e,hxt,hxr⟩:=hX
  subst A'
  repeat' (first|refine Ops.bs1 rfl rfl rfl rfl rfl rfl rfl zp3 (fun b=>?_))
  have hll:(ps.map Pl.row).length = ps.length:=List.length_map _
  refine Ops.app1 (rows:=ps.map Pl.row) hO (by rw [hll];omega) (by rw [hll];omega) rfl rfl rfl rfl (by rfl) (by rfl) rfl (noPd rfl) rfl (fun v G' hG'=>?_)
  have hG2:Own 100 10 v ((ps ++ [(⟨r,p,x⟩:Pl)]).map Pl.row) G':=by rw [List.map_append];exact hG'
  clear hG'
  obtain ⟨ja2,jc2,rfl⟩:=Own.form hG2
  refine zg44 ?_
  have hpl:(ps ++ [(⟨r,p,x⟩:Pl)]).length = ps.length + 1:=by simp
  rw [show (ps.length:Int) + 1 = (((ps ++ [(⟨r,p,x⟩:Pl)]).length:Nat):Int) from by rw [hpl];push_cast;rfl]
  refine Ops.nilN (round_end (⟨ps ++ [(⟨r,p,x⟩:Pl)],_,G'⟩:VwS) ⟨by show (ps ++ [(⟨r,p,x⟩:Pl)]).length ≤ _;omega,hG2,?_,?_⟩ (by show s.rows.length - (ps ++ [(⟨r,p,x⟩:Pl)]).length < s.rows.length - ps.length;omega) ⟨rfl,rfl,rfl,rfl,rfl,rfl,trivial⟩ (fun w h=>?_))
  ·intro y hy
   rcases List.mem_append.1 hy with hy|hy
   ·exact hT y hy
   ·rw [List.mem_singleton] at hy
    subst hy
    exact hxr
  ·show (ps ++ [(⟨r,p,x⟩:Pl)]).map Pl.pure = (viewL s).take (ps ++ [(⟨r,p,x⟩:Pl)]).length
   rw [hpl,List.map_append,hl,List.take_add_one,hvx,← hxt]
   rfl
  ·have h2:Sat _ ((v2,cl [.int .i64 0,.slice none 0 0] 52) :: (v3,cl [.int .i64 s.res,.slice ja2 ((ps ++ [(⟨r,p,x⟩:Pl)]).map Pl.row).length jc2] 52) :: ([(g,cl ((s.rows.map Rw.row).flatten ++ sp) 98)] ++ (G' ++ (ps.flatMap (fun p=>p.l.G) ++ x.G)))) w:=h.split
   simpa using h2
 ·have hlt':¬ (ps.length:Int) < s.rows.length:=by omega
  have he:ps.length = s.rows.length:=by omega
  obtain ⟨hcut,hjs⟩:=own_cut hO
  refine zg17 ?_
  refine Ops.call (clipP_spec ja ps.length jc hcut) rfl (noPd rfl) rfl rfl rfl (fun v A2 hR=>?_)
  obtain ⟨rfl,rfl⟩:=hR
  refine zg26 ?_
  exact Cd.ret (ret1 (A':=JG ++ ps.flatMap (fun p:Pl=>p.l.G)) rfl (Res.cellN rfl) (fun _ h=>h.split) ⟨ja,ps,JG,by rw [he],rfl,by rw [← he];exact hjs,hT,by rw [hl,he,← hvl,List.take_length]⟩)
end Go.Proofs.YtaecdnfkcebbeaaGreat
