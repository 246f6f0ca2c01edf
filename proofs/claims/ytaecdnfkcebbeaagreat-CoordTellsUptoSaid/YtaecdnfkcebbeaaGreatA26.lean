import Derived.Test.YtaecdnfkcebbeaaGreatA01
import Derived.Test.YtaecdnfkcebbeaaGreatA25
set_option linter.unusedVariables false
set_option linter.unusedSimpArgs false
namespace Go.Proofs.YtaecdnfkcebbeaaGreat
open Go Go.Sep Go.Proofs
set_option maxRecDepth 10000
set_option maxHeartbeats 40000000
set_option synthInstance.maxSize 2000
def holderOk (node life:Int):Bool:=decide (2 ≤ node ∧ node ≤ 9 ∧ 1 ≤ life ∧ life ≤ 1099511627776)
def heldAt (rows:List Rw) (badge:Int):Option Nat:=rows.findIdx? fun r=>decide (r.status = 2 ∧ r.badge = badge)
def lastAt (rows:List Rw) (badge:Int):Option Nat:=rows.findIdx? fun r=>decide (r.badge = badge ∧ 0 < badge)
def Rw.free (r:Rw) (att:Int):Rw:={ r with status:=if att ≤ r.att then 4 else 1,node:=0,life:=0 }
def Rw.done (r:Rw) (code bits:Int):Rw:={ r with status:=3,node:=0,life:=0,rcode:=code,rbits:=bits }
def Rw.give (r:Rw) (badge node life:Int):Rw:={ r with status:=2,badge:=badge,node:=node,life:=life,att:=r.att + 1 }
def stepF (s:StP) (c:Ch):Option StP :=
 if c.kind = 1 then (if s.res < c.n then some { s with res:=c.n } else none)
 else if c.kind = 2 then (if c.job ≠ (s.progs.length:Nat) + 1 ∨ 8 ≤ s.rows.length then none else some { s with rows:=s.rows ++ [⟨(s.rows.length:Nat) + 1,1,0,0,0,0,0,0⟩],progs:=s.progs ++ [c.prog],logs:=s.logs ++ [[]] })
 else if c.kind = 3 then (if s.res < c.badge then none else match (if 1 ≤ c.job then s.rows[(c.job - 1).toNat]? else none) with
  | none=>none
  | some r=>if r.status ≠ 1 ∨ ¬ (1 ≤ c.badge ∧ c.badge ≤ 1099511627776) ∨ s.rows.any (fun q=>decide (c.badge ≤ q.badge)) ∨ ¬ holderOk (2 + c.slot) c.life then none
   else some { s with rows:=s.rows.set (c.job - 1).toNat (r.give c.badge (2 + c.slot) c.life),logs:=s.logs.set (c.job - 1).toNat [] })
 else if c.kind = 4 then (match lastAt s.rows c.badge with
  | none=>none
  | some i=>if (s.rows.getD i ⟨0,0,0,0,0,0,0,0⟩).status ≠ 2 ∨ 32 < (s.logs.getD i []).length + c.txs.length then none else some { s with logs:=s.logs.set i (s.logs.getD i [] ++ c.txs) })
 else if c.kind = 5 then (match heldAt s.rows c.badge with
  | none=>none
  | some i=>some { s with rows:=s.rows.set i ((s.rows.getD i ⟨0,0,0,0,0,0,0,0⟩).free s.att) })
 else (match heldAt s.rows c.badge with
  | none=>none
  | some i=>if ¬ (0 ≤ c.rcode ∧ c.rcode ≤ 7 ∧ (c.rcode = 0 ∨ c.rbits = 0)) then none else some { s with rows:=s.rows.set i ((s.rows.getD i ⟨0,0,0,0,0,0,0,0⟩).done c.rcode c.rbits) })
theorem getD_of {α:Type} {l:List α} {i:Nat} {d r:α} (h:l[i]? = some r):l.getD i d = r:=by rw [List.getD_eq_getElem?_getD,h];rfl
theorem set_jobs {rows:List Rw} {i:Nat} {f:Rw} (hj:∀ (k:Nat) (r:Rw),rows[k]? = some r → r.job = (k:Int) + 1) (hf:∀ r,rows[i]? = some r → f.job = r.job):∀ (k:Nat) (r:Rw),(rows.set i f)[k]? = some r → r.job = (k:Int) + 1:=by
 intro k r hk
 rw [List.getElem?_set] at hk
 split at hk
 ·rename_i h
  subst h
  split at hk
  ·rename_i hlt
   injection hk with hk
   subst hk
   obtain ⟨q,hq⟩:∃ q,rows[i]? = some q:=⟨_,List.getElem?_eq_getElem hlt⟩
   rw [hf q hq];exact hj i q hq
  ·cases hk
 ·exact hj k r hk
theorem set_am {rows:List Rw} {i:Nat} {f:Rw} {p:Rw → Prop} (h:∀ r ∈ rows,p r) (hf:p f):∀ r ∈ rows.set i f,p r:=fun r hr=>by
 rcases List.mem_or_eq_of_mem_set hr with hr|rfl
 ·exact h r hr
 ·exact hf
theorem stepF_ok {s s':StP} {c:Ch} (ok:StOk s) (h:stepF s c = some s'):StOk s':=by
 obtain ⟨a1,a8,nr,np,nl,lg,jb,am⟩:=ok
 unfold stepF at h
 split at h
 ·split at h
  ·injection h with h;subst h;exact ⟨a1,a8,nr,np,nl,lg,jb,am⟩
  ·cases h
 split at h
 ·split at h
  ·cases h
  ·rename_i hc
   injection h with h;subst h
   refine ⟨a1,a8,by simp;omega,by simp;omega,by simp;omega,fun l hl=>?_,fun i r hr=>?_,fun r hr=>?_⟩
   ·rcases List.mem_append.1 hl with hl|hl
    ·exact lg l hl
    ·rw [List.mem_singleton] at hl;subst hl;simp
   ·rw [List.getElem?_append] at hr
    split at hr
    ·exact jb i r hr
    ·rename_i hlt
     cases hd:i - s.rows.length with
     | zero=>rw [hd] at hr;injection hr with hr;subst hr;dsimp only;omega
     | succ n=>rw [hd] at hr;cases hr
   ·rcases List.mem_append.1 hr with hr|hr
    ·exact am r hr
    ·rw [List.mem_singleton] at hr
     subst hr
     exact ⟨Int.le_refl _,by show (0:Int) ≤ s.att;omega,fun _=>by show (0:Int) < s.att;omega⟩
 split at h
 ·split at h
  ·cases h
  ·split at h
   ·cases h
   ·rename_i r hr
    split at h
    ·cases h
    ·rename_i hno
     injection h with h;subst h
     have hr2:s.rows[(c.job - 1).toNat]? = some r:=by
      split at hr
      ·exact hr
      ·cases hr
     refine ⟨a1,a8,by simpa using nr,by simpa using np,by simpa using nl,fun l hl=>?_,set_jobs jb fun q hq=>?_,set_am am ?_⟩
     ·rcases List.mem_or_eq_of_mem_set hl with hl|rfl
      ·exact lg l hl
      ·simp
     ·rw [hr2] at hq;injection hq with hq;rw [← hq];rfl
     ·obtain ⟨m1,m2,m3⟩:=am r (List.mem_of_getElem? hr2)
      have hst:r.status = 1:=Classical.not_not.1 fun q=>hno (.inl q)
      have:=m3 hst
      exact ⟨by show 0 ≤ r.att + 1;omega,by show r.att + 1 ≤ s.att;omega,fun q=>by cases q⟩
 split at h
 ·split at h
  ·cases h
  ·rename_i i hi
   split at h
   ·cases h
   ·rename_i hc
    injection h with h;subst h
    refine ⟨a1,a8,nr,np,by simpa using nl,fun l hl=>?_,jb,am⟩
    rcases List.mem_or_eq_of_mem_set hl with hl|rfl
    ·exact lg l hl
    ·rw [List.length_append];omega
 split at h
 ·split at h
  ·cases h
  ·rename_i i hi
   injection h with h;subst h
   have hlt:i < s.rows.length:=by
    unfold heldAt at hi
    rw [List.findIdx?_eq_some_iff_getElem] at hi
    exact hi.1
   have hg:s.rows.getD i ⟨0,0,0,0,0,0,0,0⟩ = s.rows[i]:=getD_of (List.getElem?_eq_getElem hlt)
   refine ⟨a1,a8,by simpa using nr,by simpa using np,by simpa using nl,lg,set_jobs jb (fun q hq=>by rw [getD_of hq];rfl),set_am am ?_⟩
   obtain ⟨m1,m2,m3⟩:=am _ (List.getElem_mem hlt)
   rw [hg]
   refine ⟨m1,m2,fun q=>?_⟩
   have q:(if s.att ≤ (s.rows[i]).att then (4:Int) else 1) = 1:=q
   split at q
   ·cases q
   ·show (s.rows[i]).att < s.att;omega
 ·split at h
  ·cases h
  ·split at h
   ·cases h
   ·rename_i i hi _
    injection h with h;subst h
    have hlt:i < s.rows.length:=by
     unfold heldAt at hi
     rw [List.findIdx?_eq_some_iff_getElem] at hi
     exact hi.1
    have hg:s.rows.getD i ⟨0,0,0,0,0,0,0,0⟩ = s.rows[i]:=getD_of (List.getElem?_eq_getElem hlt)
    refine ⟨a1,a8,by simpa using nr,by simpa using np,by simpa using nl,lg,set_jobs jb (fun q hq=>by rw [getD_of hq];rfl),set_am am ?_⟩
    obtain ⟨m1,m2,m3⟩:=am _ (List.getElem_mem hlt)
    rw [hg]
    exact ⟨m1,m2,fun q=>by cases q⟩
theorem fnok_does (k:Int):FnOk Tryz.prog (doesN k):=by
 unfold doesN
 (repeat' split) <;> infer_instance
def StepOk (B0:Base) (c:Ch):Prop:=∀ (sb:Nat) (s:StP) (D:List Blk) (a:Option Addr) (k:Nat),StA sb s D → StOk s → SIn B0 a c.txs →
 ConB Tryz.prog B0 (doesN c.kind) #[ptr sb,.agg (c.row a k).toArray] D fun v A=>v = .bool (stepF s c).isSome ∧ StA sb ((stepF s c).getD s) A
def applyG (s0:StP):StP → Nat → List Ch → (Nat × Int) × StP
 | s,i,[]=>((0,0),s)
 | s,i,c :: l=>if checkF c ≠ 0 then ((i,170),s0) else match stepF s c with
  | none=>((i,170),s0)
  | some s'=>applyG s0 s' (i + 1) l
def applyF (s:StP) (l:List Ch):(Nat × Int) × StP:=applyG s s 0 l
structure ApS where
 i:Nat
 s:StP
 D:List Blk
theorem check_kind {c:Ch} (h:checkF c = 0):1 ≤ c.kind ∧ c.kind ≤ 6:=by
 unfold checkF at h
 split at h
 ·cases h
 ·rename_i hk;exact Classical.not_not.1 hk
theorem apply_spec (B0:Base) (sb:Nat) (s:StP) (D:List Blk) (hD:StA sb s D) (ok:StOk s) (a:Option Addr) (cp:Nat) (l:List Cg) (hC:CIn B0 a l) (hl:l.length ≤ 100000000) (hst:∀ g ∈ l,checkF g.c = 0 → StepOk B0 g.c) :
  ConB Tryz.prog B0 9 #[ptr sb,.slice a l.length cp] D fun v A=>v = .tuple #[.int .i64 ((applyF s (l.map Cg.c)).1.1:Nat),.int .i64 (applyF s (l.map Cg.c)).1.2] ∧ StA sb (applyF s (l.map Cg.c)).2 A:=by
 have hclone:ConB Tryz.prog B0 25 #[ptr sb] D fun v X=>∃ A',(∃ s2,v = ptr s2 ∧ StA s2 s A') ∧ X = A' ++ D:=ConB.lend (A1:=[]) fun B1 e hG=>sclone_state B1 sb s (hD.in_ hG) ok
 refine ConB.intro (vs:=[_,_]) Tryz.func9 rfl Tryz.ntmps9 rfl (fun B hB=>?_)
 refine zg0 ?_
 refine Ops.callB hclone hB rfl (noPd rfl) rfl rfl rfl (fun v A' hR=>?_)
 obtain ⟨D2,⟨s2,rfl,hD2⟩,rfl⟩:=hR
 refine zg3 ?_
 refine Cd.loopK (σ:=ApS) (fun t=>t.i ≤ l.length ∧ StA s2 t.s t.D ∧ StOk t.s ∧ applyF s (l.map Cg.c) = applyG s t.s t.i ((l.map Cg.c).drop t.i)) (fun t=>[(0,ptr sb),(6,ptr s2),(11,.slice a l.length cp),(12,.int .i64 l.length),(13,.int .i64 t.i)]) (fun t=>t.D ++ D) (fun t=>l.length - t.i) ⟨0,s,D2⟩ ⟨Nat.zero_le _,hD2,ok,rfl⟩ ⟨rfl,rfl,rfl,rfl,rfl,trivial⟩ (fun w h=>h.split) (fun t ht=>?_)
 obtain ⟨i,s1,D1⟩:=t
 obtain ⟨hi,hD1,ok1,hap⟩:=ht
 dsimp only at hi hD1 ok1 hap ⊢
 by_cases hil:i < l.length
 ·have hil':(i:Int) < l.length:=by omega
  obtain ⟨g,hg⟩:∃ g,l[i]? = some g:=⟨_,List.getElem?_eq_getElem hil⟩
  have hgm:=List.mem_of_getElem? hg
  have hdr:(l.map Cg.c).drop i = g.c :: (l.map Cg.c).drop (i + 1):=by
   have hg2:(l.map Cg.c)[i]? = some g.c:=by rw [List.getElem?_map,hg];rfl
   obtain ⟨h1,h2⟩:=List.getElem?_eq_some_iff.1 hg2
   rw [← h2];exact List.drop_eq_getElem_cons h1
  rw [hdr,applyG] at hap
  obtain ⟨b,off,hab,hrd⟩:=(hC.r.ext hB) i g.row (by rw [List.getElem?_map,hg];rfl)
  subst hab
  have hrw:∀ A j u,g.row[j]? = some u → Rd B.plain A b (off + (i:Int).toNat * 10 + j) u:=fun A j u hu=>by rw [Int.toNat_natCast];exact hrd A j u hu
  refine zg24 ?_
  refine Ops.ldRN (r:=g.row) rfl rfl rfl rfl (hrw _) rfl ?_
  repeat' (first|refine Cd.seq ?_|refine Ops.asg rfl rfl rfl rfl ?_|refine Ops.alloc rfl rfl rfl (noPd rfl) (fun b=>?_)|refine Ops.stN rfl rfl rfl rfl rfl rfl (noPd rfl) ?_)
  rename Nat=>gb
  refine Cd.draw [(0,1,[]),(1,2,[]),(2,0,[]),(3,0,[]),(4,0,[]),(5,1,[]),(7,0,[]),(8,1,[]),(6,2,[8]),(9,2,[]),(10,0,[]),(11,0,[])] (by kernel_rfl) (by kernel_rfl) (by simp only [picked,nth];exact rfl) ?_
  refine zg9 ?_
  refine Ops.callB (rcheck_spec B0 g.c g.a g.k (hC.s g hgm) (hC.n g hgm)) hB rfl (noPd rfl) rfl rfl rfl (fun v A' hR=>?_)
  obtain ⟨rfl,rfl⟩:=hR
  by_cases he:checkF g.c = 0
  ·rw [if_neg (not_not_intro he)] at hap
   rw [he]
   refine zg8 ?_
   refine Ops.call (sdoes_spec g.c.kind (check_kind he)) rfl zp1 rfl rfl rfl (fun v A' hR=>?_)
   obtain ⟨rfl,rfl⟩:=hR
   skip
   haveI:=fnok_does g.c.kind
   refine Ops.callVB (fi:=[]) (ca:=[]) (vs:=[_,_]) (hst g hgm he s2 s1 D1 g.a g.k hD1 ok1 (hC.s g hgm)) hB rfl (noPd rfl) rfl rfl rfl rfl (fun v A' hR=>?_)
   obtain ⟨rfl,hD3⟩:=hR
   cases hs:stepF s1 g.c with
   | none =>
    rw [hs] at hap
    dsimp only at hap
    rw [hap,show (none:Option StP).isSome = false from rfl]
    refine zg20 ?_
    exact ze35
   | some s3 =>
    rw [hs] at hap hD3
    dsimp only at hap
    rw [show (some s3).isSome = true from rfl]
    refine zg27 ?_
    exact Ops.nilN (round_end (⟨i + 1,s3,A'⟩:ApS) ⟨by show i + 1 ≤ l.length;omega,hD3,stepF_ok ok1 hs,hap⟩ zp15 ⟨rfl,rfl,rfl,rfl,rfl,trivial⟩ (fun w h=>h.split))
  ·rw [if_pos he] at hap
   rw [hap]
   refine zg22 ?_
   exact ze35
 ·have hil':¬ (i:Int) < l.length:=by omega
  have hie:i = l.length:=by omega
  rw [List.drop_of_length_le (by rw [List.length_map];omega),applyG] at hap
  rw [hap]
  obtain ⟨q1,rv1,RG1,pv1,PG1,lv1,LG1,ls1,rfl,x1,x2,x3,x4,x5⟩:=hD1
  obtain ⟨qb,rv,RG,pv,PG,lv,LG,ls,rfl,y1,y2,y3,y4,y5⟩:=hD
  obtain ⟨ra1,rc1,rfl⟩:=x1.form
  obtain ⟨pa1,pc1,rfl⟩:=x2.form
  obtain ⟨la1,lc1,rfl⟩:=Own.form x3
  refine zg21 ?_
  exact Cd.ret (ret2 (A':=StB sb q1 s1.res _ _ :: QuB q1 s1.att _ :: (RG1 ++ (PG1 ++ (LG1 ++ ls1.flatMap Lg.G)))) rfl (Res.tmp rfl) (Res.tmp rfl) (fun _ h=>h.split) ⟨rfl,q1,_,RG1,_,PG1,_,LG1,ls1,rfl,x1,x2,x3,x4,x5⟩)
end Go.Proofs.YtaecdnfkcebbeaaGreat
namespace Go.Proofs.YtaecdnfkcebbeaaGreat
open Go Go.Sep Go.Proofs
set_option maxRecDepth 10000
theorem step_reserve (B0:Base) (c:Ch) (h:c.kind = 1):StepOk B0 c:=by
 intro sb s D a k hD ok hS
 obtain ⟨qb,rv,RG,pv,PG,lv,LG,ls,rfl,y1,y2,y3,y4,y5⟩:=hD
 rw [show doesN c.kind = 62 from if_pos h]
 have hs:stepF s c = if s.res < c.n then some { s with res:=c.n } else none:=if_pos h
 refine ConB.mono (((reserve_spec sb qb s.res pv lv c a k).beside (F:=QuB qb s.att rv :: (RG ++ (PG ++ (LG ++ ls.flatMap Lg.G))))).toB) (fun v A hR=>?_)
 obtain ⟨A',⟨rfl,rfl⟩,rfl⟩:=hR
 rw [hs]
 by_cases hlt:s.res < c.n
 ·rw [if_pos hlt,if_pos hlt]
  exact ⟨by rw [decide_eq_true hlt];rfl,qb,rv,RG,pv,PG,lv,LG,ls,rfl,y1,y2,y3,y4,y5⟩
 ·rw [if_neg hlt,if_neg hlt]
  exact ⟨by rw [decide_eq_false hlt];rfl,qb,rv,RG,pv,PG,lv,LG,ls,rfl,y1,y2,y3,y4,y5⟩
end Go.Proofs.YtaecdnfkcebbeaaGreat
namespace Go.Proofs.YtaecdnfkcebbeaaGreat
open Go Go.Sep Go.Proofs
set_option maxRecDepth 10000
set_option maxHeartbeats 40000000
set_option synthInstance.maxSize 2000
theorem qin_spec (a l h:Int):Con Tryz.prog 183 #[.int .i64 a,.int .i64 l,.int .i64 h] [] fun v A=>v = .bool (decide (l ≤ a ∧ a ≤ h)) ∧ A = []:=by
 refine Con.intro (vs:=[_,_,_]) Tryz.func183 rfl Tryz.ntmps183 rfl (fun B=>?_)
 by_cases h1:l ≤ a
 ·by_cases h2:a ≤ h
  ·rw [decide_eq_true (⟨h1,h2⟩:l ≤ a ∧ a ≤ h)]
   refine zg25 ?_
   exact ze29
  ·rw [decide_eq_false (fun q:l ≤ a ∧ a ≤ h=>h2 q.2)]
   refine zg25 ?_
   exact ze30
 ·rw [decide_eq_false (fun q:l ≤ a ∧ a ≤ h=>h1 q.1)]
  refine zg11 ?_
  exact ze8
theorem qholder_spec (node life:Int):Con Tryz.prog 186 #[.agg [.int .i64 node,.int .i64 life].toArray] [] fun v A=>v = .bool (holderOk node life) ∧ A = []:=by
 refine Con.intro (vs:=[_]) Tryz.func186 rfl Tryz.ntmps186 rfl (fun B=>?_)
 have e:holderOk node life = (decide (2 ≤ node ∧ node ≤ 9) && decide (1 ≤ life ∧ life ≤ 1099511627776)):=by
  unfold holderOk
  rw [Bool.eq_iff_iff];simp [and_assoc]
 rw [e]
 repeat' (first|refine Cd.seq ?_|refine Cd.reg ?_|refine Ops.asg rfl rfl rfl rfl ?_|refine Ops.fa0 rfl rfl rfl rfl ?_|refine Ops.ld1 rfl rfl rfl rfl rfl ?_|refine Ops.box rfl rfl rfl rfl (noPd rfl) (fun b=>?_))
 refine Ops.call (qin_spec node 2 9) rfl (noPd rfl) rfl rfl rfl (fun v A' hR=>?_)
 obtain ⟨rfl,rfl⟩:=hR
 cases decide (2 ≤ node ∧ node ≤ 9) with
 | true =>
  refine zg2 ?_
  refine Ops.call (qin_spec life 1 1099511627776) rfl (noPd rfl) rfl rfl rfl (fun v A' hR=>?_)
  obtain ⟨rfl,rfl⟩:=hR
  refine zg5 ?_
  exact ze8
 | false =>
  refine zg6 ?_
  exact ze8
def resOk (code bits:Int):Bool:=decide (0 ≤ code ∧ code ≤ 7) && (decide (code = 0) || decide (bits = 0))
theorem qresult_spec (code bits:Int):Con Tryz.prog 190 #[.agg [.int .i64 code,.int .u64 bits].toArray] [] fun v A=>v = .bool (resOk code bits) ∧ A = []:=by
 refine Con.intro (vs:=[_]) Tryz.func190 rfl Tryz.ntmps190 rfl (fun B=>?_)
 unfold resOk
 repeat' (first|refine Cd.seq ?_|refine Cd.reg ?_|refine Ops.asg rfl rfl rfl rfl ?_|refine Ops.fa0 rfl rfl rfl rfl ?_|refine Ops.ld1 rfl rfl rfl rfl rfl ?_|refine Ops.box rfl rfl rfl rfl (noPd rfl) (fun b=>?_))
 refine Ops.call (qin_spec code 0 7) rfl (noPd rfl) rfl rfl rfl (fun v A' hR=>?_)
 obtain ⟨rfl,rfl⟩:=hR
 cases decide (0 ≤ code ∧ code ≤ 7) with
 | true =>
  by_cases hc:code = 0
  ·refine zg25 ?_
   exact Cd.ret (ret1 (A':=[]) rfl (Res.tmp rfl) (fun _ h=>h.split) ⟨by rw [decide_eq_true hc];rfl,rfl⟩)
  ·refine zg11 ?_
   exact Cd.ret (ret1 (A':=[]) rfl (Res.tmp rfl) (fun _ h=>h.split) ⟨by rw [decide_eq_false hc];rfl,rfl⟩)
 | false =>
  refine zg6 ?_
  exact ze8
def idxF (l:List Rw) (p:Rw → Bool):Int:=match l.findIdx? p with
 | some i=>(i:Int)
 | none=>-1
theorem findIdx_step {l:List Rw} {p:Rw → Bool} {i:Nat} {r:Rw} (h0:∀ (j:Nat) (q:Rw),j < i → l[j]? = some q → p q = false) (hr:l[i]? = some r) (hp:p r = true):l.findIdx? p = some i:=by
 obtain ⟨h1,h2⟩:=List.getElem?_eq_some_iff.1 hr
 rw [List.findIdx?_eq_some_iff_getElem]
 refine ⟨h1,by rw [h2];exact hp,fun j hj=>?_⟩
 have hjl:j < l.length:=by omega
 rw [h0 j l[j] hj (List.getElem?_eq_getElem hjl)]
 simp
theorem findIdx_no {l:List Rw} {p:Rw → Bool} (h0:∀ (j:Nat) (q:Rw),j < l.length → l[j]? = some q → p q = false):l.findIdx? p = none:=by
 rw [List.findIdx?_eq_none_iff]
 intro x hx
 obtain ⟨j,hj,rfl⟩:=List.getElem_of_mem hx
 exact h0 j _ hj (List.getElem?_eq_getElem hj)
theorem idxR_spec (B0:Base) (a:Option Addr) (c:Nat) (l:List Rw) (hR0:RIn 8 B0 a (l.map Rw.row)) (hl:l.length ≤ 2000000) (f:FuncId) (ca:List Value) (C:List Blk) (p:Rw → Bool) [FnOk Tryz.prog f]
  (hp:∀ r:Rw,Con Tryz.prog f ([Value.agg r.row.toArray] ++ ca).toArray C fun v A=>v = .bool (p r) ∧ A = C) :
  ConB Tryz.prog B0 242 #[.slice a l.length c,.func (.func f) #[] ca.toArray] C fun v A=>v = .int .i64 (idxF l p) ∧ A = C:=by
 refine ConB.intro (vs:=[_,_]) Tryz.func242 rfl Tryz.ntmps242 rfl (fun B hx=>?_)
 have hS:=hR0.ext hx
 generalize B.plain = B1 at hS ⊢
 clear hx
 refine zg3 ?_
 refine Cd.loopK (fun i:Nat=>i ≤ l.length ∧ ∀ (j:Nat) (q:Rw),j < i → l[j]? = some q → p q = false) (fun i=>[(0,.slice a l.length c),(1,.func (.func f) #[] ca.toArray),(7,.int .i64 l.length),(8,.int .i64 i)])
  (fun _=>C) (fun i=>l.length - i) 0 ⟨Nat.zero_le _,fun j q hj=>(by omega)⟩ ⟨rfl,rfl,rfl,rfl,trivial⟩ (fun w h=>h.split) (fun i hI=>?_)
 obtain ⟨hi,hem⟩:=hI
 by_cases hil:i < l.length
 ·have hil':(i:Int) < l.length:=by omega
  obtain ⟨x,hx⟩:∃ x,l[i]? = some x:=⟨_,List.getElem?_eq_getElem hil⟩
  obtain ⟨b,off,rfl,hrd⟩:=hS i x.row (by rw [List.getElem?_map,hx];rfl)
  have hrw:∀ A j u,x.row[j]? = some u → Rd B1 A b (off + (i:Int).toNat * 8 + j) u:=fun A j u hu=>by rw [Int.toNat_natCast];exact hrd A j u hu
  refine zg24 ?_
  refine Ops.ldRN (r:=x.row) rfl rfl rfl rfl (hrw _) rfl ?_
  skip
  refine Ops.callV (fi:=[]) (ca:=ca) (vs:=[.agg x.row.toArray]) (hp x) rfl (noPd rfl) rfl rfl rfl rfl (fun v A' hR=>?_)
  obtain ⟨rfl,e⟩:=hR
  subst A'
  cases hq:p x with
  | true =>
   refine zg5 ?_
   exact Cd.ret (ret1 (A':=C) rfl (Res.tmp rfl) (fun _ h=>h.split) ⟨by rw [idxF,findIdx_step hem hx hq],rfl⟩)
  | false =>
   refine zg27 ?_
   refine Ops.nilN (round_end (i + 1) ⟨by show i + 1 ≤ l.length;omega,fun j q hj hjq=>?_⟩ zp15 ⟨rfl,rfl,rfl,rfl,trivial⟩ (fun w h=>h.split))
   rcases (by omega:j < i ∨ j = i) with h|rfl
   ·exact hem j q h hjq
   ·rw [hx] at hjq;injection hjq with hjq;rw [← hjq];exact hq
 ·obtain rfl:i = l.length:=by omega
  have hil':¬ ((l.length:Nat):Int) < l.length:=by omega
  refine zg12 ?_
  exact Cd.ret (ret1 (A':=C) rfl (Res.tmp rfl) (fun _ h=>h.split) ⟨by rw [idxF,findIdx_no hem],rfl⟩)
theorem first_spec (B0:Base) (a:Option Addr) (c:Nat) (l:List Rw) (hR0:RIn 8 B0 a (l.map Rw.row)) (hl:l.length ≤ 2000000) (f:FuncId) (ca:List Value) (C:List Blk) (p:Rw → Bool) [FnOk Tryz.prog f]
  (hp:∀ r:Rw,Con Tryz.prog f ([Value.agg r.row.toArray] ++ ca).toArray C fun v A=>v = .bool (p r) ∧ A = C) :
  ConB Tryz.prog B0 184 #[.slice a l.length c,.func (.func f) #[] ca.toArray] C fun v A=>v = .int .i64 (idxF l p) ∧ A = C:=by
 refine ConB.intro (vs:=[_,_]) Tryz.func184 rfl Tryz.ntmps184 rfl (fun B hB=>?_)
 refine zg0 ?_
 refine Ops.callB (idxR_spec B0 a c l hR0 hl f ca C p hp) hB rfl (noPd rfl) rfl rfl rfl (fun v A' hR=>?_)
 obtain ⟨rfl,e⟩:=hR
 subst A'
 refine zg1 ?_
 exact Cd.ret (ret1 (A':=C) rfl (Res.tmp rfl) (fun _ h=>h.split) ⟨rfl,rfl⟩)
theorem first_own (B0:Base) (a:Option Addr) (c:Nat) (l:List Rw) (RG:List Blk) (hO:OwnQ (.slice a l.length c) l RG) (hl:l.length ≤ 2000000) (f:FuncId) (ca:List Value) (C:List Blk) (p:Rw → Bool) [FnOk Tryz.prog f]
  (hp:∀ r:Rw,Con Tryz.prog f ([Value.agg r.row.toArray] ++ ca).toArray C fun v A=>v = .bool (p r) ∧ A = C) :
  ConB Tryz.prog B0 184 #[.slice a l.length c,.func (.func f) #[] ca.toArray] (C ++ RG) fun v A=>v = .int .i64 (idxF l p) ∧ A = C ++ RG :=
 (ConB.lend (A1:=C) fun B1 e hG=>first_spec B1 a c l (Own.rin hO hG) hl f ca C p hp).mono fun v A hR=>by
  obtain ⟨A',⟨rfl,rfl⟩,rfl⟩:=hR
  exact ⟨rfl,rfl⟩
theorem held1_spec (xb:Nat) (badge:Int) (r:Rw):Con Tryz.prog 243 ([Value.agg r.row.toArray] ++ [ptr xb]).toArray [(xb,cl [.int .i64 badge] 3)] fun v A=>v = .bool (decide (r.status = 2 ∧ r.badge = badge)) ∧ A = [(xb,cl [.int .i64 badge] 3)]:=by
 refine Con.intro (vs:=[_,_]) Tryz.func243 rfl Tryz.ntmps243 rfl (fun B=>?_)
 by_cases h1:r.status = 2
 ·repeat' (first|refine Cd.seq ?_|refine Cd.reg ?_|refine Ops.nil ?_|refine Ops.mv rfl rfl rfl rfl ?_|refine Ops.asg rfl rfl rfl rfl ?_|refine Ops.fa0 rfl rfl rfl rfl ?_|refine Ops.ld1 rfl rfl rfl rfl rfl ?_|refine Ops.bin rfl rfl rfl rfl rfl ?_|refine Ops.pickT rfl rfl rfl rfl rfl ?_|refine Ops.box rfl rfl rfl rfl (noPd rfl) (fun b=>?_)|((fail_if_success refine Ops.probe rfl ?_);refine Ops.gT rfl rfl zp0 ?_))
  exact ze46
 ·repeat' (first|refine Cd.seq ?_|refine Cd.reg ?_|refine Ops.nil ?_|refine Ops.mv rfl rfl rfl rfl ?_|refine Ops.asg rfl rfl rfl rfl ?_|refine Ops.fa0 rfl rfl rfl rfl ?_|refine Ops.ld1 rfl rfl rfl rfl rfl ?_|refine Ops.bin rfl rfl rfl rfl rfl ?_|refine Ops.pickF rfl rfl rfl rfl rfl ?_|refine Ops.box rfl rfl rfl rfl (noPd rfl) (fun b=>?_)|refine Ops.gSkip rfl rfl rfl ?_|((fail_if_success refine Ops.probe rfl ?_);refine Ops.gF rfl rfl zp0 ?_))
  exact ze46
theorem rset {rows:List Rw} {i:Nat} {q:Rw}:(rows.map Rw.row).set i q.row = (rows.set i q).map Rw.row:=List.map_set.symm
theorem rset2 {rows:List Rw} {i:Nat} {q q2:Rw}:((rows.set i q).map Rw.row).set i q2.row = (rows.set i q2).map Rw.row:=by rw [rset,List.set_set]
theorem rget {rows:List Rw} {i:Nat} {q:Rw} (h:rows[i]? = some q):(rows.map Rw.row)[i]? = some q.row:=by rw [List.getElem?_map,h];rfl
theorem rget_set {rows:List Rw} {i:Nat} {q:Rw} (h:i < rows.length):((rows.set i q).map Rw.row)[i]? = some q.row:=rget (List.getElem?_set_self h)
theorem idx_held (rows:List Rw) (badge:Int):idxF rows (fun r=>decide (r.status = 2 ∧ r.badge = badge)) = match heldAt rows badge with|some i=>(i:Int)|none=>-1:=rfl
theorem held_none (B0:Base) (qb:Nat) (att:Int) (a:Option Addr) (c:Nat) (rows:List Rw) (RG:List Blk) (hO:OwnQ (.slice a rows.length c) rows RG) (hl:rows.length ≤ 8) (badge:Int) (hn:heldAt rows badge = none) :
  ConB Tryz.prog B0 189 #[ptr qb,.int .i64 badge] (QuB qb att (.slice a rows.length c) :: RG) fun v A=>v = .pointer none ∧ A = QuB qb att (.slice a rows.length c) :: RG:=by
 refine ConB.intro (vs:=[_,_]) Tryz.func189 rfl Tryz.ntmps189 rfl (fun B hB=>?_)
 repeat' (first|refine Ops.mkF rfl rfl rfl rfl rfl ?_|refine Cd.seq ?_|refine Cd.reg ?_|refine Ops.mv rfl rfl rfl rfl ?_|refine Ops.asg rfl rfl rfl rfl ?_|refine Ops.nilP rfl rfl rfl rfl ?_|refine Ops.fa0 rfl rfl rfl rfl ?_|refine Ops.ld1 rfl rfl rfl rfl rfl ?_|refine Ops.box rfl rfl rfl rfl (noPd rfl) (fun b=>?_))
 rename Nat=>xb
 refine Ops.callB (first_own B0 a c rows RG hO (by omega) 243 [ptr xb] [(xb,cl [.int .i64 badge] 3)] _ (fun r=>held1_spec xb badge r)) hB rfl (noPd rfl) rfl rfl rfl (fun v A' hR=>?_)
 obtain ⟨rfl,e⟩:=hR
 subst A'
 rw [idx_held,hn]
 refine zg5 ?_
 exact ze47
theorem held_lt {rows:List Rw} {badge:Int} {i:Nat} (h:heldAt rows badge = some i):i < rows.length:=by
 unfold heldAt at h
 rw [List.findIdx?_eq_some_iff_getElem] at h
 exact h.1
theorem held_some (B0:Base) (qb:Nat) (att:Int) (g c:Nat) (sp:List Value) (rows:List Rw) (hO:OwnQ (.slice (some ⟨g,0,none⟩) rows.length c) rows [(g,cl ((rows.map Rw.row).flatten ++ sp) 98)]) (hl:rows.length ≤ 8) (badge:Int) (i:Nat) (hn:heldAt rows badge = some i) :
  ConB Tryz.prog B0 189 #[ptr qb,.int .i64 badge] [QuB qb att (.slice (some ⟨g,0,none⟩) rows.length c),(g,cl ((rows.map Rw.row).flatten ++ sp) 98)] fun v A=>v = .pointer (some ⟨g,i * 8,none⟩) ∧ A = [QuB qb att (.slice (some ⟨g,0,none⟩) rows.length c),(g,cl ((rows.map Rw.row).flatten ++ sp) 98)]:=by
 have hi:=held_lt hn
 refine ConB.intro (vs:=[_,_]) Tryz.func189 rfl Tryz.ntmps189 rfl (fun B hB=>?_)
 repeat' (first|refine Ops.mkF rfl rfl rfl rfl rfl ?_|refine Cd.seq ?_|refine Cd.reg ?_|refine Ops.mv rfl rfl rfl rfl ?_|refine Ops.asg rfl rfl rfl rfl ?_|refine Ops.nilP rfl rfl rfl rfl ?_|refine Ops.fa0 rfl rfl rfl rfl ?_|refine Ops.ld1 rfl rfl rfl rfl rfl ?_|refine Ops.box rfl rfl rfl rfl (noPd rfl) (fun b=>?_))
 rename Nat=>xb
 refine Ops.callB (first_own B0 (some ⟨g,0,none⟩) c rows _ hO (by omega) 243 [ptr xb] [(xb,cl [.int .i64 badge] 3)] _ (fun r=>held1_spec xb badge r)) hB rfl (noPd rfl) rfl rfl rfl (fun v A' hR=>?_)
 obtain ⟨rfl,e⟩:=hR
 subst A'
 rw [idx_held,hn]
 dsimp only
 refine zg37 ?_
 exact Cd.ret (ret1 (A':=[QuB qb att (.slice (some ⟨g,0,none⟩) rows.length c),(g,cl ((rows.map Rw.row).flatten ++ sp) 98)]) rfl (Res.tmp rfl) (fun _ h=>h.split) ⟨rfl,rfl⟩)
theorem expire_none (B0:Base) (qb:Nat) (att:Int) (a:Option Addr) (c:Nat) (rows:List Rw) (RG:List Blk) (hO:OwnQ (.slice a rows.length c) rows RG) (hl:rows.length ≤ 8) (badge:Int) (hn:heldAt rows badge = none) :
  ConB Tryz.prog B0 115 #[ptr qb,.int .i64 badge] (QuB qb att (.slice a rows.length c) :: RG) fun v A=>v = .tuple #[.int .i64 0,.int .i64 113] ∧ A = QuB qb att (.slice a rows.length c) :: RG:=by
 refine ConB.intro (vs:=[_,_]) Tryz.func115 rfl Tryz.ntmps115 rfl (fun B hB=>?_)
 refine zg0 ?_
 refine Ops.callB (held_none B0 qb att a c rows RG hO hl badge hn) hB rfl (noPd rfl) rfl rfl rfl (fun v A' hR=>?_)
 obtain ⟨rfl,rfl⟩:=hR
 refine zg5 ?_
 exact ze48
theorem expire_some (B0:Base) (qb:Nat) (att:Int) (g c:Nat) (sp:List Value) (rows:List Rw) (hO:OwnQ (.slice (some ⟨g,0,none⟩) rows.length c) rows [(g,cl ((rows.map Rw.row).flatten ++ sp) 98)]) (hl:rows.length ≤ 8) (badge:Int) (i:Nat) (r:Rw) (hn:heldAt rows badge = some i) (hr:rows[i]? = some r) :
  ConB Tryz.prog B0 115 #[ptr qb,.int .i64 badge] [QuB qb att (.slice (some ⟨g,0,none⟩) rows.length c),(g,cl ((rows.map Rw.row).flatten ++ sp) 98)] fun v A=>v = .tuple #[.int .i64 r.job,.int .i64 0] ∧ A = [QuB qb att (.slice (some ⟨g,0,none⟩) rows.length c),(g,cl (((rows.set i (r.free att)).map Rw.row).flatten ++ sp) 98)]:=by
 have hi:=held_lt hn
 obtain ⟨job,st,at_,bd,nd,lf,rc,rx⟩:=r
 refine ConB.intro (vs:=[_,_]) Tryz.func115 rfl Tryz.ntmps115 rfl (fun B hB=>?_)
 refine zg0 ?_
 refine Ops.callB (held_some B0 qb att g c sp rows hO hl badge i hn) hB rfl (noPd rfl) rfl rfl rfl (fun v A' hR=>?_)
 obtain ⟨rfl,rfl⟩:=hR
 refine zg32 ?_
 refine Ops.stRow1 (i:=i) (o:=1) rfl rfl rfl rfl rfl (rws_ok rows) (rget hr) rfl (noPd rfl) ?_
 rw [show (rows.map Rw.row).set i ((⟨job,st,at_,bd,nd,lf,rc,rx⟩:Rw).row.set 1 (.int .i64 1)) = (rows.set i ⟨job,1,at_,bd,nd,lf,rc,rx⟩).map Rw.row from rset (q:=⟨job,1,at_,bd,nd,lf,rc,rx⟩)]
 refine zg2 ?_
 refine Ops.stRowN (i:=i) (o:=4) rfl rfl rfl rfl rfl rfl (rws_ok _) (rget_set hi) (noPd rfl) ?_
 rw [show ((rows.set i ⟨job,1,at_,bd,nd,lf,rc,rx⟩).map Rw.row).set i (⟨job,1,at_,bd,0,0,rc,rx⟩:Rw).row = (rows.set i ⟨job,1,at_,bd,0,0,rc,rx⟩).map Rw.row from rset2]
 generalize hc5:Code.seq (Code.seq (Code.region 5 _ _) _) _ = c5
 refine zg1 ?_
 subst hc5
 refine Cd.cut (σ:=Unit) (fun _=>True) (fun _=>[(6,.pointer (some ⟨g,i * 8,none⟩))]) (fun _=>[QuB qb att (.slice (some ⟨g,0,none⟩) rows.length c),(g,cl (((rows.set i ((⟨job,st,at_,bd,nd,lf,rc,rx⟩:Rw).free att)).map Rw.row).flatten ++ sp) 98)]) ?_ (fun _ _=>?_)
 ·refine zg0 ?_
  refine Cd.draw [(0,0,[]),(1,0,[]),(2,0,[]),(3,1,[]),(4,0,[]),(5,0,[]),(6,0,[]),(7,1,[]),(8,0,[])] (by kernel_rfl) (by kernel_rfl) (by simp only [picked,nth];exact rfl) ?_
  refine zg4 ?_
  refine Ops.ldRow1 (i:=i) (o:=2) rfl rfl rfl (rws_ok _) (rget_set hi) rfl rfl ?_
  by_cases hle:att ≤ at_
  ·refine zg24 ?_
   refine Ops.stRow1 (i:=i) (o:=1) rfl rfl rfl rfl rfl (rws_ok _) (rget_set hi) rfl (noPd rfl) ?_
   rw [show ((rows.set i ⟨job,1,at_,bd,0,0,rc,rx⟩).map Rw.row).set i ((⟨job,1,at_,bd,0,0,rc,rx⟩:Rw).row.set 1 (.int .i64 4)) = (rows.set i ⟨job,4,at_,bd,0,0,rc,rx⟩).map Rw.row from rset2 (q2:=⟨job,4,at_,bd,0,0,rc,rx⟩)]
   rw [show (⟨job,st,at_,bd,nd,lf,rc,rx⟩:Rw).free att = ⟨job,4,at_,bd,0,0,rc,rx⟩ from by unfold Rw.free;rw [if_pos hle]]
   exact Ops.nilN (meet_end (Q:=fun _ _ _=>True) () trivial ⟨rfl,trivial⟩ (fun w h=>h.split))
  ·rw [show (⟨job,st,at_,bd,nd,lf,rc,rx⟩:Rw).free att = ⟨job,1,at_,bd,0,0,rc,rx⟩ from by unfold Rw.free;rw [if_neg hle]]
   refine zg21 ?_
   exact Cd.skip (meet_end (Q:=fun _ _ _=>True) () trivial ⟨rfl,trivial⟩ (fun w h=>h.split))
 refine zg4 ?_
 refine Ops.ldRow1 (i:=i) (o:=0) rfl rfl rfl (rws_ok _) (rget_set hi) rfl rfl ?_
 refine zg1 ?_
 exact Cd.ret (ret2 (A':=[QuB qb att (.slice (some ⟨g,0,none⟩) rows.length c),(g,cl (((rows.set i ((⟨job,st,at_,bd,nd,lf,rc,rx⟩:Rw).free att)).map Rw.row).flatten ++ sp) 98)]) rfl (Res.tmp rfl) (Res.tmp rfl) (fun _ h=>h.split) ⟨rfl,rfl⟩)
theorem settle_none (B0:Base) (qb:Nat) (att:Int) (a:Option Addr) (c:Nat) (rows:List Rw) (RG:List Blk) (hO:OwnQ (.slice a rows.length c) rows RG) (hl:rows.length ≤ 8) (badge code bits:Int) (hn:heldAt rows badge = none) :
  ConB Tryz.prog B0 116 #[ptr qb,.int .i64 badge,.agg [.int .i64 code,.int .u64 bits].toArray] (QuB qb att (.slice a rows.length c) :: RG) fun v A=>v = .tuple #[.int .i64 0,.int .i64 113] ∧ A = QuB qb att (.slice a rows.length c) :: RG:=by
 refine ConB.intro (vs:=[_,_,_]) Tryz.func116 rfl Tryz.ntmps116 rfl (fun B hB=>?_)
 repeat' (first|refine Cd.seq ?_|refine Cd.reg ?_|refine Ops.mv rfl rfl rfl rfl ?_|refine Ops.asg rfl rfl rfl rfl ?_|refine Ops.box rfl rfl rfl rfl (noPd rfl) (fun b=>?_))
 refine Ops.callB (held_none B0 qb att a c rows RG hO hl badge hn) hB rfl (noPd rfl) rfl rfl rfl (fun v A' hR=>?_)
 obtain ⟨rfl,rfl⟩:=hR
 refine zg5 ?_
 exact ze48
theorem settle_bad (B0:Base) (qb:Nat) (att:Int) (g c:Nat) (sp:List Value) (rows:List Rw) (hO:OwnQ (.slice (some ⟨g,0,none⟩) rows.length c) rows [(g,cl ((rows.map Rw.row).flatten ++ sp) 98)]) (hl:rows.length ≤ 8) (badge code bits:Int) (i:Nat) (hn:heldAt rows badge = some i) (hb:resOk code bits = false) :
  ConB Tryz.prog B0 116 #[ptr qb,.int .i64 badge,.agg [.int .i64 code,.int .u64 bits].toArray] [QuB qb att (.slice (some ⟨g,0,none⟩) rows.length c),(g,cl ((rows.map Rw.row).flatten ++ sp) 98)] fun v A=>v = .tuple #[.int .i64 0,.int .i64 1] ∧ A = [QuB qb att (.slice (some ⟨g,0,none⟩) rows.length c),(g,cl ((rows.map Rw.row).flatten ++ sp) 98)]:=by
 refine ConB.intro (vs:=[_,_,_]) Tryz.func116 rfl Tryz.ntmps116 rfl (fun B hB=>?_)
 repeat' (first|refine Cd.seq ?_|refine Cd.reg ?_|refine Ops.mv rfl rfl rfl rfl ?_|refine Ops.asg rfl rfl rfl rfl ?_|refine Ops.box rfl rfl rfl rfl (noPd rfl) (fun b=>?_))
 refine Ops.callB (held_some B0 qb att g c sp rows hO hl badge i hn) hB rfl (noPd rfl) rfl rfl rfl (fun v A' hR=>?_)
 obtain ⟨rfl,rfl⟩:=hR
 refine zg13 ?_
 refine Ops.call (qresult_spec code bits) rfl (noPd rfl) rfl rfl rfl (fun v A' hR=>?_)
 obtain ⟨rfl,rfl⟩:=hR
 rw [hb]
 refine zg15 ?_
 exact Cd.ret (ret2 (A':=[QuB qb att (.slice (some ⟨g,0,none⟩) rows.length c),(g,cl ((rows.map Rw.row).flatten ++ sp) 98)]) rfl (Res.tmp rfl) (Res.tmp rfl) (fun _ h=>h.split) ⟨rfl,rfl⟩)
theorem settle_some (B0:Base) (qb:Nat) (att:Int) (g c:Nat) (sp:List Value) (rows:List Rw) (hO:OwnQ (.slice (some ⟨g,0,none⟩) rows.length c) rows [(g,cl ((rows.map Rw.row).flatten ++ sp) 98)]) (hl:rows.length ≤ 8) (badge code bits:Int) (i:Nat) (r:Rw) (hn:heldAt rows badge = some i) (hr:rows[i]? = some r) (hb:resOk code bits = true) :
  ConB Tryz.prog B0 116 #[ptr qb,.int .i64 badge,.agg [.int .i64 code,.int .u64 bits].toArray] [QuB qb att (.slice (some ⟨g,0,none⟩) rows.length c),(g,cl ((rows.map Rw.row).flatten ++ sp) 98)] fun v A=>v = .tuple #[.int .i64 r.job,.int .i64 0] ∧ A = [QuB qb att (.slice (some ⟨g,0,none⟩) rows.length c),(g,cl (((rows.set i (r.done code bits)).map Rw.row).flatten ++ sp) 98)]:=by
 have hi:=held_lt hn
 obtain ⟨job,st,at_,bd,nd,lf,rc,rx⟩:=r
 refine ConB.intro (vs:=[_,_,_]) Tryz.func116 rfl Tryz.ntmps116 rfl (fun B hB=>?_)
 repeat' (first|refine Cd.seq ?_|refine Cd.reg ?_|refine Ops.mv rfl rfl rfl rfl ?_|refine Ops.asg rfl rfl rfl rfl ?_|refine Ops.box rfl rfl rfl rfl (noPd rfl) (fun b=>?_))
 rename Nat=>xb
 refine Ops.callB (held_some B0 qb att g c sp rows hO hl badge i hn) hB rfl (noPd rfl) rfl rfl rfl (fun v A' hR=>?_)
 obtain ⟨rfl,rfl⟩:=hR
 refine zg13 ?_
 refine Ops.call (qresult_spec code bits) rfl (noPd rfl) rfl rfl rfl (fun v A' hR=>?_)
 obtain ⟨rfl,rfl⟩:=hR
 rw [hb]
 refine zg6 ?_
 refine Cd.draw [(0,0,[]),(1,0,[]),(2,0,[]),(3,0,[]),(4,1,[]),(5,0,[]),(6,0,[]),(7,2,[4]),(8,0,[]),(9,0,[]),(10,2,[4]),(11,0,[]),(12,0,[]),(13,2,[])] (by kernel_rfl) (by kernel_rfl) (by simp only [picked,nth];exact rfl) ?_
 refine zg9 ?_
 refine Ops.stRow1 (i:=i) (o:=1) rfl rfl rfl rfl rfl (rws_ok rows) (rget hr) rfl zp4 ?_
 rw [show (rows.map Rw.row).set i ((⟨job,st,at_,bd,nd,lf,rc,rx⟩:Rw).row.set 1 (.int .i64 3)) = (rows.set i ⟨job,3,at_,bd,nd,lf,rc,rx⟩).map Rw.row from rset (q:=⟨job,3,at_,bd,nd,lf,rc,rx⟩)]
 refine zg2 ?_
 refine Ops.stRowN (i:=i) (o:=4) rfl rfl rfl rfl rfl rfl (rws_ok _) (rget_set hi) zp4 ?_
 rw [show ((rows.set i ⟨job,3,at_,bd,nd,lf,rc,rx⟩).map Rw.row).set i (⟨job,3,at_,bd,0,0,rc,rx⟩:Rw).row = (rows.set i ⟨job,3,at_,bd,0,0,rc,rx⟩).map Rw.row from rset2]
 refine zg2 ?_
 refine Ops.stRowN (i:=i) (o:=6) rfl rfl rfl rfl rfl rfl (rws_ok _) (rget_set hi) (noPd rfl) ?_
 rw [show ((rows.set i ⟨job,3,at_,bd,0,0,rc,rx⟩).map Rw.row).set i (⟨job,3,at_,bd,0,0,code,bits⟩:Rw).row = (rows.set i ⟨job,3,at_,bd,0,0,code,bits⟩).map Rw.row from rset2]
 refine zg4 ?_
 refine Ops.ldRow1 (i:=i) (o:=0) rfl rfl rfl (rws_ok _) (rget_set hi) rfl rfl ?_
 refine zg1 ?_
 exact Cd.ret (ret2 (A':=[QuB qb att (.slice (some ⟨g,0,none⟩) rows.length c),(g,cl (((rows.set i ⟨job,3,at_,bd,0,0,code,bits⟩).map Rw.row).flatten ++ sp) 98)]) rfl (Res.tmp rfl) (Res.tmp rfl) (fun _ h=>h.split) ⟨rfl,rfl⟩)
theorem qsubmit_full (qb:Nat) (att:Int) (a:Option Addr) (c n:Nat) (hl:8 ≤ n) :
  Con Tryz.prog 112 #[ptr qb] [QuB qb att (.slice a n c)] fun v A=>v = .tuple #[.int .i64 0,.int .i64 110] ∧ A = [QuB qb att (.slice a n c)]:=by
 have hl':(8:Int) ≤ (n:Int):=by omega
 refine Con.intro (vs:=[_]) Tryz.func112 rfl Tryz.ntmps112 rfl (fun B=>?_)
 refine zg24 ?_
 exact Cd.ret (ret2 (A':=[QuB qb att (.slice a n c)]) rfl (Res.tmp rfl) (Res.tmp rfl) (fun _ h=>h.split) ⟨rfl,rfl⟩)
theorem qsubmit_spec (qb:Nat) (att:Int) (a:Option Addr) (c:Nat) (rows:List Rw) (RG:List Blk) (hO:OwnQ (.slice a rows.length c) rows RG) (hl:rows.length < 8) :
  Con Tryz.prog 112 #[ptr qb] (QuB qb att (.slice a rows.length c) :: RG) fun v A=>v = .tuple #[.int .i64 ((rows.length:Int) + 1),.int .i64 0] ∧ ∃ rv RG1,A = QuB qb att rv :: RG1 ∧ OwnQ rv (rows ++ [⟨(rows.length:Int) + 1,1,0,0,0,0,0,0⟩]) RG1:=by
 have hl':¬ (8:Int) ≤ (rows.length:Int):=by omega
 refine Con.intro (vs:=[_]) Tryz.func112 rfl Tryz.ntmps112 rfl (fun B=>?_)
 repeat' (first|refine Cd.seq ?_|refine Cd.reg ?_|refine Ops.nil ?_|refine Ops.mv rfl rfl rfl rfl ?_|refine Ops.asg rfl rfl rfl rfl ?_|refine Ops.nilP rfl rfl rfl rfl ?_|refine Ops.fa0 rfl rfl rfl rfl ?_|refine Ops.ld1 rfl rfl rfl rfl rfl ?_|refine Ops.lenS rfl rfl rfl rfl ?_|refine Ops.addI rfl rfl rfl rfl (by omega) (by omega) rfl ?_|refine Ops.bin rfl rfl rfl rfl rfl ?_|refine Ops.bld rfl rfl rfl rfl ?_|refine Ops.bs1 rfl rfl rfl rfl rfl rfl rfl (noPd rfl) (fun b=>?_)|refine Cd.skip (Cd.next ?_)|refine Cd.condF rfl zp0 ?_)
 refine Ops.app1 (rows:=rows.map Rw.row) hO (by simp;omega) (by simp;omega) rfl rfl rfl rfl (by rfl) (by rfl) rfl (noPd rfl) rfl (fun v G' hG'=>?_)
 have hG2:OwnQ v (rows ++ [⟨(rows.length:Int) + 1,1,0,0,0,0,0,0⟩]) G':=by
  unfold OwnQ
  rw [List.map_append]
  exact hG'
 obtain ⟨a1,c1,rfl⟩:=hG2.form
 refine zg4 ?_
 exact Cd.ret (ret2 (A':=QuB qb att (.slice a1 (rows ++ [(⟨(rows.length:Int) + 1,1,0,0,0,0,0,0⟩:Rw)]).length c1) :: G') rfl (Res.tmp rfl) (Res.tmp rfl) (fun _ h=>h.split) ⟨rfl,_,G',rfl,hG2⟩)
end Go.Proofs.YtaecdnfkcebbeaaGreat
