import Derived.Test.YtaecdnfkcebbeaaGreatA01
import Derived.Test.YtaecdnfkcebbeaaGreatA42
import Derived.Test.YtaecdnfkcebbeaaGreatA09
set_option linter.unusedVariables false
set_option linter.unusedSimpArgs false
namespace Go.Proofs.YtaecdnfkcebbeaaGreat
open Go Go.Sep Go.Proofs
set_option maxRecDepth 10000
set_option maxHeartbeats 40000000
set_option synthInstance.maxSize 2000
theorem applyG_any {s0 t0:StP}:∀ (l:List Ch) (s:StP) (i j:Nat) (s1:StP),applyG s0 s i l = ((0,0),s1) → applyG t0 s j l = ((0,0),s1)
 | [],s,i,j,s1,h=>by
  rw [applyG] at h ⊢
  exact h
 | c :: l,s,i,j,s1,h=>by
  rw [applyG] at h ⊢
  by_cases hc:checkF c = 0
  ·rw [if_neg (by omega)] at h ⊢
   cases hs:stepF s c with
   | none=>rw [hs] at h;injection h with h;injection h with _ h;cases h
   | some s'=>rw [hs] at h;exact applyG_any l s' (i + 1) (j + 1) s1 h
  ·rw [if_pos hc] at h
   injection h with h;injection h with _ h;cases h
theorem applyF_app {s s1 s2:StP} {l1 l2:List Ch} (h1:applyF s l1 = ((0,0),s1)) (h2:applyF s1 l2 = ((0,0),s2)):applyF s (l1 ++ l2) = ((0,0),s2):=by
 obtain ⟨j,hj⟩:=applyG_app (s0:=s) l1 l2 s 0 s1 h1
 show applyG s s 0 (l1 ++ l2) = _
 rw [hj]
 exact applyG_any l2 s1 0 j s2 h2
def LScr (B:Base) (a:Option Addr) (len:Nat) (ops:List LOp):Prop:=ops.length = len ∧ ∀ (i:Nat) (o:LOp),ops[i]? = some o → o.Ok ∧ ∃ b off,a = some ⟨b,off,none⟩ ∧ ∀ (A:List Blk) (j:Nat) (u:Value),o.row[j]? = some u → Rd B A b (off + i * 18 + j) u
theorem sta_new (sb qb:Nat) (n:Int):StA sb ⟨n,[],0,[],[]⟩ [StB sb qb 0 (.slice none 0 0) (.slice none 0 0),QuB qb n (.slice none 0 0)]:=⟨qb,.slice none 0 0,[],.slice none 0 0,[],.slice none 0 0,[],[],rfl,Own.none,Own.none,Own.none,fun x hx=>(by cases hx),rfl⟩
structure TlS where
 i:Nat
 o:Co
 s:StP
 A:List Blk
 SD:List Blk
structure TlI (c:Cf) (len0 xb db sb len:Nat) (t:TlS):Prop where
 i:t.i ≤ len
 o:CoOk c len0 t.i t.o
 a:CoP xb db c t.i t.o t.A
 s:StA sb t.s t.SD
 k:StOk t.s
 e:applyF t.s t.o.tl = ((0,0),t.o.q.st)
theorem apply_told (B0:Base) (sb:Nat) (s:StP) (SD:List Blk) (hS:StA sb s SD) (ok:StOk s) (tl:List Ch) (htl:tl.length ≤ 100000000) (hx:∀ ch ∈ tl,ch.txs.length ≤ 2000000 ∧ 0 ≤ ch.rbits ∧ ch.rbits < 18446744073709551616) (s1:StP) (he:applyF s tl = ((0,0),s1)) (v:Value) (TG PX:List Blk) (hT:TellR tl v TG PX) :
  ConB Tryz.prog B0 9 #[ptr sb,v] (SD ++ (TG ++ PX)) fun r A=>r = .tuple #[.int .i64 0,.int .i64 0] ∧ ∃ SD1,StA sb s1 SD1 ∧ A = SD1 ++ (TG ++ PX):=by
 obtain ⟨a,tl1,rfl,h1,h2⟩:=hT.cin hx
 have hl:tl1.length = tl.length:=by rw [← h1,List.length_map]
 have hg:=ConB.lend (P:=Tryz.prog) (B1:=B0) (G:=TG ++ PX) (A1:=SD) fun B1 e hG=>apply_spec B1 sb s SD hS ok a tl1.length tl1 (h2 B1 hG) (by omega) (fun g hg hck=>step_all B1 g.c ⟨(hx g.c (by rw [← h1];exact List.mem_map.2 ⟨g,hg,rfl⟩)).2.1,(hx g.c (by rw [← h1];exact List.mem_map.2 ⟨g,hg,rfl⟩)).2.2⟩ hck)
 refine hg.mono fun r A hR=>?_
 obtain ⟨A2,⟨rfl,hA⟩,rfl⟩:=hR
 rw [h1,he] at hA ⊢
 exact ⟨rfl,A2,hA,rfl⟩
theorem tells_no (B0:Base) (c:Cf) (hc:¬ CfOk c) (sa:Option Addr) (len cap:Nat):ConB Tryz.prog B0 3 #[.agg c.row.toArray,.slice sa len cap] [] fun v A=>v = .bool true ∧ A = []:=by
 refine ConB.intro (vs:=[_,_]) Tryz.func3 rfl Tryz.ntmps3 rfl (fun B hB=>?_)
 repeat' (first|refine Cd.seq ?_|refine Cd.reg ?_|refine Ops.asg rfl rfl rfl rfl ?_|refine Ops.ldN rfl rfl rfl rfl ?_|refine Ops.box rfl rfl rfl rfl (noPd rfl) (fun b=>?_))
 refine Ops.call (begun_no c hc) rfl (noPd rfl) rfl rfl rfl (fun v A' hR=>?_)
 obtain ⟨rfl,rfl⟩:=hR
 refine zg19 ?_
 refine Ops.call (rcheck18_spec c) rfl (noPd rfl) rfl rfl rfl (fun v A' hR=>?_)
 obtain ⟨rfl,rfl⟩:=hR
 rw [show checkC c = 180 from if_neg hc]
 refine zg8 ?_
 refine Ops.callB (fixed_spec B0) hB rfl (noPd rfl) rfl rfl rfl (fun v A' hR=>?_)
 obtain ⟨rfl,rfl⟩:=hR
 refine zg5 ?_
 exact ze8
theorem tells_yes (B0:Base) (c:Cf) (hc:CfOk c) (sa:Option Addr) (len cap:Nat) (ops:List LOp) (hs:LScr B0 sa len ops) (hlen:len ≤ 1048576):ConB Tryz.prog B0 3 #[.agg c.row.toArray,.slice sa len cap] [] fun v A=>v = .bool true ∧ A = []:=by
 obtain ⟨q1,q2,q3,q4⟩:=lenC_room hc
 obtain ⟨_,_,_,⟨a1,a2⟩,_⟩:=id hc
 obtain ⟨hol,hops⟩:=hs
 refine ConB.intro (vs:=[_,_]) Tryz.func3 rfl Tryz.ntmps3 rfl (fun B hB=>?_)
 repeat' (first|refine Cd.seq ?_|refine Cd.reg ?_|refine Ops.asg rfl rfl rfl rfl ?_|refine Ops.ldN rfl rfl rfl rfl ?_|refine Ops.box rfl rfl rfl rfl (noPd rfl) (fun b=>?_))
 rename Nat=>cb
 refine Ops.callB (begun_yes B0 c hc) hB rfl (noPd rfl) rfl rfl rfl (fun v A' hR=>?_)
 obtain ⟨db,xb,rfl,hP⟩:=hR
 rename List Blk=>A0
 refine zg7 ?_
 refine Ops.call (snew_yes c.attempts a1 a2) rfl (noPd rfl) rfl rfl rfl (fun v A' hR=>?_)
 obtain ⟨sb,qb,rfl,e⟩:=hR
 have hS0:StA sb ⟨c.attempts,[],0,[],[]⟩ A':=by
  subst e
  exact sta_new sb qb c.attempts
 clear e
 rename List Blk=>SD0
 refine zg19 ?_
 refine Cd.loopK (TlI c (lenC c) xb db sb len) (fun t=>[(1,.slice sa len cap),(2,ptr cb),(6,ptr xb),(7,ptr sb),(9,.int .i64 t.i)]) (fun t=>t.A ++ t.SD) (fun t=>len - t.i) ⟨0,co0 c,⟨c.attempts,[],0,[],[]⟩,A0,SD0⟩ ⟨Nat.zero_le _,co0_ok hc,hP,hS0,stOk_new a1 a2,rfl⟩ ⟨rfl,rfl,rfl,rfl,rfl,trivial⟩ (fun w h=>h.split) (fun t ht=>?_)
 clear hP hS0 A0 SD0
 obtain ⟨i,o,s,A,SD⟩:=t
 obtain ⟨hi,hok,hA,hS,hsk,hap⟩:=ht
 dsimp only at hi hok hA hS hsk hap ⊢
 by_cases hil:i < len
 ·have hil':(i:Int) < len:=by omega
  obtain ⟨p,hp⟩:∃ p,ops[i]? = some p:=⟨_,List.getElem?_eq_getElem (by omega)⟩
  obtain ⟨hpo,b,off,rfl,hrd⟩:=hops i p hp
  have hrw:∀ A j u,p.row[j]? = some u → Rd B.plain A b (off + (i:Int).toNat * 18 + j) u:=fun A j u hu=>by rw [Int.toNat_natCast];exact (hrd A j u hu).ext hB
  refine zg24 ?_
  refine Ops.ldRN (r:=p.row) rfl rfl rfl rfl (hrw _) rfl ?_
  refine Ops.callB (does_spec B0 xb db c hc (lenC c) i q1 (by omega) o hok A hA p hpo) hB rfl (noPd rfl) rfl rfl rfl (fun v A' hR=>?_)
  obtain ⟨⟨bb,rfl⟩,o1,A1,J,⟨hok1,cs,htl,hcs⟩,hA1,rfl⟩:=hR
  have hap1:applyF s o1.tl = ((0,0),o1.q.st):=by rw [htl];exact applyF_app hap hcs
  refine zg0 ?_
  refine Ops.remI rfl rfl rfl rfl (by decide) rfl ?_
  by_cases h3:((i:Nat):Int).tmod 3 = 0
  ·refine zg14 ?_
   refine Ops.callB (co_told B0 xb db c (lenC c) (i + 1) (by omega) o1 hok1 A1 hA1) hB rfl (noPd rfl) rfl rfl rfl (fun v A' hR=>?_)
   obtain ⟨A2,TG1,PX,rfl,hA2,hT⟩:=hR
   obtain ⟨ta,_,rfl,_⟩:=id hT
   refine Ops.callB (apply_told B0 sb s SD hS hsk o1.tl (by have:=hok1.tn;omega) hok1.tx o1.q.st hap1 _ TG1 PX hT) hB rfl (noPd rfl) rfl rfl rfl (fun v A' hR=>?_)
   obtain ⟨rfl,SD1,hS1,rfl⟩:=hR
   refine zg5 ?_
   refine Ops.callB (view_own B0 sb o1.q.st SD1 hS1 hok1.cq.ok) hB rfl (noPd rfl) rfl rfl rfl (fun v A' hR=>?_)
   obtain ⟨V1,hV1,rfl⟩:=hR
   obtain ⟨va1,_,_,rfl,_⟩:=id hV1
   refine zg0 ?_
   refine Ops.callB (co_view_ B0 xb db c (lenC c) (i + 1) { o1 with tl:=[] } hok1.told A2 hA2) hB rfl (noPd rfl) rfl rfl rfl (fun v A' hR=>?_)
   obtain ⟨V2,A3,rfl,hV2,hA3⟩:=hR
   obtain ⟨va2,_,_,rfl,_⟩:=id hV2
   skip
   refine Ops.callB (same_spec B0 _ _ o1.q.st hok1.cq.ok V1 V2 hV1 hV2) hB rfl (noPd rfl) rfl rfl rfl (fun v A' hR=>?_)
   obtain ⟨rfl,rfl⟩:=hR
   refine zg26 ?_
   refine Ops.callB (co_told B0 xb db c (lenC c) (i + 1) (by omega) { o1 with tl:=[] } hok1.told A3 hA3) hB rfl (noPd rfl) rfl rfl rfl (fun v A' hR=>?_)
   obtain ⟨A4,TG2,PX2,rfl,hA4,hT2⟩:=hR
   obtain ⟨ta2,_,rfl,_⟩:=hT2
   refine zg27 ?_
   exact Ops.nilN (round_end (⟨i + 1,{ o1 with tl:=[] },o1.q.st,A4,SD1⟩:TlS) ⟨by show i + 1 ≤ len;omega,hok1.told,hA4,hS1,hok1.cq.ok,rfl⟩ (by show len - (i + 1) < len - i;omega) ⟨rfl,rfl,rfl,rfl,rfl,trivial⟩ (fun w h=>h.split))
  ·refine zg27 ?_
   exact Ops.nilN (round_end (⟨i + 1,o1,s,A1,SD⟩:TlS) ⟨by show i + 1 ≤ len;omega,hok1,hA1,hS,hsk,hap1⟩ (by show len - (i + 1) < len - i;omega) ⟨rfl,rfl,rfl,rfl,rfl,trivial⟩ (fun w h=>h.split))
 ·have hil':¬ (i:Int) < len:=by omega
  refine zg12 ?_
  refine Ops.callB (co_told B0 xb db c (lenC c) i (by omega) o hok A hA) hB rfl (noPd rfl) rfl rfl rfl (fun v A' hR=>?_)
  obtain ⟨A2,TG1,PX,rfl,hA2,hT⟩:=hR
  obtain ⟨ta,_,rfl,_⟩:=id hT
  refine Ops.callB (apply_told B0 sb s SD hS hsk o.tl (by have:=hok.tn;omega) hok.tx o.q.st hap _ TG1 PX hT) hB rfl (noPd rfl) rfl rfl rfl (fun v A' hR=>?_)
  obtain ⟨rfl,SD1,hS1,rfl⟩:=hR
  refine zg5 ?_
  refine Ops.callB (view_own B0 sb o.q.st SD1 hS1 hok.cq.ok) hB rfl (noPd rfl) rfl rfl rfl (fun v A' hR=>?_)
  obtain ⟨V1,hV1,rfl⟩:=hR
  obtain ⟨va1,_,_,rfl,_⟩:=id hV1
  refine zg0 ?_
  refine Ops.callB (co_view_ B0 xb db c (lenC c) i { o with tl:=[] } hok.told A2 hA2) hB rfl (noPd rfl) rfl rfl rfl (fun v A' hR=>?_)
  obtain ⟨V2,A3,rfl,hV2,hA3⟩:=hR
  obtain ⟨va2,_,_,rfl,_⟩:=id hV2
  skip
  refine Ops.callB (same_spec B0 _ _ o.q.st hok.cq.ok V1 V2 hV1 hV2) hB rfl (noPd rfl) rfl rfl rfl (fun v A' hR=>?_)
  obtain ⟨rfl,rfl⟩:=hR
  refine zg8 ?_
  refine Ops.callB (fixed_spec B0) hB rfl (noPd rfl) rfl rfl rfl (fun v A' hR=>?_)
  obtain ⟨rfl,rfl⟩:=hR
  refine zg5 ?_
  exact ze8
theorem tells_spec (B0:Base) (c:Cf) (sa:Option Addr) (len cap:Nat) (ops:List LOp) (hs:LScr B0 sa len ops) (hlen:len ≤ 1048576):ConB Tryz.prog B0 3 #[.agg c.row.toArray,.slice sa len cap] [] fun v A=>v = .bool true ∧ A = []:=by
 by_cases hc:CfOk c
 ·exact tells_yes B0 c hc sa len cap ops hs hlen
 ·exact tells_no B0 c hc sa len cap
end Go.Proofs.YtaecdnfkcebbeaaGreat
