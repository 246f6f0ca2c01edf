import Derived.Test.YtaecdnfkcebbeaaGreatA20
import Derived.Test.YtaecdnfkcebbeaaGreatA01
set_option linter.unusedVariables false
set_option linter.unusedSimpArgs false
namespace Go.Sep
open Go
def sit (s:ByteArray) (pos:Nat):Obj:=.stringIter s pos
section
variable {P:Program} {N:Fi} {B:Base} {Q:Exit → Act → World → Prop} {T:Tm} {A:List Blk} {ops:Array Oper} {l:List Oper}
variable {d:Nat} {ty:TypeId} {pos:String} {af:Array Edge} {m:Md} {gd:Option (Nat × Bool)}
theorem Ops.rngS {t:TypeId} {x:Operand} {s:ByteArray} (hm:m.eff = true) (hg:gst ops T gd = some true) [ht:TyD P t .string] (hx:ev T x = some (.string s)) (hd:Nat.blt d N.n = true)
  (hp:Pd P N B ops m T (some d) (NewR (fun r=>.pointer (some ⟨r,0,none⟩)) (sit s 0) A)) (k:∀ r,Ops P N B Q ops m.tl l ((d,.pointer (some ⟨r,0,none⟩)) :: T) ((r,sit s 0) :: A)) :
  Ops P N B Q ops m (⟨some d,.range t x,ty,pos,af,gd⟩ :: l) T A :=
 Ops.new (v:=fun r=>.pointer (some ⟨r,0,none⟩)) hm hp hg hd (fun a w hF hS=>by
  simp [execOp,hF.eval hx,Instr.range,ht.run_und,sit]) k
theorem Ops.nxS {x:Operand} {r p:Nat} {s:ByteArray} (c wd:Nat) {A':List Blk} (hm:m.eff = true) (hg:gst ops T gd = some true) (hx:ev T x = some (.pointer (some ⟨r,0,none⟩))) [hr:Has A r (sit s p)] (hlt:p < s.size) (hdec:Utf8.decode s p = (c,wd)) [hu:Upd A r (sit s p) (sit s (p + wd)) A'] (hd:Nat.blt d N.n = true)
  (hp:Pd P N B ops m T (some d) (fun v X=>v = .tuple #[.bool true,.int .i64 p,.int .i32 c] ∧ X = A')) (k:Ops P N B Q ops m.tl l ((d,.tuple #[.bool true,.int .i64 p,.int .i32 c]) :: T) A') :
  Ops P N B Q ops m (⟨some d,.next x true,ty,pos,af,gd⟩ :: l) T A :=
 Ops.effV hm hp hg hd (fun a w hF hS=>by
  have h0:=hS.here _ hr.mem
  simp only [sit] at h0
  have hi:(getObj r).run P w = .ok (.stringIter s p) w:=by simp only [getObj,Sem.run,h0]
  have hset:(setObj r (.stringIter s (p + wd))).run P w = .ok () (w.putObj r (.stringIter s (p + wd))):=by simp [setObj,Sem.run,h0,World.putObj]
  obtain ⟨A1,A2,e1,rfl⟩:=hu.put
  have hn:(Instr.next (.pointer (some ⟨r,0,none⟩)) true ty).run P w = .ok (.tuple #[.bool true,.int .i64 p,.int .i32 c]) (w.putObj r (.stringIter s (p + wd))):=by
   simp [Instr.next,hi,hlt,hdec,hset,goInt]
  simp only [execOp,hF.eval hx,Sem.run_bind,hn,Result.andThen_ok,Sem.run_pure,effPost]
  refine ⟨_,⟨trivial,rfl⟩,?_⟩
  subst e1
  have hrlt:=lt_of_get h0
  refine hS.put rfl rfl rfl ?_ ?_
  ·simp [World.putObj,sit,hrlt]
  ·intro n hne
   simp [World.putObj,Array.getElem?_setIfInBounds_ne (Ne.symm hne)]) fun v X ⟨h1,h2⟩=>by rw [h1,h2];exact k
theorem Ops.nxE {x:Operand} {r p:Nat} {s:ByteArray} (hm:m.eff = true) (hg:gst ops T gd = some true) (hx:ev T x = some (.pointer (some ⟨r,0,none⟩))) [hr:Has A r (sit s p)] (hlt:¬ p < s.size) (hd:Nat.blt d N.n = true)
  (hp:Pd P N B ops m T (some d) (fun v X=>v = .tuple #[.bool false] ∧ X = A)) (k:Ops P N B Q ops m.tl l ((d,.tuple #[.bool false]) :: T) A) :
  Ops P N B Q ops m (⟨some d,.next x true,ty,pos,af,gd⟩ :: l) T A :=
 Ops.effV hm hp hg hd (fun a w hF hS=>by
  have h0:=hS.here _ hr.mem
  simp only [sit] at h0
  have hi:(getObj r).run P w = .ok (.stringIter s p) w:=by simp only [getObj,Sem.run,h0]
  have hn:(Instr.next (.pointer (some ⟨r,0,none⟩)) true ty).run P w = .ok (.tuple #[.bool false]) w:=by
   simp [Instr.next,hi,hlt]
  simp only [execOp,hF.eval hx,Sem.run_bind,hn,Result.andThen_ok,Sem.run_pure,effPost]
  exact ⟨_,⟨trivial,rfl⟩,hS⟩) fun v X ⟨h1,h2⟩=>by rw [h1,h2];exact k
end
end Go.Sep
namespace Go.Proofs.YtaecdnfkcebbeaaGreat
open Go Go.Sep Go.Proofs
set_option maxRecDepth 10000
set_option maxHeartbeats 40000000
set_option synthInstance.maxSize 2000
def biC (n i:Nat):List Value:=((hiL n 8).take i).map (Value.int .u8) ++ List.replicate (8 - i) (.int .u8 0)
theorem biC_len {n i:Nat} (h:i ≤ 8):(biC n i).length = 8:=by simp [biC,hiL_len];omega
theorem biC_set {n i:Nat} (h:i < 8):(biC n i).set i (.int .u8 ((n / 256 ^ (7 - i) % 256:Nat):Int)) = biC n (i + 1):=by
 have hl:((hiL n 8).take i).length = i:=by rw [List.length_take,hiL_len];omega
 have hat:(hiL n 8)[i]? = some ((n / 256 ^ (7 - i) % 256:Nat):Int):=by
  have h1:=hiL_at (n:=n) (k:=8) (i:=i) h
  rw [List.getD_eq_getElem?_getD] at h1
  have h2:i < (hiL n 8).length:=by rw [hiL_len];exact h
  rw [List.getElem?_eq_getElem h2] at h1 ⊢
  exact congrArg some h1
 unfold biC
 rw [List.set_append_right _ _ (by rw [List.length_map,hl];omega),List.length_map,hl,Nat.sub_self,show 8 - i = (8 - (i + 1)) + 1 from by omega,List.replicate_succ,List.set_cons_zero,List.take_add_one,hat]
 simp
theorem bits_spec (n:Nat) (hn:n < 18446744073709551616):Con Tryz.prog 128 #[.int .u64 n] [] fun v A=>v = .string (hiB n 8) ∧ A = []:=by
 refine Con.intro (vs:=[_]) Tryz.func128 rfl Tryz.ntmps128 rfl (fun B=>?_)
 repeat' (first|refine Cd.seq ?_|refine Cd.reg ?_|refine Ops.nil ?_|refine Ops.mv rfl rfl rfl rfl ?_|refine Ops.asg rfl rfl rfl rfl ?_|refine Ops.alloc rfl rfl rfl (noPd rfl) (fun b=>?_)|refine Cd.block ?_)
 rename Nat=>g
 refine Cd.loopK (σ:=Nat) (fun i=>i ≤ 8) (fun i=>[(0,.int .u64 n),(3,ptr g),(5,.int .i64 i)]) (fun i=>[(g,cl (biC n i) 293)]) (fun i=>8 - i) 0 (Nat.zero_le _) ⟨rfl,rfl,rfl,trivial⟩ (fun w h=>h) (fun i hi=>?_)
 have hlen:=biC_len (n:=n) hi
 by_cases hlt:i < 8
 ·have hlt':(i:Int) < 8:=by omega
  refine zg33 ?_
  refine Ops.shrI rfl rfl rfl rfl (by omega) rfl ?_
  refine Ops.cvI rfl rfl rfl rfl ?_
  rw [show (56:Int) - 8 * (i:Int) = 8 * ((7 - i:Nat):Int) from by omega,show IntKind.bits .u64 = IntKind.bits .i64 from rfl,shr8 n (7 - i) (by omega)]
  refine zg28 ?_
  refine Ops.st1 (L':=biC n (i + 1)) rfl rfl rfl rfl rfl (hs:=⟨by rw [Int.toNat_natCast,Nat.zero_add,Nat.mul_one,biC_set hlt],by rw [Int.toNat_natCast,Nat.zero_add,Nat.mul_one];omega⟩) (noPd rfl) ?_
  refine zg18 ?_
  exact Ops.nilN (round_end (i + 1:Nat) (by show i + 1 ≤ 8;omega) (by show 8 - (i + 1) < 8 - i;omega) ⟨rfl,rfl,rfl,trivial⟩ (fun w h=>h.split))
 ·have hlt':¬ (i:Int) < 8:=by omega
  have he:i = 8:=by omega
  subst he
  refine zg13 ?_
  refine Ops.slAr rfl rfl rfl rfl ?_
  refine Ops.cvSp (bs:=hiB n 8) rfl rfl rfl (hiB_size n 8) (fun j u hu=>by rw [bv_hi] at hu;rw [Nat.zero_add,biC,List.take_of_length_le (by rw [hiL_len];omega)];simpa using hu) rfl ?_
  refine zg1 ?_
  exact ze8
theorem recnum_spec (n:Int) (h0:0 ≤ n) (h1:n < 9223372036854775808):Con Tryz.prog 171 #[.int .i64 n] [] fun v A=>v = .string (numB n.toNat) ∧ A = []:=by
 obtain ⟨m,rfl⟩:∃ m:Nat,n = m:=⟨n.toNat,by omega⟩
 refine Con.intro (vs:=[_]) Tryz.func171 rfl Tryz.ntmps171 rfl (fun B=>?_)
 refine zg0 ?_
 refine Ops.cvI rfl rfl rfl rfl ?_
 rw [wrap_u64 (by omega),Int.toNat_natCast]
 refine Ops.call (num_spec m (by omega)) rfl (noPd rfl) rfl rfl rfl (fun v A' hR=>?_)
 obtain ⟨rfl,rfl⟩:=hR
 refine zg1 ?_
 exact ze8
def textsN (l:List ByteArray):Nat → ByteArray
 | 0=>.empty
 | i + 1=>textsN l i ++ frameF (l.getD i .empty)
def fieldB (c:Ch) (l:Nat):ByteArray :=
 if l = 110 then numB c.n.toNat else if l = 106 then numB c.job.toNat else if l = 112 then frameF c.prog else if l = 98 then numB c.badge.toNat
 else if l = 115 then numB c.slot.toNat ++ numB c.life.toNat else if l = 116 then numB c.txs.length ++ textsN c.txs c.txs.length else numB c.rcode.toNat ++ hiB c.rbits.toNat 8
def putN (c:Ch):Nat → ByteArray
 | 0=>numB c.kind.toNat
 | i + 1=>putN c i ++ fieldB c (bat (hasS c.kind) i)
def putB (c:Ch):ByteArray:=putN c (hasS c.kind).size
structure ChOk (c:Ch):Prop where
 k:0 ≤ c.kind ∧ c.kind < 9223372036854775808
 n:0 ≤ c.n ∧ c.n < 9223372036854775808
 j:0 ≤ c.job ∧ c.job < 9223372036854775808
 b:0 ≤ c.badge ∧ c.badge < 9223372036854775808
 s:0 ≤ c.slot ∧ c.slot < 9223372036854775808
 l:0 ≤ c.life ∧ c.life < 9223372036854775808
 r:0 ≤ c.rcode ∧ c.rcode < 9223372036854775808
 x:0 ≤ c.rbits ∧ c.rbits < 18446744073709551616
 p:c.prog.size ≤ 10000
 t:c.txs.length ≤ 100
 u:∀ t ∈ c.txs,t.size ≤ 1000
theorem dec_has (kind:Int) (i:Nat) (h:i < (hasS kind).size):Utf8.decode (hasS kind) i = (bat (hasS kind) i,1) ∧ bat (hasS kind) i ∈ [110,106,112,98,115,116,114]:=by
 unfold hasS at h ⊢
 by_cases h0:kind = 1
 ·rw [if_pos h0] at h ⊢
  exact (by decide:∀ i,i < (⟨#[110]⟩:ByteArray).size → Utf8.decode ⟨#[110]⟩ i = (bat ⟨#[110]⟩ i,1) ∧ bat ⟨#[110]⟩ i ∈ [110,106,112,98,115,116,114]) i h
 rw [if_neg h0] at h ⊢
 by_cases h1:kind = 2
 ·rw [if_pos h1] at h ⊢
  exact (by decide:∀ i,i < (⟨#[106,112]⟩:ByteArray).size → Utf8.decode ⟨#[106,112]⟩ i = (bat ⟨#[106,112]⟩ i,1) ∧ bat ⟨#[106,112]⟩ i ∈ [110,106,112,98,115,116,114]) i h
 rw [if_neg h1] at h ⊢
 by_cases h2:kind = 3
 ·rw [if_pos h2] at h ⊢
  exact (by decide:∀ i,i < (⟨#[106,98,115]⟩:ByteArray).size → Utf8.decode ⟨#[106,98,115]⟩ i = (bat ⟨#[106,98,115]⟩ i,1) ∧ bat ⟨#[106,98,115]⟩ i ∈ [110,106,112,98,115,116,114]) i h
 rw [if_neg h2] at h ⊢
 by_cases h3:kind = 4
 ·rw [if_pos h3] at h ⊢
  exact (by decide:∀ i,i < (⟨#[98,116]⟩:ByteArray).size → Utf8.decode ⟨#[98,116]⟩ i = (bat ⟨#[98,116]⟩ i,1) ∧ bat ⟨#[98,116]⟩ i ∈ [110,106,112,98,115,116,114]) i h
 rw [if_neg h3] at h ⊢
 by_cases h4:kind = 5
 ·rw [if_pos h4] at h ⊢
  exact (by decide:∀ i,i < (⟨#[98]⟩:ByteArray).size → Utf8.decode ⟨#[98]⟩ i = (bat ⟨#[98]⟩ i,1) ∧ bat ⟨#[98]⟩ i ∈ [110,106,112,98,115,116,114]) i h
 rw [if_neg h4] at h ⊢
 by_cases h5:kind = 6
 ·rw [if_pos h5] at h ⊢
  exact (by decide:∀ i,i < (⟨#[98,114]⟩:ByteArray).size → Utf8.decode ⟨#[98,114]⟩ i = (bat ⟨#[98,114]⟩ i,1) ∧ bat ⟨#[98,114]⟩ i ∈ [110,106,112,98,115,116,114]) i h
 rw [if_neg h5] at h ⊢
 exact absurd h (Nat.not_lt_zero _)
theorem textsN_size (c:Ch) (ok:ChOk c):∀ i,i ≤ c.txs.length → (textsN c.txs i).size ≤ i * 1010:=by
 intro i
 induction i with
 | zero=>intro _;simp [textsN]
 | succ i ih =>
  intro hi
  have h1:=ih (by omega)
  have h2:(frameF (c.txs.getD i .empty)).size ≤ 1010:=by
   rw [List.getD_eq_getElem?_getD,List.getElem?_eq_getElem (by omega)]
   have:=ok.u _ (List.getElem_mem (h:=(by omega:i < c.txs.length)))
   have:=frameF_size (c.txs[i]'(by omega)) (by omega)
   simp only [Option.getD_some]
   omega
  rw [textsN,ByteArray.size_append]
  omega
theorem fieldB_size (c:Ch) (ok:ChOk c) (l:Nat):(fieldB c l).size ≤ 200000:=by
 have hn:∀ n:Int,0 ≤ n → n < 9223372036854775808 → (numB n.toNat).size ≤ 10:=fun n h0 h1=>numB_size (by omega)
 have ht:=textsN_size c ok
 have h1:=hn _ ok.n.1 ok.n.2
 have h2:=hn _ ok.j.1 ok.j.2
 have h3:=hn _ ok.b.1 ok.b.2
 have h4:=hn _ ok.s.1 ok.s.2
 have h5:=hn _ ok.l.1 ok.l.2
 have h6:=hn _ ok.r.1 ok.r.2
 have h7:=frameF_size c.prog (by have:=ok.p;omega)
 have h8:=ht _ (Nat.le_refl _)
 have h9:=ok.t
 have h10:=ok.p
 have h11:(numB c.txs.length).size ≤ 10:=numB_size (by omega)
 unfold fieldB
 (repeat' split)
 all_goals (try simp only [ByteArray.size_append,hiB_size])
 all_goals omega
theorem putN_size (c:Ch) (ok:ChOk c):∀ i,(putN c i).size ≤ 10 + i * 200000
 | 0=>by
  have:=numB_size (n:=c.kind.toNat) (by have:=ok.k;omega)
  rw [putN];omega
 | i + 1=>by
  have h1:=putN_size c ok i
  have h2:=fieldB_size c ok (bat (hasS c.kind) i)
  rw [putN,ByteArray.size_append];omega
theorem hasS_size (k:Int):(hasS k).size ≤ 3:=by
 unfold hasS
 (repeat' split) <;> decide
structure PtS where
 i:Nat
 E:List Blk
theorem inTx {N:Fi} {B:Base} {T:Tm} {A:List Blk} {Q:Exit → Act → World → Prop} {f:Act → World → Prop} {id:Nat} (h:∀ a w,Fr N T a → Sat B A w → Q (.exit id) a w):∀ a w,Fr N T a → Sat B A w → Exit.then f Q (.exit id) a w:=h
theorem roundX {σ:Type} {N:Fi} {B:Base} {T:Tm} {A:List Blk} {I:σ → Prop} {Tf:σ → Tm} {Af:σ → List Blk} {μ:σ → Nat} {n:Nat} {Q:Exit → Act → World → Prop} {id:Nat} (h:∀ a w,Fr N T a → Sat B A w → Q (.exit id) a w):∀ a w,Fr N T a → Sat B A w → Round N B I Tf Af μ n Q (.exit id) a w:=h
theorem inBs {N:Fi} {B:Base} {T:Tm} {A:List Blk} {Q:Exit → Act → World → Prop} {id:Nat} (h:∀ a w,Fr N T a → Sat B A w → Q .normal a w):∀ a w,Fr N T a → Sat B A w → Exit.inBlock id Q (.exit id) a w:=fun a w hF hS=>by
 simp only [Exit.inBlock,if_true]
 exact h a w hF hS
theorem put_spec (B0:Base) (c:Ch) (a:Option Addr) (k:Nat) (hS:SIn B0 a c.txs) (ok:ChOk c):ConB Tryz.prog B0 172 #[.agg (c.row a k).toArray] [] fun v A=>v = .string (putB c) ∧ A = []:=by
 refine ConB.intro (vs:=[_]) Tryz.func172 rfl Tryz.ntmps172 rfl (fun B hB=>?_)
 have hsz3:=hasS_size c.kind
 repeat' (first|refine Cd.seq ?_|refine Cd.reg ?_|refine Ops.asg rfl rfl rfl rfl ?_|refine Ops.fa0 rfl rfl rfl rfl ?_|refine Ops.ld1 rfl rfl rfl rfl rfl ?_|refine Ops.box rfl rfl rfl rfl (noPd rfl) (fun b=>?_)|refine Ops.alloc rfl rfl rfl (noPd rfl) (fun b=>?_))
 rename_i cb
 rename Nat=>bb
 refine Ops.call (recnum_spec c.kind ok.k.1 ok.k.2) rfl (noPd rfl) rfl rfl rfl (fun v A' hR=>?_)
 obtain ⟨rfl,rfl⟩:=hR
 skip
 refine Ops.call (bwrite_spec bb .empty (numB c.kind.toNat) [BuB bb none (.slice none 0 0)] ⟨none,_,[],rfl,.inl rfl,BG.none⟩ (by have:=putN_size c ok 0;rw [putN] at this;simp;omega)) rfl (noPd rfl) rfl rfl rfl (fun v A' hR=>?_)
 rw [ByteArray.empty_append] at hR
 refine zg4 ?_
 refine Ops.call (has_spec c.kind) rfl (noPd rfl) rfl rfl rfl (fun v A2 hR2=>?_)
 obtain ⟨rfl,rfl⟩:=hR2
 skip
 refine Ops.rngS rfl rfl rfl rfl (noPd rfl) (fun r=>?_)
 refine zg3 ?_
 refine Cd.loopK (σ:=PtS) (fun t=>t.i ≤ (hasS c.kind).size ∧ BuA bb (putN c t.i) t.E) (fun t=>[(1,ptr cb),(3,ptr bb),(15,ptr r)]) (fun t=>(r,sit (hasS c.kind) t.i) :: (cb,cl (c.row a k) 69) :: t.E) (fun t=>(hasS c.kind).size - t.i) ⟨0,A'⟩ ⟨Nat.zero_le _,hR⟩ ⟨rfl,rfl,rfl,trivial⟩ (fun w h=>h.split) (fun t ht=>?_)
 obtain ⟨i,E⟩:=t
 obtain ⟨hi,hE⟩:=ht
 dsimp only at hi hE ⊢
 have hpz:=putN_size c ok i
 have hfz:=fieldB_size c ok (bat (hasS c.kind) i)
 by_cases hlt:i < (hasS c.kind).size
 ·obtain ⟨hdec,hmem⟩:=dec_has c.kind i hlt
  refine zg0 ?_
  refine Ops.nxS _ _ rfl rfl rfl hlt hdec rfl (noPd rfl) ?_
  simp only [List.mem_cons,List.not_mem_nil,or_false] at hmem
  have hfi:putN c (i + 1) = putN c i ++ fieldB c (bat (hasS c.kind) i):=rfl
  generalize bat (hasS c.kind) i = bl at hmem hfz hfi ⊢
  rcases hmem with hb|hb|hb|hb|hb|hb|hb
  ·subst hb
   have hfl:fieldB c 110 = numB c.n.toNat:=rfl
   refine zg7 ?_
   refine Ops.call (recnum_spec c.n ok.n.1 ok.n.2) rfl zp1 rfl rfl rfl (fun v A' hR=>?_)
   obtain ⟨rfl,rfl⟩:=hR
   skip
   refine Ops.call (bwrite_spec bb (putN c i) (numB c.n.toNat) _ hE (by rw [hfl] at hfz;omega)) rfl (noPd rfl) rfl rfl rfl (fun v A' hR=>?_)
   skip
   exact ze34
  ·subst hb
   have hfl:fieldB c 106 = numB c.job.toNat:=rfl
   refine zg7 ?_
   refine Ops.call (recnum_spec c.job ok.j.1 ok.j.2) rfl zp1 rfl rfl rfl (fun v A' hR=>?_)
   obtain ⟨rfl,rfl⟩:=hR
   skip
   refine Ops.call (bwrite_spec bb (putN c i) (numB c.job.toNat) _ hE (by rw [hfl] at hfz;omega)) rfl (noPd rfl) rfl rfl rfl (fun v A' hR=>?_)
   skip
   exact ze34
  ·subst hb
   have hfl:fieldB c 112 = frameF c.prog:=rfl
   refine zg7 ?_
   refine Ops.call (text_spec c.prog (by have:=ok.p;omega)) rfl (noPd rfl) rfl rfl rfl (fun v A' hR=>?_)
   obtain ⟨rfl,rfl⟩:=hR
   rw [show numB c.prog.size ++ c.prog = frameF c.prog from rfl]
   skip
   refine Ops.call (bwrite_spec bb (putN c i) (frameF c.prog) _ hE (by rw [hfl] at hfz;omega)) rfl (noPd rfl) rfl rfl rfl (fun v A' hR=>?_)
   skip
   exact ze34
  ·subst hb
   have hfl:fieldB c 98 = numB c.badge.toNat:=rfl
   refine zg7 ?_
   refine Ops.call (recnum_spec c.badge ok.b.1 ok.b.2) rfl zp1 rfl rfl rfl (fun v A' hR=>?_)
   obtain ⟨rfl,rfl⟩:=hR
   skip
   refine Ops.call (bwrite_spec bb (putN c i) (numB c.badge.toNat) _ hE (by rw [hfl] at hfz;omega)) rfl (noPd rfl) rfl rfl rfl (fun v A' hR=>?_)
   skip
   exact ze34
  ·subst hb
   have hfl:fieldB c 115 = numB c.slot.toNat ++ numB c.life.toNat:=rfl
   refine zg19 ?_
   refine Cd.draw [(0,0,[]),(1,1,[]),(3,0,[]),(4,1,[]),(2,2,[4]),(5,2,[]),(6,0,[]),(7,2,[])] (by kernel_rfl) (by kernel_rfl) (by simp only [picked,nth];exact rfl) ?_
   refine zg2 ?_
   refine Ops.call (recnum_spec c.slot ok.s.1 ok.s.2) rfl zp1 rfl rfl rfl (fun v A' hR=>?_)
   obtain ⟨rfl,rfl⟩:=hR
   skip
   refine Ops.call (recnum_spec c.life ok.l.1 ok.l.2) rfl zp1 rfl rfl rfl (fun v A' hR=>?_)
   obtain ⟨rfl,rfl⟩:=hR
   skip
   refine Ops.cat rfl rfl rfl rfl (by rw [hfl,ByteArray.size_append] at hfz;omega) rfl ?_
   skip
   refine Ops.call (bwrite_spec bb (putN c i) (numB c.slot.toNat ++ numB c.life.toNat) _ hE (by rw [hfl] at hfz;omega)) rfl (noPd rfl) rfl rfl rfl (fun v A' hR=>?_)
   skip
   exact ze34
  ·subst hb
   have hfl:fieldB c 116 = numB c.txs.length ++ textsN c.txs c.txs.length:=rfl
   have htl:∀ j,j ≤ c.txs.length → (textsN c.txs j).size ≤ j * 1010:=fun j hj=>textsN_size c ok j hj
   have hnz:(numB c.txs.length).size ≤ 10:=numB_size (by have:=ok.t;omega)
   have hct:=ok.t
   refine zg7 ?_
   refine Ops.call (recnum_spec c.txs.length (by omega) (by omega)) rfl (noPd rfl) rfl rfl rfl (fun v A' hR=>?_)
   obtain ⟨rfl,rfl⟩:=hR
   rw [Int.toNat_natCast]
   skip
   refine Ops.call (bwrite_spec bb (putN c i) (numB c.txs.length) _ hE (by omega)) rfl (noPd rfl) rfl rfl rfl (fun v A' hR=>?_)
   refine zg7 ?_
   refine Cd.loopK (σ:=PtS) (fun t=>t.i ≤ c.txs.length ∧ BuA bb (putN c i ++ numB c.txs.length ++ textsN c.txs t.i) t.E) (fun t=>[(1,ptr cb),(3,ptr bb),(15,ptr r),(72,.slice a c.txs.length k),(73,.int .i64 c.txs.length),(74,.int .i64 t.i)]) (fun t=>(r,sit (hasS c.kind) (i + 1)) :: (cb,cl (c.row a k) 69) :: t.E) (fun t=>c.txs.length - t.i) ⟨0,A'⟩ ⟨Nat.zero_le _,by show BuA bb (_ ++ .empty) _;rw [ByteArray.append_empty];exact hR⟩ ⟨rfl,rfl,rfl,rfl,rfl,rfl,trivial⟩ (fun w h=>h.split) (fun t ht=>?_)
   obtain ⟨j,E2⟩:=t
   obtain ⟨hj,hE2⟩:=ht
   dsimp only at hj hE2 ⊢
   by_cases hjl:j < c.txs.length
   ·have hjl':(j:Int) < c.txs.length:=by omega
    obtain ⟨x,hx⟩:∃ x,c.txs[j]? = some x:=⟨_,List.getElem?_eq_getElem hjl⟩
    have hxs:=ok.u x (List.mem_of_getElem? hx)
    obtain ⟨b,off,hab,hrd⟩:=(hS.ext hB) j x hx
    subst hab
    have hrw:∀ A,Rd B.plain A b (off + (j:Int).toNat * 1) (.string x):=fun A=>by rw [Int.toNat_natCast];exact hrd A
    have htj:=htl j hj
    have htn:textsN c.txs (j + 1) = textsN c.txs j ++ frameF x:=by rw [textsN,List.getD_eq_getElem?_getD,hx];rfl
    have hxz:=frameF_size x (by omega)
    refine zg24 ?_
    refine Ops.ldR rfl rfl rfl (hrw _) rfl ?_
    refine zg0 ?_
    refine Ops.call (text_spec x (by omega)) rfl (noPd rfl) rfl rfl rfl (fun v A' hR=>?_)
    obtain ⟨rfl,rfl⟩:=hR
    rw [show numB x.size ++ x = frameF x from rfl]
    skip
    refine Ops.call (bwrite_spec bb (putN c i ++ numB c.txs.length ++ textsN c.txs j) (frameF x) _ hE2 (by simp only [ByteArray.size_append];omega)) rfl (noPd rfl) rfl rfl rfl (fun v A' hR=>?_)
    refine zg18 ?_
    exact Ops.nilN (round_end (⟨j + 1,_⟩:PtS) ⟨by show j + 1 ≤ _;omega,by show BuA bb (_ ++ textsN c.txs (j + 1)) _;rw [htn,← ByteArray.append_assoc];exact hR⟩ (by show c.txs.length - (j + 1) < c.txs.length - j;omega) ⟨rfl,rfl,rfl,rfl,rfl,rfl,trivial⟩ (fun w h=>h.split))
   ·have hjl':¬ (j:Int) < c.txs.length:=by omega
    have hje:j = c.txs.length:=by omega
    subst hje
    refine zg17 ?_
    exact Cd.exit (inTx (roundX (inBs (inB (inB (round_end (⟨i + 1,_⟩:PtS) ⟨by show i + 1 ≤ _;omega,by show BuA bb (putN c (i + 1)) _;rw [hfi,hfl,← ByteArray.append_assoc];exact hE2⟩ zp12 ⟨rfl,rfl,rfl,trivial⟩ (fun w h=>h.split)))))))
  ·subst hb
   have hfl:fieldB c 114 = numB c.rcode.toNat ++ hiB c.rbits.toNat 8:=rfl
   refine zg19 ?_
   refine Cd.draw [(0,0,[]),(1,0,[]),(2,1,[]),(4,0,[]),(5,0,[]),(6,1,[]),(3,2,[6]),(7,2,[]),(8,0,[]),(9,2,[])] (by kernel_rfl) (by kernel_rfl) (by simp only [picked,nth];exact rfl) ?_
   refine zg2 ?_
   refine Ops.call (recnum_spec c.rcode ok.r.1 ok.r.2) rfl zp1 rfl rfl rfl (fun v A' hR=>?_)
   obtain ⟨rfl,rfl⟩:=hR
   skip
   obtain ⟨xn,hxn⟩:∃ n:Nat,c.rbits = n:=⟨c.rbits.toNat,by have:=ok.x;omega⟩
   rw [hxn,Int.toNat_natCast] at hfl
   rw [hxn]
   refine Ops.call (bits_spec xn (by have:=ok.x;omega)) rfl (noPd rfl) rfl rfl rfl (fun v A' hR=>?_)
   obtain ⟨rfl,rfl⟩:=hR
   skip
   refine Ops.cat rfl rfl rfl rfl (by rw [hfl,ByteArray.size_append] at hfz;omega) rfl ?_
   skip
   refine Ops.call (bwrite_spec bb (putN c i) (numB c.rcode.toNat ++ hiB xn 8) _ hE (by rw [hfl] at hfz;omega)) rfl (noPd rfl) rfl rfl rfl (fun v A' hR=>?_)
   skip
   exact ze34
 ·have he:i = (hasS c.kind).size:=by omega
  refine zg0 ?_
  refine Ops.nxE rfl rfl rfl hlt rfl (noPd rfl) ?_
  refine zg13 ?_
  refine Ops.call (bstring_spec bb (putN c i) _ hE (by omega)) rfl (noPd rfl) rfl rfl rfl (fun v A' hR=>?_)
  obtain ⟨rfl,hD2⟩:=hR
  refine zg1 ?_
  exact ze17
@[reducible] def MgB (mb:Nat) (L:List Value):Blk:=(mb,cl L 42)
@[reducible] def fnV (f:FuncId):Value:=.func (.func f) #[] #[]
theorem sel_fields_1 (mb:Nat):Con Tryz.prog 140 #[ptr mb] [] fun v A=>v = .pointer (some ⟨mb,1,none⟩) ∧ A = []:=by
 refine Con.intro (vs:=[_]) Tryz.func140 rfl Tryz.ntmps140 rfl (fun B=>?_)
 refine zg4 ?_
 exact ze8
theorem sel_fields_2 (mb:Nat):Con Tryz.prog 141 #[ptr mb] [] fun v A=>v = .pointer (some ⟨mb,2,none⟩) ∧ A = []:=by
 refine Con.intro (vs:=[_]) Tryz.func141 rfl Tryz.ntmps141 rfl (fun B=>?_)
 refine zg4 ?_
 exact ze8
theorem sel_fields_3 (mb:Nat):Con Tryz.prog 142 #[ptr mb] [] fun v A=>v = .pointer (some ⟨mb,3,none⟩) ∧ A = []:=by
 refine Con.intro (vs:=[_]) Tryz.func142 rfl Tryz.ntmps142 rfl (fun B=>?_)
 refine zg4 ?_
 exact ze8
theorem sel_fields_4 (mb:Nat):Con Tryz.prog 143 #[ptr mb] [] fun v A=>v = .pointer (some ⟨mb,4,none⟩) ∧ A = []:=by
 refine Con.intro (vs:=[_]) Tryz.func143 rfl Tryz.ntmps143 rfl (fun B=>?_)
 refine zg4 ?_
 exact ze8
theorem sel_fields_5_1 (mb:Nat):Con Tryz.prog 145 #[ptr mb] [] fun v A=>v = .pointer (some ⟨mb,5,none⟩) ∧ A = []:=by
 refine Con.intro (vs:=[_]) Tryz.func145 rfl Tryz.ntmps145 rfl (fun B=>?_)
 refine zg4 ?_
 exact ze8
theorem sel_fields_6_1 (mb:Nat):Con Tryz.prog 147 #[ptr mb] [] fun v A=>v = .pointer (some ⟨mb,6,none⟩) ∧ A = []:=by
 refine Con.intro (vs:=[_]) Tryz.func147 rfl Tryz.ntmps147 rfl (fun B=>?_)
 refine zg4 ?_
 exact ze8
theorem sel_fields_7 (mb:Nat):Con Tryz.prog 149 #[ptr mb] [] fun v A=>v = .pointer (some ⟨mb,9,none⟩) ∧ A = []:=by
 refine Con.intro (vs:=[_]) Tryz.func149 rfl Tryz.ntmps149 rfl (fun B=>?_)
 refine zg4 ?_
 exact ze8
theorem sel_fields_8 (mb:Nat):Con Tryz.prog 150 #[ptr mb] [] fun v A=>v = .pointer (some ⟨mb,10,none⟩) ∧ A = []:=by
 refine Con.intro (vs:=[_]) Tryz.func150 rfl Tryz.ntmps150 rfl (fun B=>?_)
 refine zg4 ?_
 exact ze8
class SelOk (sel:FuncId) (off:outParam Nat):Prop where
 s:∀ mb:Nat,Con Tryz.prog sel #[ptr mb] [] fun v A=>v = .pointer (some ⟨mb,off,none⟩) ∧ A = []
instance:SelOk 140 1:=⟨sel_fields_1⟩
instance:SelOk 141 2:=⟨sel_fields_2⟩
instance:SelOk 142 3:=⟨sel_fields_3⟩
instance:SelOk 143 4:=⟨sel_fields_4⟩
instance:SelOk 145 5:=⟨sel_fields_5_1⟩
instance:SelOk 147 6:=⟨sel_fields_6_1⟩
instance:SelOk 149 9:=⟨sel_fields_7⟩
instance:SelOk 150 10:=⟨sel_fields_8⟩
theorem whole1_spec (mb ob lb hb:Nat) (sel:FuncId) [FnOk Tryz.prog sel] (L:List Value) (off:Nat) (n lo hi:Int) [hs:SelOk sel off] (hv:L[off]? = some (.int .i64 n)) :
  Con Tryz.prog 207 #[ptr mb,ptr ob,ptr lb,ptr hb] [MgB mb L,(ob,cl [fnV sel] 242),(lb,cl [.int .i64 lo] 3),(hb,cl [.int .i64 hi] 3)] fun v A=>v = .bool (decide (lo ≤ n ∧ n ≤ hi)) ∧ A = [MgB mb L,(ob,cl [fnV sel] 242),(lb,cl [.int .i64 lo] 3),(hb,cl [.int .i64 hi] 3)]:=by
 refine Con.intro (vs:=[_,_,_,_]) Tryz.func207 rfl Tryz.ntmps207 rfl (fun B=>?_)
 by_cases h1:lo ≤ n
 ·refine zg0 ?_
  refine Cd.draw [(0,1,[]),(1,0,[]),(5,1,[]),(2,2,[5]),(3,0,[]),(4,1,[]),(6,0,[]),(7,0,[]),(8,1,[]),(9,0,[]),(13,1,[]),(10,2,[13]),(11,0,[]),(12,1,[]),(14,0,[]),(15,0,[]),(16,0,[])] (by kernel_rfl) (by kernel_rfl) (by simp only [picked,nth];exact rfl) ?_
  refine zg2 ?_
  refine Ops.callV (fi:=[]) (ca:=[]) (vs:=[_]) (hs.s mb) rfl zp1 rfl rfl rfl rfl (fun v A' hR=>?_)
  obtain ⟨rfl,rfl⟩:=hR
  refine zg2 ?_
  refine Ops.ld1 rfl rfl rfl hv rfl ?_
  refine zg25 ?_
  refine Ops.callV (fi:=[]) (ca:=[]) (vs:=[_]) (hs.s mb) rfl zp1 rfl rfl rfl rfl (fun v A' hR=>?_)
  obtain ⟨rfl,rfl⟩:=hR
  refine zg2 ?_
  refine Ops.ld1 rfl rfl rfl hv rfl ?_
  refine zg10 ?_
  exact Cd.ret (ret1 (A':=[MgB mb L,(ob,cl [fnV sel] 242),(lb,cl [.int .i64 lo] 3),(hb,cl [.int .i64 hi] 3)]) rfl (Res.tmp rfl) (fun _ h=>h.split) ⟨by congr 1;exact decide_eq_decide.2 ⟨fun h=>⟨h1,h⟩,fun h=>h.2⟩,rfl⟩)
 ·refine zg0 ?_
  refine Cd.draw [(0,1,[]),(1,0,[]),(5,1,[]),(2,2,[5]),(3,0,[]),(4,1,[]),(6,0,[]),(7,0,[]),(8,1,[]),(9,0,[]),(13,1,[]),(10,2,[13]),(11,0,[]),(12,1,[]),(14,0,[]),(15,0,[]),(16,0,[])] (by kernel_rfl) (by kernel_rfl) (by simp only [picked,nth];exact rfl) ?_
  refine zg2 ?_
  refine Ops.callV (fi:=[]) (ca:=[]) (vs:=[_]) (hs.s mb) rfl zp1 rfl rfl rfl rfl (fun v A' hR=>?_)
  obtain ⟨rfl,rfl⟩:=hR
  refine zg2 ?_
  refine Ops.ld1 rfl rfl rfl hv rfl ?_
  refine zg22 ?_
  exact Cd.ret (ret1 (A':=[MgB mb L,(ob,cl [fnV sel] 242),(lb,cl [.int .i64 lo] 3),(hb,cl [.int .i64 hi] 3)]) rfl (Res.tmp rfl) (fun _ h=>h.split) ⟨by rw [decide_eq_false (fun h:lo ≤ n ∧ n ≤ hi=>h1 h.1)],rfl⟩)
theorem whole2_spec (mb ob:Nat) (sel:FuncId) [FnOk Tryz.prog sel] (L:List Value) (off:Nat) (n:Int) [hs:SelOk sel off] (hv:L[off]? = some (.int .i64 n)) (h0:0 ≤ n) (h1:n < 9223372036854775808) :
  Con Tryz.prog 208 #[ptr mb,ptr ob] [MgB mb L,(ob,cl [fnV sel] 242)] fun v A=>v = .string (numB n.toNat) ∧ A = [MgB mb L,(ob,cl [fnV sel] 242)]:=by
 obtain ⟨m,rfl⟩:∃ m:Nat,n = m:=⟨n.toNat,by omega⟩
 refine Con.intro (vs:=[_,_]) Tryz.func208 rfl Tryz.ntmps208 rfl (fun B=>?_)
 refine zg8 ?_
 refine Ops.callV (fi:=[]) (ca:=[]) (vs:=[_]) (hs.s mb) rfl (noPd rfl) rfl rfl rfl rfl (fun v A' hR=>?_)
 obtain ⟨rfl,rfl⟩:=hR
 refine zg2 ?_
 refine Ops.ld1 rfl rfl rfl hv rfl ?_
 refine Ops.cvI rfl rfl rfl rfl ?_
 rw [wrap_u64 (by omega),Int.toNat_natCast]
 refine Ops.call (num_spec m (by omega)) rfl (noPd rfl) rfl rfl rfl (fun v A' hR=>?_)
 obtain ⟨rfl,rfl⟩:=hR
 refine zg1 ?_
 exact Cd.ret (ret1 (A':=[MgB mb L,(ob,cl [fnV sel] 242)]) rfl (Res.tmp rfl) (fun _ h=>h.split) ⟨rfl,rfl⟩)
theorem rdNum_le {b:ByteArray} {most p:Nat} {e:Int}:(rdNum b most p e).1 ≤ most:=by
 unfold rdNum
 split
 ·exact Nat.zero_le _
 ·split
  ·exact Nat.zero_le _
  ·rename_i n q h
   exact numGo_le _ _ _ _ h
theorem whole3_spec (B0:Base) (mb ob rb:Nat) (sel:FuncId) [FnOk Tryz.prog sel] (L:List Value) (off:Nat) (v0:Value) [hs:SelOk sel off] (hv:L[off]? = some v0) (bs:ByteArray) (p:Nat) (e:Int) (hp:p ≤ bs.size) (hb:bs.size ≤ 1000000) :
  ConB Tryz.prog B0 209 #[ptr mb,ptr rb,ptr ob] [MgB mb L,RdB rb bs p e,(ob,cl [fnV sel] 242)]
   fun v A=>A = [MgB mb (L.set off (.int .i64 (((rdNum bs 1099511627776 p e).1:Nat):Int))),RdB rb bs (((rdNum bs 1099511627776 p e).2.1:Nat):Int) (rdNum bs 1099511627776 p e).2.2,(ob,cl [fnV sel] 242)]:=by
 have hle:=rdNum_le (b:=bs) (most:=1099511627776) (p:=p) (e:=e)
 have hlt:=(List.getElem?_eq_some_iff.1 hv).1
 refine ConB.intro (vs:=[_,_,_]) Tryz.func209 rfl Tryz.ntmps209 rfl (fun B hB=>?_)
 refine zg8 ?_
 refine Ops.callV (fi:=[]) (ca:=[]) (vs:=[_]) (hs.s mb) rfl (noPd rfl) rfl rfl rfl rfl (fun v A' hR=>?_)
 obtain ⟨rfl,rfl⟩:=hR
 refine zg0 ?_
 refine Ops.callB (rnum_spec B0 rb bs p 1099511627776 e hp hb (by decide)) hB rfl (noPd rfl) rfl rfl rfl (fun v A' hR=>?_)
 obtain ⟨rfl,rfl⟩:=hR
 refine Ops.cvI rfl rfl rfl rfl ?_
 rw [wrap_i64 (by omega)]
 refine zg2 ?_
 refine Ops.st1 (L':=L.set off (.int .i64 (((rdNum bs 1099511627776 p e).1:Nat):Int))) rfl rfl rfl rfl rfl (hs:=⟨rfl,hlt⟩) (noPd rfl) ?_
 exact Ops.nilN (end0 (A':=[MgB mb (L.set off (.int .i64 (((rdNum bs 1099511627776 p e).1:Nat):Int))),RdB rb bs (((rdNum bs 1099511627776 p e).2.1:Nat):Int) (rdNum bs 1099511627776 p e).2.2,(ob,cl [fnV sel] 242)]) rfl (fun _ h=>h.split) rfl)
theorem text_1_spec (mb ob lb hb:Nat) (sel:FuncId) [FnOk Tryz.prog sel] (L:List Value) (off:Nat) (s:ByteArray) (lo hi:Int) [hs:SelOk sel off] (hv:L[off]? = some (.string s)) :
  Con Tryz.prog 210 #[ptr mb,ptr ob,ptr lb,ptr hb] [MgB mb L,(ob,cl [fnV sel] 246),(hb,cl [.int .i64 hi] 3),(lb,cl [.int .i64 lo] 3)] fun v A=>v = .bool (decide (lo ≤ (s.size:Nat) ∧ ((s.size:Nat):Int) ≤ hi)) ∧ A = [MgB mb L,(ob,cl [fnV sel] 246),(hb,cl [.int .i64 hi] 3),(lb,cl [.int .i64 lo] 3)]:=by
 refine Con.intro (vs:=[_,_,_,_]) Tryz.func210 rfl Tryz.ntmps210 rfl (fun B=>?_)
 by_cases h1:lo ≤ (s.size:Nat)
 ·refine zg0 ?_
  refine Cd.draw [(0,1,[]),(1,0,[]),(6,1,[]),(2,2,[6]),(3,0,[]),(4,1,[]),(5,0,[]),(7,0,[]),(8,0,[]),(9,1,[]),(10,0,[]),(15,1,[]),(11,2,[15]),(12,0,[]),(13,1,[]),(14,0,[]),(16,0,[]),(17,0,[]),(18,0,[])] (by kernel_rfl) (by kernel_rfl) (by simp only [picked,nth];exact rfl) ?_
  refine zg2 ?_
  refine Ops.callV (fi:=[]) (ca:=[]) (vs:=[_]) (hs.s mb) rfl zp1 rfl rfl rfl rfl (fun v A' hR=>?_)
  obtain ⟨rfl,rfl⟩:=hR
  refine zg2 ?_
  refine Ops.ld1 rfl rfl rfl hv rfl ?_
  refine zg25 ?_
  refine Ops.callV (fi:=[]) (ca:=[]) (vs:=[_]) (hs.s mb) rfl zp1 rfl rfl rfl rfl (fun v A' hR=>?_)
  obtain ⟨rfl,rfl⟩:=hR
  refine zg2 ?_
  refine Ops.ld1 rfl rfl rfl hv rfl ?_
  refine zg10 ?_
  exact Cd.ret (ret1 (A':=[MgB mb L,(ob,cl [fnV sel] 246),(hb,cl [.int .i64 hi] 3),(lb,cl [.int .i64 lo] 3)]) rfl (Res.tmp rfl) (fun _ h=>h.split) ⟨by congr 1;exact decide_eq_decide.2 ⟨fun h=>⟨h1,h⟩,fun h=>h.2⟩,rfl⟩)
 ·refine zg0 ?_
  refine Cd.draw [(0,1,[]),(1,0,[]),(6,1,[]),(2,2,[6]),(3,0,[]),(4,1,[]),(5,0,[]),(7,0,[]),(8,0,[]),(9,1,[]),(10,0,[]),(15,1,[]),(11,2,[15]),(12,0,[]),(13,1,[]),(14,0,[]),(16,0,[]),(17,0,[]),(18,0,[])] (by kernel_rfl) (by kernel_rfl) (by simp only [picked,nth];exact rfl) ?_
  refine zg2 ?_
  refine Ops.callV (fi:=[]) (ca:=[]) (vs:=[_]) (hs.s mb) rfl zp1 rfl rfl rfl rfl (fun v A' hR=>?_)
  obtain ⟨rfl,rfl⟩:=hR
  refine zg2 ?_
  refine Ops.ld1 rfl rfl rfl hv rfl ?_
  refine zg22 ?_
  exact Cd.ret (ret1 (A':=[MgB mb L,(ob,cl [fnV sel] 246),(hb,cl [.int .i64 hi] 3),(lb,cl [.int .i64 lo] 3)]) rfl (Res.tmp rfl) (fun _ h=>h.split) ⟨by rw [decide_eq_false (fun h:lo ≤ (s.size:Nat) ∧ ((s.size:Nat):Int) ≤ hi=>h1 h.1)],rfl⟩)
theorem text_2_spec (mb ob:Nat) (sel:FuncId) [FnOk Tryz.prog sel] (L:List Value) (off:Nat) (s:ByteArray) [hs:SelOk sel off] (hv:L[off]? = some (.string s)) (hz:s.size ≤ 1000000) :
  Con Tryz.prog 211 #[ptr mb,ptr ob] [MgB mb L,(ob,cl [fnV sel] 246)] fun v A=>v = .string (frameF s) ∧ A = [MgB mb L,(ob,cl [fnV sel] 246)]:=by
 refine Con.intro (vs:=[_,_]) Tryz.func211 rfl Tryz.ntmps211 rfl (fun B=>?_)
 refine zg8 ?_
 refine Ops.callV (fi:=[]) (ca:=[]) (vs:=[_]) (hs.s mb) rfl (noPd rfl) rfl rfl rfl rfl (fun v A' hR=>?_)
 obtain ⟨rfl,rfl⟩:=hR
 refine zg2 ?_
 refine Ops.ld1 rfl rfl rfl hv rfl ?_
 refine Ops.call (text_spec s (by omega)) rfl (noPd rfl) rfl rfl rfl (fun v A' hR=>?_)
 obtain ⟨rfl,rfl⟩:=hR
 refine zg1 ?_
 exact Cd.ret (ret1 (A':=[MgB mb L,(ob,cl [fnV sel] 246)]) rfl (Res.tmp rfl) (fun _ h=>h.split) ⟨rfl,rfl⟩)
theorem text_3_spec (B0:Base) (mb ob hb rb:Nat) (sel:FuncId) [FnOk Tryz.prog sel] (L:List Value) (off:Nat) (v0:Value) (hi:Nat) [hs:SelOk sel off] (hv:L[off]? = some v0) (bs:ByteArray) (p:Nat) (e:Int) (hp:p ≤ bs.size) (hb2:bs.size ≤ 1000000) (hhi:hi ≤ 1000000) :
  ConB Tryz.prog B0 212 #[ptr mb,ptr rb,ptr hb,ptr ob] [MgB mb L,RdB rb bs p e,(ob,cl [fnV sel] 246),(hb,cl [.int .i64 hi] 3)]
   fun v A=>A = [MgB mb (L.set off (.string (rdText bs hi p e).1)),RdB rb bs (((rdText bs hi p e).2.1:Nat):Int) (rdText bs hi p e).2.2,(ob,cl [fnV sel] 246),(hb,cl [.int .i64 hi] 3)]:=by
 have hlt:=(List.getElem?_eq_some_iff.1 hv).1
 refine ConB.intro (vs:=[_,_,_,_]) Tryz.func212 rfl Tryz.ntmps212 rfl (fun B hB=>?_)
 refine Cd.draw [(0,1,[]),(1,0,[]),(3,0,[]),(4,1,[]),(2,2,[4]),(5,2,[]),(6,0,[]),(7,2,[])] (by kernel_rfl) (by kernel_rfl) (by simp only [picked,nth];exact rfl) ?_
 refine zg2 ?_
 refine Ops.callV (fi:=[]) (ca:=[]) (vs:=[_]) (hs.s mb) rfl zp1 rfl rfl rfl rfl (fun v A' hR=>?_)
 obtain ⟨rfl,rfl⟩:=hR
 skip
 refine Ops.callB (rtext_spec B0 rb bs p hi e hp hb2 hhi) hB rfl (noPd rfl) rfl rfl rfl (fun v A' hR=>?_)
 obtain ⟨rfl,rfl⟩:=hR
 refine zg2 ?_
 refine Ops.st1 (L':=L.set off (.string (rdText bs hi p e).1)) rfl rfl rfl rfl rfl (hs:=⟨rfl,hlt⟩) (noPd rfl) ?_
 exact Ops.nilN (end0 (A':=[MgB mb (L.set off (.string (rdText bs hi p e).1)),RdB rb bs (((rdText bs hi p e).2.1:Nat):Int) (rdText bs hi p e).2.2,(ob,cl [fnV sel] 246),(hb,cl [.int .i64 hi] 3)]) rfl (fun _ h=>h.split) rfl)
end Go.Proofs.YtaecdnfkcebbeaaGreat
