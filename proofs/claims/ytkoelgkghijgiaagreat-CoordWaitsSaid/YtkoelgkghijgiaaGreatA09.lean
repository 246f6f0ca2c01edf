import Derived.Test.YtkoelgkghijgiaaGreatA01
import Derived.Test.YtkoelgkghijgiaaGreatA04
import Derived.Test.YtkoelgkghijgiaaGreatA08
set_option linter.unusedVariables false
set_option linter.unusedSimpArgs false
namespace Go.Proofs.YtkoelgkghijgiaaGreat
open Go Go.Sep Go.Proofs Go.Proofs.Tryz
set_option maxRecDepth 10000
set_option maxHeartbeats 40000000
set_option synthInstance.maxSize 2000
def biC (n i:Nat):List Value:=((hiL n 8).take i).map (Value.int .u8) ++ List.replicate (8 - i) (.int .u8 0)
theorem biC_len {n i:Nat} (h:i ≤ 8):(biC n i).length = 8:=by simp [biC,hiL_len];omega
theorem biC_set {n i:Nat} (h:i < 8):(biC n i).set i (.int .u8 ((n / 256 ^ (7 - i) % 256:Nat):Int)) = biC n (i + 1):=by
 have hl:((hiL n 8).take i).length = i:=by rw [List.length_take,hiL_len];omega
 have hat:(hiL n 8)[i]? = some ((n / 256 ^ (7 - i) % 256:Nat):Int):=by
  have h1:=hiL_at (n:=n) (k:=8) (i:=i) h
  rw [List.getD_eq_getElem?_getD] at h1
  have h2:i < (hiL n 8).length:=by rw [hiL_len];exact h
  rw [List.getElem?_eq_getElem h2] at h1 ⊢
  exact congrArg some h1
 unfold biC
 rw [List.set_append_right _ _ (by rw [List.length_map,hl];omega),List.length_map,hl,Nat.sub_self,show 8 - i = (8 - (i + 1)) + 1 from by omega,List.replicate_succ,List.set_cons_zero,List.take_add_one,hat]
 simp
theorem bits_spec (n:Nat) (hn:n < 18446744073709551616):Con prog 66 #[.int .u64 n] [] fun v A=>v = .string (hiB n 8) ∧ A = []:=by
 refine zqI (vs:=[_]) func66 ntmps66 fun B=>?_
 repeat' (first|refine zs3 ?_|refine Ops.alloc rfl rfl rfl (noPd rfl) (fun b=>?_))
 rename Nat=>g
 refine Cd.loopK (σ:=Nat) (fun i=>i ≤ 8) (fun i=>[(0,.int .u64 n),(3,ptr g),(5,.int .i64 i)]) (fun i=>[(g,cl (biC n i) 202)]) (fun i=>8 - i) 0 (Nat.zero_le _) ⟨rfl,rfl,rfl,trivial⟩ (fun w h=>h) (fun i hi=>?_)
 have hlen:=biC_len (n:=n) hi
 by_cases hlt:i < 8
 ·have hlt':(i:Int) < 8:=by omega
  refine zg10 ?_
  refine Ops.shrI rfl rfl rfl rfl (by omega) rfl ?_
  refine Ops.cvI rfl rfl rfl rfl ?_
  rw [show (56:Int) - 8 * (i:Int) = 8 * ((7 - i:Nat):Int) from by omega,show IntKind.bits .u64 = IntKind.bits .i64 from rfl,shr8 n (7 - i) (by omega)]
  refine zg19 ?_
  refine Ops.st1 (L':=biC n (i + 1)) rfl rfl rfl rfl rfl (hs:=⟨by rw [Int.toNat_natCast,Nat.zero_add,Nat.mul_one,biC_set hlt],by rw [Int.toNat_natCast,Nat.zero_add,Nat.mul_one];omega⟩) (noPd rfl) ?_
  refine zg9 ?_
  exact ze22
 ·have hlt':¬ (i:Int) < 8:=by omega
  have he:i = 8:=by omega
  subst he
  refine zg7 ?_
  refine Ops.slAr rfl rfl rfl rfl ?_
  refine Ops.cvSp (bs:=hiB n 8) rfl rfl rfl (hiB_size n 8) (fun j u hu=>by rw [bv_hi] at hu;rw [Nat.zero_add,biC,List.take_of_length_le (by rw [hiL_len];omega)];simpa using hu) rfl ?_
  refine zg0 ?_
  exact ze9
theorem recnum_spec (n:Int) (h0:0 ≤ n) (h1:n < 9223372036854775808):Con prog 170 #[.int .i64 n] [] fun v A=>v = .string (numB n.toNat) ∧ A = []:=by
 obtain ⟨m,rfl⟩:∃ m:Nat,n = m:=⟨n.toNat,by omega⟩
 refine zqI (vs:=[_]) func170 ntmps170 fun B=>?_
 refine zg0 ?_
 refine Ops.cvI rfl rfl rfl rfl ?_
 rw [wrap_u64 (by omega),Int.toNat_natCast]
 refine zqA (num_spec m (by omega)) fun v A' hR=>?_
 obtain ⟨rfl,rfl⟩:=hR
 refine zg0 ?_
 exact ze9
def textsN (l:List ByteArray):Nat → ByteArray
 | 0=>.empty
 | i + 1=>textsN l i ++ frameF (l.getD i .empty)
def fieldB (c:Ch) (l:Nat):ByteArray :=
 if l = 110 then numB c.n.toNat else if l = 106 then numB c.job.toNat else if l = 112 then frameF c.prog else if l = 98 then numB c.badge.toNat
 else if l = 115 then numB c.slot.toNat ++ numB c.life.toNat else if l = 116 then numB c.txs.length ++ textsN c.txs c.txs.length else numB c.rcode.toNat ++ hiB c.rbits.toNat 8
def putN (c:Ch):Nat → ByteArray
 | 0=>numB c.kind.toNat
 | i + 1=>putN c i ++ fieldB c (bat (hasS c.kind) i)
def putB (c:Ch):ByteArray:=putN c (hasS c.kind).size
structure ChOk (c:Ch):Prop where
 k:0 ≤ c.kind ∧ c.kind < 9223372036854775808
 n:0 ≤ c.n ∧ c.n < 9223372036854775808
 j:0 ≤ c.job ∧ c.job < 9223372036854775808
 b:0 ≤ c.badge ∧ c.badge < 9223372036854775808
 s:0 ≤ c.slot ∧ c.slot < 9223372036854775808
 l:0 ≤ c.life ∧ c.life < 9223372036854775808
 r:0 ≤ c.rcode ∧ c.rcode < 9223372036854775808
 x:0 ≤ c.rbits ∧ c.rbits < 18446744073709551616
 p:c.prog.size ≤ 10000
 t:c.txs.length ≤ 100
 u:∀ t ∈ c.txs,t.size ≤ 1000
theorem dec_has (kind:Int) (i:Nat) (h:i < (hasS kind).size):Utf8.decode (hasS kind) i = (bat (hasS kind) i,1) ∧ bat (hasS kind) i ∈ [110,106,112,98,115,116,114]:=by
 unfold hasS at h ⊢
 by_cases h0:kind = 1
 ·rw [if_pos h0] at h ⊢
  exact (by decide:∀ i,i < (⟨#[110]⟩:ByteArray).size → Utf8.decode ⟨#[110]⟩ i = (bat ⟨#[110]⟩ i,1) ∧ bat ⟨#[110]⟩ i ∈ [110,106,112,98,115,116,114]) i h
 rw [if_neg h0] at h ⊢
 by_cases h1:kind = 2
 ·rw [if_pos h1] at h ⊢
  exact (by decide:∀ i,i < (⟨#[106,112]⟩:ByteArray).size → Utf8.decode ⟨#[106,112]⟩ i = (bat ⟨#[106,112]⟩ i,1) ∧ bat ⟨#[106,112]⟩ i ∈ [110,106,112,98,115,116,114]) i h
 rw [if_neg h1] at h ⊢
 by_cases h2:kind = 3
 ·rw [if_pos h2] at h ⊢
  exact (by decide:∀ i,i < (⟨#[106,98,115]⟩:ByteArray).size → Utf8.decode ⟨#[106,98,115]⟩ i = (bat ⟨#[106,98,115]⟩ i,1) ∧ bat ⟨#[106,98,115]⟩ i ∈ [110,106,112,98,115,116,114]) i h
 rw [if_neg h2] at h ⊢
 by_cases h3:kind = 4
 ·rw [if_pos h3] at h ⊢
  exact (by decide:∀ i,i < (⟨#[98,116]⟩:ByteArray).size → Utf8.decode ⟨#[98,116]⟩ i = (bat ⟨#[98,116]⟩ i,1) ∧ bat ⟨#[98,116]⟩ i ∈ [110,106,112,98,115,116,114]) i h
 rw [if_neg h3] at h ⊢
 by_cases h4:kind = 5
 ·rw [if_pos h4] at h ⊢
  exact (by decide:∀ i,i < (⟨#[98]⟩:ByteArray).size → Utf8.decode ⟨#[98]⟩ i = (bat ⟨#[98]⟩ i,1) ∧ bat ⟨#[98]⟩ i ∈ [110,106,112,98,115,116,114]) i h
 rw [if_neg h4] at h ⊢
 by_cases h5:kind = 6
 ·rw [if_pos h5] at h ⊢
  exact (by decide:∀ i,i < (⟨#[98,114]⟩:ByteArray).size → Utf8.decode ⟨#[98,114]⟩ i = (bat ⟨#[98,114]⟩ i,1) ∧ bat ⟨#[98,114]⟩ i ∈ [110,106,112,98,115,116,114]) i h
 rw [if_neg h5] at h ⊢
 exact absurd h (Nat.not_lt_zero _)
theorem textsN_size (c:Ch) (ok:ChOk c):∀ i,i ≤ c.txs.length → (textsN c.txs i).size ≤ i * 1010:=by
 intro i
 induction i with
 | zero=>intro _;simp [textsN]
 | succ i ih =>
  intro hi
  have h1:=ih (by omega)
  have h2:(frameF (c.txs.getD i .empty)).size ≤ 1010:=by
   rw [List.getD_eq_getElem?_getD,List.getElem?_eq_getElem (by omega)]
   have:=ok.u _ (List.getElem_mem (h:=(by omega:i < c.txs.length)))
   have:=frameF_size (c.txs[i]'(by omega)) (by omega)
   simp only [Option.getD_some]
   omega
  rw [textsN,ByteArray.size_append]
  omega
theorem fieldB_size (c:Ch) (ok:ChOk c) (l:Nat):(fieldB c l).size ≤ 200000:=by
 have hn:∀ n:Int,0 ≤ n → n < 9223372036854775808 → (numB n.toNat).size ≤ 10:=fun n h0 h1=>numB_size (by omega)
 have ht:=textsN_size c ok
 have h1:=hn _ ok.n.1 ok.n.2
 have h2:=hn _ ok.j.1 ok.j.2
 have h3:=hn _ ok.b.1 ok.b.2
 have h4:=hn _ ok.s.1 ok.s.2
 have h5:=hn _ ok.l.1 ok.l.2
 have h6:=hn _ ok.r.1 ok.r.2
 have h7:=frameF_size c.prog (by have:=ok.p;omega)
 have h8:=ht _ (Nat.le_refl _)
 have h9:=ok.t
 have h10:=ok.p
 have h11:(numB c.txs.length).size ≤ 10:=numB_size (by omega)
 unfold fieldB
 (repeat' split)
 all_goals (try simp only [ByteArray.size_append,hiB_size])
 all_goals omega
theorem putN_size (c:Ch) (ok:ChOk c):∀ i,(putN c i).size ≤ 10 + i * 200000
 | 0=>by
  have:=numB_size (n:=c.kind.toNat) (by have:=ok.k;omega)
  rw [putN];omega
 | i + 1=>by
  have h1:=putN_size c ok i
  have h2:=fieldB_size c ok (bat (hasS c.kind) i)
  rw [putN,ByteArray.size_append];omega
theorem hasS_size (k:Int):(hasS k).size ≤ 3:=by
 unfold hasS
 (repeat' split) <;> decide
structure PtS where
 i:Nat
 E:List Blk
theorem inTx {N:Fi} {B:Base} {T:Tm} {A:List Blk} {Q:Exit → Act → World → Prop} {f:Act → World → Prop} {id:Nat} (h:∀ a w,Fr N T a → Sat B A w → Q (.exit id) a w):∀ a w,Fr N T a → Sat B A w → Exit.then f Q (.exit id) a w:=h
theorem roundX {σ:Type} {N:Fi} {B:Base} {T:Tm} {A:List Blk} {I:σ → Prop} {Tf:σ → Tm} {Af:σ → List Blk} {μ:σ → Nat} {n:Nat} {Q:Exit → Act → World → Prop} {id:Nat} (h:∀ a w,Fr N T a → Sat B A w → Q (.exit id) a w):∀ a w,Fr N T a → Sat B A w → Round N B I Tf Af μ n Q (.exit id) a w:=h
theorem inBs {N:Fi} {B:Base} {T:Tm} {A:List Blk} {Q:Exit → Act → World → Prop} {id:Nat} (h:∀ a w,Fr N T a → Sat B A w → Q .normal a w):∀ a w,Fr N T a → Sat B A w → Exit.inBlock id Q (.exit id) a w:=fun a w hF hS=>by
 simp only [Exit.inBlock,if_true]
 exact h a w hF hS
theorem put_spec (B0:Base) (c:Ch) (a:Option Addr) (k:Nat) (hS:SIn B0 a c.txs) (ok:ChOk c):ConB prog B0 172 #[.agg (c.row a k).toArray] [] fun v A=>v = .string (putB c) ∧ A = []:=by
 refine zqJ (vs:=[_]) func172 ntmps172 fun B hB=>?_
 have hsz3:=hasS_size c.kind
 repeat' (first|refine zs0 ?_|refine Ops.box rfl rfl rfl rfl (noPd rfl) (fun b=>?_)|refine Ops.alloc rfl rfl rfl (noPd rfl) (fun b=>?_))
 rename_i cb
 rename Nat=>bb
 refine zqA (recnum_spec c.kind ok.k.1 ok.k.2) fun v A' hR=>?_
 obtain ⟨rfl,rfl⟩:=hR
 refine Ops.call (bwrite_spec bb .empty (numB c.kind.toNat) [BuB bb none (.slice none 0 0)] ⟨none,_,[],rfl,.inl rfl,BG.none⟩ (by have:=putN_size c ok 0;rw [putN] at this;simp;omega)) rfl (noPd rfl) rfl rfl rfl (fun v A' hR=>?_)
 rw [ByteArray.empty_append] at hR
 refine zg1 ?_
 refine Ops.call (has_spec c.kind) rfl (noPd rfl) rfl rfl rfl (fun v A2 hR2=>?_)
 obtain ⟨rfl,rfl⟩:=hR2
 refine Ops.rngS rfl rfl rfl rfl (noPd rfl) (fun r=>?_)
 refine zg1 ?_
 refine Cd.loopK (σ:=PtS) (fun t=>t.i ≤ (hasS c.kind).size ∧ BuA bb (putN c t.i) t.E) (fun t=>[(1,ptr cb),(3,ptr bb),(15,ptr r)]) (fun t=>(r,sit (hasS c.kind) t.i) :: (cb,cl (c.row a k) 103) :: t.E) (fun t=>(hasS c.kind).size - t.i) ⟨0,A'⟩ ⟨Nat.zero_le _,hR⟩ ⟨rfl,rfl,rfl,trivial⟩ (fun w h=>h.split) (fun t ht=>?_)
 obtain ⟨i,E⟩:=t
 obtain ⟨hi,hE⟩:=ht
 dsimp only at hi hE ⊢
 have hpz:=putN_size c ok i
 have hfz:=fieldB_size c ok (bat (hasS c.kind) i)
 by_cases hlt:i < (hasS c.kind).size
 ·obtain ⟨hdec,hmem⟩:=dec_has c.kind i hlt
  refine zg0 ?_
  refine Ops.nxS _ _ rfl rfl rfl hlt hdec rfl (noPd rfl) ?_
  simp only [List.mem_cons,List.not_mem_nil,or_false] at hmem
  have hfi:putN c (i + 1) = putN c i ++ fieldB c (bat (hasS c.kind) i):=rfl
  generalize bat (hasS c.kind) i = bl at hmem hfz hfi ⊢
  rcases hmem with hb|hb|hb|hb|hb|hb|hb
  ·subst hb
   have hfl:fieldB c 110 = numB c.n.toNat:=rfl
   refine zg4 ?_
   refine Ops.call (recnum_spec c.n ok.n.1 ok.n.2) rfl zp1 rfl rfl rfl (fun v A' hR=>?_)
   obtain ⟨rfl,rfl⟩:=hR
   refine Ops.call (bwrite_spec bb (putN c i) (numB c.n.toNat) _ hE (by rw [hfl] at hfz;omega)) rfl (noPd rfl) rfl rfl rfl (fun v A' hR=>?_)
   exact ze51
  ·subst hb
   have hfl:fieldB c 106 = numB c.job.toNat:=rfl
   refine zg4 ?_
   refine Ops.call (recnum_spec c.job ok.j.1 ok.j.2) rfl zp1 rfl rfl rfl (fun v A' hR=>?_)
   obtain ⟨rfl,rfl⟩:=hR
   refine Ops.call (bwrite_spec bb (putN c i) (numB c.job.toNat) _ hE (by rw [hfl] at hfz;omega)) rfl (noPd rfl) rfl rfl rfl (fun v A' hR=>?_)
   exact ze51
  ·subst hb
   have hfl:fieldB c 112 = frameF c.prog:=rfl
   refine zg4 ?_
   refine zqA (text_spec c.prog (by have:=ok.p;omega)) fun v A' hR=>?_
   obtain ⟨rfl,rfl⟩:=hR
   rw [show numB c.prog.size ++ c.prog = frameF c.prog from rfl]
   refine Ops.call (bwrite_spec bb (putN c i) (frameF c.prog) _ hE (by rw [hfl] at hfz;omega)) rfl (noPd rfl) rfl rfl rfl (fun v A' hR=>?_)
   exact ze51
  ·subst hb
   have hfl:fieldB c 98 = numB c.badge.toNat:=rfl
   refine zg4 ?_
   refine Ops.call (recnum_spec c.badge ok.b.1 ok.b.2) rfl zp1 rfl rfl rfl (fun v A' hR=>?_)
   obtain ⟨rfl,rfl⟩:=hR
   refine Ops.call (bwrite_spec bb (putN c i) (numB c.badge.toNat) _ hE (by rw [hfl] at hfz;omega)) rfl (noPd rfl) rfl rfl rfl (fun v A' hR=>?_)
   exact ze51
  ·subst hb
   have hfl:fieldB c 115 = numB c.slot.toNat ++ numB c.life.toNat:=rfl
   refine zg4 ?_
   refine zdr [qz 0,qy 1,qz 3,qy 4,(2,2,[4]),(5,2,[]),qz 6,(7,2,[])] ?_
   refine zg5 ?_
   refine Ops.call (recnum_spec c.slot ok.s.1 ok.s.2) rfl zp1 rfl rfl rfl (fun v A' hR=>?_)
   obtain ⟨rfl,rfl⟩:=hR
   refine Ops.call (recnum_spec c.life ok.l.1 ok.l.2) rfl zp1 rfl rfl rfl (fun v A' hR=>?_)
   obtain ⟨rfl,rfl⟩:=hR
   refine Ops.cat rfl rfl rfl rfl (by rw [hfl,ByteArray.size_append] at hfz;omega) rfl ?_
   refine Ops.call (bwrite_spec bb (putN c i) (numB c.slot.toNat ++ numB c.life.toNat) _ hE (by rw [hfl] at hfz;omega)) rfl (noPd rfl) rfl rfl rfl (fun v A' hR=>?_)
   exact ze51
  ·subst hb
   have hfl:fieldB c 116 = numB c.txs.length ++ textsN c.txs c.txs.length:=rfl
   have htl:∀ j,j ≤ c.txs.length → (textsN c.txs j).size ≤ j * 1010:=fun j hj=>textsN_size c ok j hj
   have hnz:(numB c.txs.length).size ≤ 10:=numB_size (by have:=ok.t;omega)
   have hct:=ok.t
   refine zg4 ?_
   refine zqA (recnum_spec c.txs.length (by omega) (by omega)) fun v A' hR=>?_
   obtain ⟨rfl,rfl⟩:=hR
   rw [Int.toNat_natCast]
   refine Ops.call (bwrite_spec bb (putN c i) (numB c.txs.length) _ hE (by omega)) rfl (noPd rfl) rfl rfl rfl (fun v A' hR=>?_)
   refine zg1 ?_
   refine Cd.loopK (σ:=PtS) (fun t=>t.i ≤ c.txs.length ∧ BuA bb (putN c i ++ numB c.txs.length ++ textsN c.txs t.i) t.E) (fun t=>[(1,ptr cb),(3,ptr bb),(15,ptr r),(72,.slice a c.txs.length k),(73,.int .i64 c.txs.length),(74,.int .i64 t.i)]) (fun t=>(r,sit (hasS c.kind) (i + 1)) :: (cb,cl (c.row a k) 103) :: t.E) (fun t=>c.txs.length - t.i) ⟨0,A'⟩ ⟨Nat.zero_le _,by show BuA bb (_ ++ .empty) _;rw [ByteArray.append_empty];exact hR⟩ ⟨rfl,rfl,rfl,rfl,rfl,rfl,trivial⟩ (fun w h=>h.split) (fun t ht=>?_)
   obtain ⟨j,E2⟩:=t
   obtain ⟨hj,hE2⟩:=ht
   dsimp only at hj hE2 ⊢
   by_cases hjl:j < c.txs.length
   ·have hjl':(j:Int) < c.txs.length:=by omega
    obtain ⟨x,hx⟩:∃ x,c.txs[j]? = some x:=⟨_,List.getElem?_eq_getElem hjl⟩
    have hxs:=ok.u x (List.mem_of_getElem? hx)
    obtain ⟨b,off,hab,hrd⟩:=(hS.ext hB) j x hx
    subst hab
    have hrw:∀ A,Rd B.plain A b (off + (j:Int).toNat * 1) (.string x):=fun A=>by rw [Int.toNat_natCast];exact hrd A
    have htj:=htl j hj
    have htn:textsN c.txs (j + 1) = textsN c.txs j ++ frameF x:=by rw [textsN,List.getD_eq_getElem?_getD,hx];rfl
    have hxz:=frameF_size x (by omega)
    refine zg15 ?_
    refine Ops.ldR rfl rfl rfl (hrw _) rfl ?_
    refine zg0 ?_
    refine zqA (text_spec x (by omega)) fun v A' hR=>?_
    obtain ⟨rfl,rfl⟩:=hR
    rw [show numB x.size ++ x = frameF x from rfl]
    refine Ops.call (bwrite_spec bb (putN c i ++ numB c.txs.length ++ textsN c.txs j) (frameF x) _ hE2 (by simp only [ByteArray.size_append];omega)) rfl (noPd rfl) rfl rfl rfl (fun v A' hR=>?_)
    refine zg9 ?_
    exact Ops.nilN (round_end (⟨j + 1,_⟩:PtS) ⟨by show j + 1 ≤ _;omega,by show BuA bb (_ ++ textsN c.txs (j + 1)) _;rw [htn,← ByteArray.append_assoc];exact hR⟩ (by show c.txs.length - (j + 1) < c.txs.length - j;omega) ⟨rfl,rfl,rfl,rfl,rfl,rfl,trivial⟩ (fun w h=>h.split))
   ·have hjl':¬ (j:Int) < c.txs.length:=by omega
    have hje:j = c.txs.length:=by omega
    subst hje
    refine zg2 ?_
    exact Cd.exit (inTx (roundX (inBs (inB (inB (round_end (⟨i + 1,_⟩:PtS) ⟨by show i + 1 ≤ _;omega,by show BuA bb (putN c (i + 1)) _;rw [hfi,hfl,← ByteArray.append_assoc];exact hE2⟩ zp16 ⟨rfl,rfl,rfl,trivial⟩ (fun w h=>h.split)))))))
  ·subst hb
   have hfl:fieldB c 114 = numB c.rcode.toNat ++ hiB c.rbits.toNat 8:=rfl
   refine zg4 ?_
   refine zdr [qz 0,qz 1,qy 2,qz 4,qz 5,qy 6,(3,2,[6]),(7,2,[]),qz 8,(9,2,[])] ?_
   refine zg5 ?_
   refine Ops.call (recnum_spec c.rcode ok.r.1 ok.r.2) rfl zp1 rfl rfl rfl (fun v A' hR=>?_)
   obtain ⟨rfl,rfl⟩:=hR
   obtain ⟨xn,hxn⟩:∃ n:Nat,c.rbits = n:=⟨c.rbits.toNat,by have:=ok.x;omega⟩
   rw [hxn,Int.toNat_natCast] at hfl
   rw [hxn]
   refine zqA (bits_spec xn (by have:=ok.x;omega)) fun v A' hR=>?_
   obtain ⟨rfl,rfl⟩:=hR
   refine Ops.cat rfl rfl rfl rfl (by rw [hfl,ByteArray.size_append] at hfz;omega) rfl ?_
   refine Ops.call (bwrite_spec bb (putN c i) (numB c.rcode.toNat ++ hiB xn 8) _ hE (by rw [hfl] at hfz;omega)) rfl (noPd rfl) rfl rfl rfl (fun v A' hR=>?_)
   exact ze51
 ·have he:i = (hasS c.kind).size:=by omega
  refine zg0 ?_
  refine Ops.nxE rfl rfl rfl hlt rfl (noPd rfl) ?_
  refine zg7 ?_
  refine Ops.call (bstring_spec bb (putN c i) _ hE (by omega)) rfl (noPd rfl) rfl rfl rfl (fun v A' hR=>?_)
  obtain ⟨rfl,hD2⟩:=hR
  refine zg0 ?_
  exact ze28
theorem rgt_true {h z m:Bool} (e:rgt h z m = true):m = true ∨ z = true:=by
 unfold rgt at e
 split at e
 ·exact .inl e
 ·exact .inr e
theorem chOk_of {c:Ch} (h:checkF c = 0) (hx:0 ≤ c.rbits ∧ c.rbits < 18446744073709551616):ChOk c:=by
 unfold checkF at h
 split at h
 ·cases h
 ·rename_i hk
  have hk:=Classical.not_not.1 hk
  split at h
  ·rename_i hall
   simp only [Bool.and_eq_true] at hall
   obtain ⟨h1,h2,h3,h4,h5,h6,h7⟩:=hall
   have h1:=rgt_true h1
   have h2:=rgt_true h2
   have h3:=rgt_true h3
   have h4:=rgt_true h4
   have h5:=rgt_true h5
   have h6:=rgt_true h6
   have h7:=rgt_true h7
   simp only [decide_eq_true_eq,Bool.and_eq_true] at h1 h2 h3 h4 h5 h6 h7
   refine ⟨by omega,by omega,by omega,by omega,by omega,by omega,by omega,hx,?_,?_,?_⟩
   ·rcases h3 with h3|h3
    ·omega
    ·rw [h3];decide
   ·rcases h6 with h6|h6
    ·unfold textsF at h6
     simp only [Bool.and_eq_true,decide_eq_true_eq] at h6
     omega
    ·omega
   ·intro t ht
    rcases h6 with h6|h6
    ·unfold textsF at h6
     simp only [Bool.and_eq_true,Bool.not_eq_true',List.any_eq_false] at h6
     have:=h6.2 t ht
     simp only [longT,decide_eq_true_eq] at this
     omega
    ·have:c.txs = []:=List.length_eq_zero_iff.1 (by omega)
     rw [this] at ht
     cases ht
  ·cases h
structure Cg where
 c:Ch
 a:Option Addr
 k:Nat
@[reducible] def Cg.row (g:Cg):List Value:=g.c.row g.a g.k
theorem cgs_ok (l:List Cg):RowsOk 10 (l.map Cg.row):=rows_map (f:=Cg.row) (fun _=>⟨rfl,rfl⟩) l
structure CIn (B:Base) (a:Option Addr) (l:List Cg):Prop where
 r:RIn 10 B a (l.map Cg.row)
 s:∀ g ∈ l,SIn B g.a g.c.txs
 n:∀ g ∈ l,g.c.txs.length ≤ 2000000
 x:∀ g ∈ l,0 ≤ g.c.rbits ∧ g.c.rbits < 18446744073709551616
theorem CIn.ext {B B2:Base} {a:Option Addr} {l:List Cg} (e:Ext B B2) (h:CIn B a l):CIn B2 a l:=⟨h.r.ext e,fun g hg=>(h.s g hg).ext e,h.n,h.x⟩
theorem RIn.sin {B:Base} {a:Option Addr} {l:List ByteArray} (h:RIn 1 B a (l.map trow)):SIn B a l:=fun i s hs=>by
 obtain ⟨b,off,ha,hr⟩:=h i (trow s) (by rw [List.getElem?_map,hs];rfl)
 exact ⟨b,off,ha,fun A=>by simpa using hr A 0 _ rfl⟩
def encN (l:List Ch):Nat → ByteArray
 | 0=>numB l.length
 | i + 1=>encN l i ++ (match l[i]? with|some c=>putB c|none=>.empty)
def encodeF (l:List Ch):ByteArray × Int :=
 if ¬ (1 ≤ l.length ∧ l.length ≤ 16) then (⟨#[]⟩,82) else match l.find? fun c=>decide (checkF c ≠ 0) with
  | some c=>(⟨#[]⟩,checkF c)
  | none=>if 2048 < (encN l l.length).size then (⟨#[]⟩,82) else (encN l l.length,0)
theorem putB_size {c:Ch} (ok:ChOk c):(putB c).size ≤ 700000:=by
 have h1:=putN_size c ok (hasS c.kind).size
 have h2:=hasS_size c.kind
 unfold putB
 omega
theorem encode_spec (B0:Base) (a:Option Addr) (cp:Nat) (l:List Cg) (hC:CIn B0 a l) (hl:l.length ≤ 2000000):ConB prog B0 105 #[.slice a l.length cp] [] fun v A=>v = .tuple #[.string (encodeF (l.map Cg.c)).1,.int .i64 (encodeF (l.map Cg.c)).2] ∧ A = []:=by
 refine zqJ (vs:=[_]) func105 ntmps105 fun B hB=>?_
 have henc:encodeF (l.map Cg.c) = if ¬ (1 ≤ (l.map Cg.c).length ∧ (l.map Cg.c).length ≤ 16) then (⟨#[]⟩,82) else match (l.map Cg.c).find? fun c=>decide (checkF c ≠ 0) with
  | some c=>(⟨#[]⟩,checkF c)
  | none=>if 2048 < (encN (l.map Cg.c) (l.map Cg.c).length).size then (⟨#[]⟩,(82:Int)) else (encN (l.map Cg.c) (l.map Cg.c).length,0):=rfl
 have hlm:(l.map Cg.c).length = l.length:=List.length_map _
 refine zg1 ?_
 refine zqA (rin_spec l.length 1 16) fun v A' hR=>?_
 obtain ⟨rfl,rfl⟩:=hR
 by_cases hb:1 ≤ l.length ∧ l.length ≤ 16
 case neg =>
  rw [if_pos (by rw [hlm];exact hb)] at henc
  rw [henc,decide_eq_false (by omega:¬ ((1:Int) ≤ (l.length:Nat) ∧ ((l.length:Nat):Int) ≤ 16))]
  refine zg6 ?_
  exact ze10
 rw [if_neg (by rw [hlm];exact not_not_intro hb)] at henc
 rw [decide_eq_true (⟨by omega,by omega⟩:(1:Int) ≤ (l.length:Nat) ∧ ((l.length:Nat):Int) ≤ 16)]
 refine zg4 ?_
 refine zqA (recnum_spec l.length (by omega) (by omega)) fun v A' hR=>?_
 obtain ⟨rfl,rfl⟩:=hR
 rw [Int.toNat_natCast]
 refine zg1 ?_
 refine Cd.loopK (σ:=Nat) (fun i=>i ≤ l.length ∧ (∀ g ∈ l.take i,checkF g.c = 0) ∧ (encN (l.map Cg.c) i).size ≤ 10 + i * 700000) (fun i=>[(4,.string (encN (l.map Cg.c) i)),(15,.slice a l.length cp),(16,.int .i64 l.length),(17,.int .i64 i)]) (fun _=>[]) (fun i=>l.length - i) 0
  ⟨Nat.zero_le _,fun g hg=>(by cases hg),by have:=numB_size (n:=l.length) (by omega);rw [encN,hlm];omega⟩ ⟨by rw [encN,hlm];rfl,rfl,rfl,rfl,trivial⟩ (fun w h=>h.split) (fun i hI=>?_)
 obtain ⟨hi,hall,hsz⟩:=hI
 by_cases hil:i < l.length
 ·have hil':(i:Int) < l.length:=by omega
  obtain ⟨g,hg⟩:∃ g,l[i]? = some g:=⟨_,List.getElem?_eq_getElem hil⟩
  have hgm:=List.mem_of_getElem? hg
  obtain ⟨b,off,hab,hrd⟩:=(hC.r.ext hB) i g.row (by rw [List.getElem?_map,hg];rfl)
  subst hab
  have hrw:∀ A j u,g.row[j]? = some u → Rd B.plain A b (off + (i:Int).toNat * 10 + j) u:=fun A j u hu=>by rw [Int.toNat_natCast];exact hrd A j u hu
  have hnext:encN (l.map Cg.c) (i + 1) = encN (l.map Cg.c) i ++ putB g.c:=by rw [encN,List.getElem?_map,hg];rfl
  refine zg15 ?_
  refine Ops.ldRN (r:=g.row) rfl rfl rfl rfl (hrw _) rfl ?_
  repeat' (first|refine zs3 ?_|refine Ops.alloc rfl rfl rfl (noPd rfl) (fun b=>?_))
  rename Nat=>gb
  refine zqB (rcheck_spec B0 g.c g.a g.k (hC.s g hgm) (hC.n g hgm)) hB fun v A' hR=>?_
  obtain ⟨rfl,rfl⟩:=hR
  by_cases he:checkF g.c = 0
  ·rw [he]
   have hok:=chOk_of he (hC.x g hgm)
   have hpz:=putB_size hok
   refine zg4 ?_
   refine zqB (put_spec B0 g.c g.a g.k (hC.s g hgm) hok) hB fun v A' hR=>?_
   obtain ⟨rfl,rfl⟩:=hR
   refine Ops.cat rfl rfl rfl rfl (by omega) rfl ?_
   rw [← hnext]
   refine zg9 ?_
   exact Ops.nilN (round_end (i + 1:Nat) ⟨by show i + 1 ≤ l.length;omega,fun q hq=>by
    rw [List.take_add_one,hg] at hq
    rcases List.mem_append.1 hq with hq|hq
    ·exact hall q hq
    ·rw [show (some g).toList = [g] from rfl,List.mem_singleton] at hq
     rw [hq];exact he,by show (encN (l.map Cg.c) (i + 1)).size ≤ 10 + (i + 1) * 700000;rw [hnext,ByteArray.size_append];omega⟩ zp15 ⟨rfl,rfl,rfl,rfl,trivial⟩ (fun w h=>h.split))
  ·have hf:(l.map Cg.c).find? (fun c=>decide (checkF c ≠ 0)) = some g.c:=by
    rw [List.find?_map]
    have h2:l.find? ((fun c=>decide (checkF c ≠ 0)) ∘ Cg.c) = some g:=by
     rw [List.find?_eq_some_iff_getElem]
     obtain ⟨h3,h4⟩:=List.getElem?_eq_some_iff.1 hg
     refine ⟨by simp [he],i,h3,h4,fun j hj=>?_⟩
     have:=hall (l[j]'(by omega)) (by rw [List.mem_take_iff_getElem];exact ⟨j,by omega,rfl⟩)
     simp [this]
    rw [h2];rfl
   rw [hf] at henc
   rw [henc]
   refine zg2 ?_
   exact ze10
 ·have hil':¬ (i:Int) < l.length:=by omega
  have hie:i = l.length:=by omega
  subst hie
  rw [List.take_length] at hall
  have hf:(l.map Cg.c).find? (fun c=>decide (checkF c ≠ 0)) = none:=by
   rw [List.find?_eq_none]
   intro c hc
   obtain ⟨g,hg,rfl⟩:=List.mem_map.1 hc
   simp [hall g hg]
  rw [hf] at henc
  rw [hlm] at henc
  dsimp only at henc
  by_cases hbig:2048 < (encN (l.map Cg.c) l.length).size
  ·have hbig':(2048:Int) < ((encN (l.map Cg.c) l.length).size:Nat):=by omega
   rw [if_pos hbig] at henc
   rw [henc]
   refine zg8 ?_
   exact ze10
  ·have hbig':¬ (2048:Int) < ((encN (l.map Cg.c) l.length).size:Nat):=by omega
   rw [if_neg hbig] at henc
   rw [henc]
   refine zg2 ?_
   exact ze10
def holderOk (node life:Int):Bool:=decide (2 ≤ node ∧ node ≤ 9 ∧ 1 ≤ life ∧ life ≤ 1099511627776)
def heldAt (rows:List Rw) (badge:Int):Option Nat:=rows.findIdx? fun r=>decide (r.status = 2 ∧ r.badge = badge)
def lastAt (rows:List Rw) (badge:Int):Option Nat:=rows.findIdx? fun r=>decide (r.badge = badge ∧ 0 < badge)
def Rw.free (r:Rw) (att:Int):Rw:={ r with status:=if att ≤ r.att then 4 else 1,node:=0,life:=0 }
def Rw.done (r:Rw) (code bits:Int):Rw:={ r with status:=3,node:=0,life:=0,rcode:=code,rbits:=bits }
def Rw.give (r:Rw) (badge node life:Int):Rw:={ r with status:=2,badge:=badge,node:=node,life:=life,att:=r.att + 1 }
def stepF (s:StP) (c:Ch):Option StP :=
 if c.kind = 1 then (if s.res < c.n then some { s with res:=c.n } else none)
 else if c.kind = 2 then (if c.job ≠ (s.progs.length:Nat) + 1 ∨ 8 ≤ s.rows.length then none else some { s with rows:=s.rows ++ [⟨(s.rows.length:Nat) + 1,1,0,0,0,0,0,0⟩],progs:=s.progs ++ [c.prog],logs:=s.logs ++ [[]] })
 else if c.kind = 3 then (if s.res < c.badge then none else match (if 1 ≤ c.job then s.rows[(c.job - 1).toNat]? else none) with
  | none=>none
  | some r=>if r.status ≠ 1 ∨ ¬ (1 ≤ c.badge ∧ c.badge ≤ 1099511627776) ∨ s.rows.any (fun q=>decide (c.badge ≤ q.badge)) ∨ ¬ holderOk (2 + c.slot) c.life then none
   else some { s with rows:=s.rows.set (c.job - 1).toNat (r.give c.badge (2 + c.slot) c.life),logs:=s.logs.set (c.job - 1).toNat [] })
 else if c.kind = 4 then (match lastAt s.rows c.badge with
  | none=>none
  | some i=>if (s.rows.getD i ⟨0,0,0,0,0,0,0,0⟩).status ≠ 2 ∨ 32 < (s.logs.getD i []).length + c.txs.length then none else some { s with logs:=s.logs.set i (s.logs.getD i [] ++ c.txs) })
 else if c.kind = 5 then (match heldAt s.rows c.badge with
  | none=>none
  | some i=>some { s with rows:=s.rows.set i ((s.rows.getD i ⟨0,0,0,0,0,0,0,0⟩).free s.att) })
 else (match heldAt s.rows c.badge with
  | none=>none
  | some i=>if ¬ (0 ≤ c.rcode ∧ c.rcode ≤ 7 ∧ (c.rcode = 0 ∨ c.rbits = 0)) then none else some { s with rows:=s.rows.set i ((s.rows.getD i ⟨0,0,0,0,0,0,0,0⟩).done c.rcode c.rbits) })
theorem getD_of {α:Type} {l:List α} {i:Nat} {d r:α} (h:l[i]? = some r):l.getD i d = r:=by rw [List.getD_eq_getElem?_getD,h];rfl
theorem set_jobs {rows:List Rw} {i:Nat} {f:Rw} (hj:∀ (k:Nat) (r:Rw),rows[k]? = some r → r.job = (k:Int) + 1) (hf:∀ r,rows[i]? = some r → f.job = r.job):∀ (k:Nat) (r:Rw),(rows.set i f)[k]? = some r → r.job = (k:Int) + 1:=by
 intro k r hk
 rw [List.getElem?_set] at hk
 split at hk
 ·rename_i h
  subst h
  split at hk
  ·rename_i hlt
   injection hk with hk
   subst hk
   obtain ⟨q,hq⟩:∃ q,rows[i]? = some q:=⟨_,List.getElem?_eq_getElem hlt⟩
   rw [hf q hq];exact hj i q hq
  ·cases hk
 ·exact hj k r hk
theorem set_am {rows:List Rw} {i:Nat} {f:Rw} {p:Rw → Prop} (h:∀ r ∈ rows,p r) (hf:p f):∀ r ∈ rows.set i f,p r:=fun r hr=>by
 rcases List.mem_or_eq_of_mem_set hr with hr|rfl
 ·exact h r hr
 ·exact hf
theorem stepF_ok {s s':StP} {c:Ch} (ok:StOk s) (h:stepF s c = some s'):StOk s':=by
 obtain ⟨a1,a8,nr,np,nl,lg,jb,am⟩:=ok
 unfold stepF at h
 split at h
 ·split at h
  ·injection h with h;subst h;exact ⟨a1,a8,nr,np,nl,lg,jb,am⟩
  ·cases h
 split at h
 ·split at h
  ·cases h
  ·rename_i hc
   injection h with h;subst h
   refine ⟨a1,a8,by simp;omega,by simp;omega,by simp;omega,fun l hl=>?_,fun i r hr=>?_,fun r hr=>?_⟩
   ·rcases List.mem_append.1 hl with hl|hl
    ·exact lg l hl
    ·rw [List.mem_singleton] at hl;subst hl;simp
   ·rw [List.getElem?_append] at hr
    split at hr
    ·exact jb i r hr
    ·rename_i hlt
     cases hd:i - s.rows.length with
     | zero=>rw [hd] at hr;injection hr with hr;subst hr;dsimp only;omega
     | succ n=>rw [hd] at hr;cases hr
   ·rcases List.mem_append.1 hr with hr|hr
    ·exact am r hr
    ·rw [List.mem_singleton] at hr
     subst hr
     exact ⟨Int.le_refl _,by show (0:Int) ≤ s.att;omega,fun _=>by show (0:Int) < s.att;omega⟩
 split at h
 ·split at h
  ·cases h
  ·split at h
   ·cases h
   ·rename_i r hr
    split at h
    ·cases h
    ·rename_i hno
     injection h with h;subst h
     have hr2:s.rows[(c.job - 1).toNat]? = some r:=by
      split at hr
      ·exact hr
      ·cases hr
     refine ⟨a1,a8,by simpa using nr,by simpa using np,by simpa using nl,fun l hl=>?_,set_jobs jb fun q hq=>?_,set_am am ?_⟩
     ·rcases List.mem_or_eq_of_mem_set hl with hl|rfl
      ·exact lg l hl
      ·simp
     ·rw [hr2] at hq;injection hq with hq;rw [← hq];rfl
     ·obtain ⟨m1,m2,m3⟩:=am r (List.mem_of_getElem? hr2)
      have hst:r.status = 1:=Classical.not_not.1 fun q=>hno (.inl q)
      have:=m3 hst
      exact ⟨by show 0 ≤ r.att + 1;omega,by show r.att + 1 ≤ s.att;omega,fun q=>by cases q⟩
 split at h
 ·split at h
  ·cases h
  ·rename_i i hi
   split at h
   ·cases h
   ·rename_i hc
    injection h with h;subst h
    refine ⟨a1,a8,nr,np,by simpa using nl,fun l hl=>?_,jb,am⟩
    rcases List.mem_or_eq_of_mem_set hl with hl|rfl
    ·exact lg l hl
    ·rw [List.length_append];omega
 split at h
 ·split at h
  ·cases h
  ·rename_i i hi
   injection h with h;subst h
   have hlt:i < s.rows.length:=by
    unfold heldAt at hi
    rw [List.findIdx?_eq_some_iff_getElem] at hi
    exact hi.1
   have hg:s.rows.getD i ⟨0,0,0,0,0,0,0,0⟩ = s.rows[i]:=getD_of (List.getElem?_eq_getElem hlt)
   refine ⟨a1,a8,by simpa using nr,by simpa using np,by simpa using nl,lg,set_jobs jb (fun q hq=>by rw [getD_of hq];rfl),set_am am ?_⟩
   obtain ⟨m1,m2,m3⟩:=am _ (List.getElem_mem hlt)
   rw [hg]
   refine ⟨m1,m2,fun q=>?_⟩
   have q:(if s.att ≤ (s.rows[i]).att then (4:Int) else 1) = 1:=q
   split at q
   ·cases q
   ·show (s.rows[i]).att < s.att;omega
 ·split at h
  ·cases h
  ·split at h
   ·cases h
   ·rename_i i hi _
    injection h with h;subst h
    have hlt:i < s.rows.length:=by
     unfold heldAt at hi
     rw [List.findIdx?_eq_some_iff_getElem] at hi
     exact hi.1
    have hg:s.rows.getD i ⟨0,0,0,0,0,0,0,0⟩ = s.rows[i]:=getD_of (List.getElem?_eq_getElem hlt)
    refine ⟨a1,a8,by simpa using nr,by simpa using np,by simpa using nl,lg,set_jobs jb (fun q hq=>by rw [getD_of hq];rfl),set_am am ?_⟩
    obtain ⟨m1,m2,m3⟩:=am _ (List.getElem_mem hlt)
    rw [hg]
    exact ⟨m1,m2,fun q=>by cases q⟩
theorem fnok_does (k:Int):FnOk prog (doesN k):=by
 unfold doesN
 (repeat' split) <;> infer_instance
def StepOk (B0:Base) (c:Ch):Prop:=∀ (sb:Nat) (s:StP) (D:List Blk) (a:Option Addr) (k:Nat),StA sb s D → StOk s → SIn B0 a c.txs →
 ConB prog B0 (doesN c.kind) #[ptr sb,.agg (c.row a k).toArray] D fun v A=>v = .bool (stepF s c).isSome ∧ StA sb ((stepF s c).getD s) A
def applyG (s0:StP):StP → Nat → List Ch → (Nat × Int) × StP
 | s,i,[]=>((0,0),s)
 | s,i,c :: l=>if checkF c ≠ 0 then ((i,170),s0) else match stepF s c with
  | none=>((i,170),s0)
  | some s'=>applyG s0 s' (i + 1) l
def applyF (s:StP) (l:List Ch):(Nat × Int) × StP:=applyG s s 0 l
structure ApS where
 i:Nat
 s:StP
 D:List Blk
theorem check_kind {c:Ch} (h:checkF c = 0):1 ≤ c.kind ∧ c.kind ≤ 6:=by
 unfold checkF at h
 split at h
 ·cases h
 ·rename_i hk;exact Classical.not_not.1 hk
theorem apply_spec (B0:Base) (sb:Nat) (s:StP) (D:List Blk) (hD:StA sb s D) (ok:StOk s) (a:Option Addr) (cp:Nat) (l:List Cg) (hC:CIn B0 a l) (hl:l.length ≤ 100000000) (hst:∀ g ∈ l,checkF g.c = 0 → StepOk B0 g.c) :
  ConB prog B0 111 #[ptr sb,.slice a l.length cp] D fun v A=>v = .tuple #[.int .i64 ((applyF s (l.map Cg.c)).1.1:Nat),.int .i64 (applyF s (l.map Cg.c)).1.2] ∧ StA sb (applyF s (l.map Cg.c)).2 A:=by
 have hclone:ConB prog B0 179 #[ptr sb] D fun v X=>∃ A',(∃ s2,v = ptr s2 ∧ StA s2 s A') ∧ X = A' ++ D:=ConB.lend (A1:=[]) fun B1 e hG=>sclone_state B1 sb s (hD.in_ hG) ok
 refine zqJ (vs:=[_,_]) func111 ntmps111 fun B hB=>?_
 refine zg0 ?_
 refine Ops.callB hclone hB rfl (noPd rfl) rfl rfl rfl (fun v A' hR=>?_)
 obtain ⟨D2,⟨s2,rfl,hD2⟩,rfl⟩:=hR
 refine zg1 ?_
 refine Cd.loopK (σ:=ApS) (fun t=>t.i ≤ l.length ∧ StA s2 t.s t.D ∧ StOk t.s ∧ applyF s (l.map Cg.c) = applyG s t.s t.i ((l.map Cg.c).drop t.i)) (fun t=>[(0,ptr sb),(6,ptr s2),(11,.slice a l.length cp),(12,.int .i64 l.length),(13,.int .i64 t.i)]) (fun t=>t.D ++ D) (fun t=>l.length - t.i) ⟨0,s,D2⟩ ⟨Nat.zero_le _,hD2,ok,rfl⟩ ⟨rfl,rfl,rfl,rfl,rfl,trivial⟩ (fun w h=>h.split) (fun t ht=>?_)
 obtain ⟨i,s1,D1⟩:=t
 obtain ⟨hi,hD1,ok1,hap⟩:=ht
 dsimp only at hi hD1 ok1 hap ⊢
 by_cases hil:i < l.length
 ·have hil':(i:Int) < l.length:=by omega
  obtain ⟨g,hg⟩:∃ g,l[i]? = some g:=⟨_,List.getElem?_eq_getElem hil⟩
  have hgm:=List.mem_of_getElem? hg
  have hdr:(l.map Cg.c).drop i = g.c :: (l.map Cg.c).drop (i + 1):=by
   have hg2:(l.map Cg.c)[i]? = some g.c:=by rw [List.getElem?_map,hg];rfl
   obtain ⟨h1,h2⟩:=List.getElem?_eq_some_iff.1 hg2
   rw [← h2];exact List.drop_eq_getElem_cons h1
  rw [hdr,applyG] at hap
  obtain ⟨b,off,hab,hrd⟩:=(hC.r.ext hB) i g.row (by rw [List.getElem?_map,hg];rfl)
  subst hab
  have hrw:∀ A j u,g.row[j]? = some u → Rd B.plain A b (off + (i:Int).toNat * 10 + j) u:=fun A j u hu=>by rw [Int.toNat_natCast];exact hrd A j u hu
  refine zg15 ?_
  refine Ops.ldRN (r:=g.row) rfl rfl rfl rfl (hrw _) rfl ?_
  repeat' (first|refine zs2 ?_|refine Ops.alloc rfl rfl rfl (noPd rfl) (fun b=>?_))
  rename Nat=>gb
  refine zdr [qy 0,(1,2,[]),qz 2,qz 3,qz 4,qy 5,qz 7,qy 8,(6,2,[8]),(9,2,[]),qz 10,qz 11] ?_
  refine zg3 ?_
  refine zqB (rcheck_spec B0 g.c g.a g.k (hC.s g hgm) (hC.n g hgm)) hB fun v A' hR=>?_
  obtain ⟨rfl,rfl⟩:=hR
  by_cases he:checkF g.c = 0
  ·rw [if_neg (not_not_intro he)] at hap
   rw [he]
   refine zg3 ?_
   refine Ops.call (sdoes_spec g.c.kind (check_kind he)) rfl zp1 rfl rfl rfl (fun v A' hR=>?_)
   obtain ⟨rfl,rfl⟩:=hR
   haveI:=fnok_does g.c.kind
   refine Ops.callVB (fi:=[]) (ca:=[]) (vs:=[_,_]) (hst g hgm he s2 s1 D1 g.a g.k hD1 ok1 (hC.s g hgm)) hB rfl (noPd rfl) rfl rfl rfl rfl (fun v A' hR=>?_)
   obtain ⟨rfl,hD3⟩:=hR
   cases hs:stepF s1 g.c with
   | none =>
    rw [hs] at hap
    dsimp only at hap
    rw [hap,show (none:Option StP).isSome = false from rfl]
    refine zg7 ?_
    exact ze52
   | some s3 =>
    rw [hs] at hap hD3
    dsimp only at hap
    rw [show (some s3).isSome = true from rfl]
    refine zg13 ?_
    exact Ops.nilN (round_end (⟨i + 1,s3,A'⟩:ApS) ⟨by show i + 1 ≤ l.length;omega,hD3,stepF_ok ok1 hs,hap⟩ zp15 ⟨rfl,rfl,rfl,rfl,rfl,trivial⟩ (fun w h=>h.split))
  ·rw [if_pos he] at hap
   rw [hap]
   refine zg18 ?_
   exact ze52
 ·have hil':¬ (i:Int) < l.length:=by omega
  have hie:i = l.length:=by omega
  rw [List.drop_of_length_le (by rw [List.length_map];omega),applyG] at hap
  rw [hap]
  obtain ⟨q1,rv1,RG1,pv1,PG1,lv1,LG1,ls1,rfl,x1,x2,x3,x4,x5⟩:=hD1
  obtain ⟨qb,rv,RG,pv,PG,lv,LG,ls,rfl,y1,y2,y3,y4,y5⟩:=hD
  obtain ⟨ra1,rc1,rfl⟩:=x1.form
  obtain ⟨pa1,pc1,rfl⟩:=x2.form
  obtain ⟨la1,lc1,rfl⟩:=Own.form x3
  refine zg8 ?_
  exact Cd.ret (ret2 (A':=StB sb q1 s1.res _ _ :: QuB q1 s1.att _ :: (RG1 ++ (PG1 ++ (LG1 ++ ls1.flatMap Lg.G)))) rfl (Res.tmp rfl) (Res.tmp rfl) (fun _ h=>h.split) ⟨rfl,q1,_,RG1,_,PG1,_,LG1,ls1,rfl,x1,x2,x3,x4,x5⟩)
end Go.Proofs.YtkoelgkghijgiaaGreat
namespace Go.Proofs.YtkoelgkghijgiaaGreat
open Go Go.Sep Go.Proofs
set_option maxRecDepth 10000
theorem step_reserve (B0:Base) (c:Ch) (h:c.kind = 1):StepOk B0 c:=by
 intro sb s D a k hD ok hS
 obtain ⟨qb,rv,RG,pv,PG,lv,LG,ls,rfl,y1,y2,y3,y4,y5⟩:=hD
 rw [show doesN c.kind = 238 from if_pos h]
 have hs:stepF s c = if s.res < c.n then some { s with res:=c.n } else none:=if_pos h
 refine ConB.mono (((reserve_spec sb qb s.res pv lv c a k).beside (F:=QuB qb s.att rv :: (RG ++ (PG ++ (LG ++ ls.flatMap Lg.G))))).toB) (fun v A hR=>?_)
 obtain ⟨A',⟨rfl,rfl⟩,rfl⟩:=hR
 rw [hs]
 by_cases hlt:s.res < c.n
 ·rw [if_pos hlt,if_pos hlt]
  exact ⟨by rw [decide_eq_true hlt];rfl,qb,rv,RG,pv,PG,lv,LG,ls,rfl,y1,y2,y3,y4,y5⟩
 ·rw [if_neg hlt,if_neg hlt]
  exact ⟨by rw [decide_eq_false hlt];rfl,qb,rv,RG,pv,PG,lv,LG,ls,rfl,y1,y2,y3,y4,y5⟩
end Go.Proofs.YtkoelgkghijgiaaGreat
namespace Go.Proofs.YtkoelgkghijgiaaGreat
open Go Go.Sep Go.Proofs Go.Proofs.Tryz
set_option maxRecDepth 10000
set_option maxHeartbeats 40000000
set_option synthInstance.maxSize 2000
theorem qin_spec (a l h:Int):Con prog 307 #[.int .i64 a,.int .i64 l,.int .i64 h] [] fun v A=>v = .bool (decide (l ≤ a ∧ a ≤ h)) ∧ A = []:=by
 refine zqI (vs:=[_,_,_]) func307 ntmps307 fun B=>?_
 by_cases h1:l ≤ a
 ·by_cases h2:a ≤ h
  ·rw [decide_eq_true (⟨h1,h2⟩:l ≤ a ∧ a ≤ h)]
   refine zg7 ?_
   exact ze46
  ·rw [decide_eq_false (fun q:l ≤ a ∧ a ≤ h=>h2 q.2)]
   refine zg7 ?_
   exact ze47
 ·rw [decide_eq_false (fun q:l ≤ a ∧ a ≤ h=>h1 q.1)]
  refine zg11 ?_
  exact ze9
theorem qholder_spec (node life:Int):Con prog 309 #[.agg [.int .i64 node,.int .i64 life].toArray] [] fun v A=>v = .bool (holderOk node life) ∧ A = []:=by
 refine zqI (vs:=[_]) func309 ntmps309 fun B=>?_
 have e:holderOk node life = (decide (2 ≤ node ∧ node ≤ 9) && decide (1 ≤ life ∧ life ≤ 1099511627776)):=by
  unfold holderOk
  rw [Bool.eq_iff_iff];simp [and_assoc]
 rw [e]
 repeat' (first|refine zs0 ?_|refine Ops.box rfl rfl rfl rfl (noPd rfl) (fun b=>?_))
 refine zqA (qin_spec node 2 9) fun v A' hR=>?_
 obtain ⟨rfl,rfl⟩:=hR
 cases decide (2 ≤ node ∧ node ≤ 9) with
 | true =>
  refine zg5 ?_
  refine zqA (qin_spec life 1 1099511627776) fun v A' hR=>?_
  obtain ⟨rfl,rfl⟩:=hR
  refine zg6 ?_
  exact ze9
 | false =>
  refine zg6 ?_
  exact ze9
def resOk (code bits:Int):Bool:=decide (0 ≤ code ∧ code ≤ 7) && (decide (code = 0) || decide (bits = 0))
theorem qresult_spec (code bits:Int):Con prog 311 #[.agg [.int .i64 code,.int .u64 bits].toArray] [] fun v A=>v = .bool (resOk code bits) ∧ A = []:=by
 refine zqI (vs:=[_]) func311 ntmps311 fun B=>?_
 unfold resOk
 repeat' (first|refine zs0 ?_|refine Ops.box rfl rfl rfl rfl (noPd rfl) (fun b=>?_))
 refine zqA (qin_spec code 0 7) fun v A' hR=>?_
 obtain ⟨rfl,rfl⟩:=hR
 cases decide (0 ≤ code ∧ code ≤ 7) with
 | true =>
  by_cases hc:code = 0
  ·refine zg18 ?_
   exact Cd.ret (ret1 (A':=[]) rfl (Res.tmp rfl) (fun _ h=>h.split) ⟨by rw [decide_eq_true hc];rfl,rfl⟩)
  ·refine zg11 ?_
   exact Cd.ret (ret1 (A':=[]) rfl (Res.tmp rfl) (fun _ h=>h.split) ⟨by rw [decide_eq_false hc];rfl,rfl⟩)
 | false =>
  refine zg6 ?_
  exact ze9
def idxF (l:List Rw) (p:Rw → Bool):Int:=match l.findIdx? p with
 | some i=>(i:Int)
 | none=>-1
theorem findIdx_step {l:List Rw} {p:Rw → Bool} {i:Nat} {r:Rw} (h0:∀ (j:Nat) (q:Rw),j < i → l[j]? = some q → p q = false) (hr:l[i]? = some r) (hp:p r = true):l.findIdx? p = some i:=by
 obtain ⟨h1,h2⟩:=List.getElem?_eq_some_iff.1 hr
 rw [List.findIdx?_eq_some_iff_getElem]
 refine ⟨h1,by rw [h2];exact hp,fun j hj=>?_⟩
 have hjl:j < l.length:=by omega
 rw [h0 j l[j] hj (List.getElem?_eq_getElem hjl)]
 simp
theorem findIdx_no {l:List Rw} {p:Rw → Bool} (h0:∀ (j:Nat) (q:Rw),j < l.length → l[j]? = some q → p q = false):l.findIdx? p = none:=by
 rw [List.findIdx?_eq_none_iff]
 intro x hx
 obtain ⟨j,hj,rfl⟩:=List.getElem_of_mem hx
 exact h0 j _ hj (List.getElem?_eq_getElem hj)
theorem idxR_spec (B0:Base) (a:Option Addr) (c:Nat) (l:List Rw) (hR0:RIn 8 B0 a (l.map Rw.row)) (hl:l.length ≤ 2000000) (f:FuncId) (ca:List Value) (C:List Blk) (p:Rw → Bool) [FnOk prog f]
  (hp:∀ r:Rw,Con prog f ([Value.agg r.row.toArray] ++ ca).toArray C fun v A=>v = .bool (p r) ∧ A = C) :
  ConB prog B0 296 #[.slice a l.length c,.func (.func f) #[] ca.toArray] C fun v A=>v = .int .i64 (idxF l p) ∧ A = C:=by
 refine ConB.intro (vs:=[_,_]) func296 rfl ntmps296 rfl (fun B hx=>?_)
 have hS:=hR0.ext hx
 generalize B.plain = B1 at hS ⊢
 clear hx
 refine zg1 ?_
 refine Cd.loopK (fun i:Nat=>i ≤ l.length ∧ ∀ (j:Nat) (q:Rw),j < i → l[j]? = some q → p q = false) (fun i=>[(0,.slice a l.length c),(1,.func (.func f) #[] ca.toArray),(7,.int .i64 l.length),(8,.int .i64 i)])
  (fun _=>C) (fun i=>l.length - i) 0 ⟨Nat.zero_le _,fun j q hj=>(by omega)⟩ ⟨rfl,rfl,rfl,rfl,trivial⟩ (fun w h=>h.split) (fun i hI=>?_)
 obtain ⟨hi,hem⟩:=hI
 by_cases hil:i < l.length
 ·have hil':(i:Int) < l.length:=by omega
  obtain ⟨x,hx⟩:∃ x,l[i]? = some x:=⟨_,List.getElem?_eq_getElem hil⟩
  obtain ⟨b,off,rfl,hrd⟩:=hS i x.row (by rw [List.getElem?_map,hx];rfl)
  have hrw:∀ A j u,x.row[j]? = some u → Rd B1 A b (off + (i:Int).toNat * 8 + j) u:=fun A j u hu=>by rw [Int.toNat_natCast];exact hrd A j u hu
  refine zg15 ?_
  refine Ops.ldRN (r:=x.row) rfl rfl rfl rfl (hrw _) rfl ?_
  refine Ops.callV (fi:=[]) (ca:=ca) (vs:=[.agg x.row.toArray]) (hp x) rfl (noPd rfl) rfl rfl rfl rfl (fun v A' hR=>?_)
  obtain ⟨rfl,e⟩:=hR
  subst A'
  cases hq:p x with
  | true =>
   refine zg6 ?_
   exact Cd.ret (ret1 (A':=C) rfl (Res.tmp rfl) (fun _ h=>h.split) ⟨by rw [idxF,findIdx_step hem hx hq],rfl⟩)
  | false =>
   refine zg13 ?_
   refine Ops.nilN (round_end (i + 1) ⟨by show i + 1 ≤ l.length;omega,fun j q hj hjq=>?_⟩ zp15 ⟨rfl,rfl,rfl,rfl,trivial⟩ (fun w h=>h.split))
   rcases (by omega:j < i ∨ j = i) with h|rfl
   ·exact hem j q h hjq
   ·rw [hx] at hjq;injection hjq with hjq;rw [← hjq];exact hq
 ·obtain rfl:i = l.length:=by omega
  have hil':¬ ((l.length:Nat):Int) < l.length:=by omega
  refine zg2 ?_
  exact Cd.ret (ret1 (A':=C) rfl (Res.tmp rfl) (fun _ h=>h.split) ⟨by rw [idxF,findIdx_no hem],rfl⟩)
theorem first_spec (B0:Base) (a:Option Addr) (c:Nat) (l:List Rw) (hR0:RIn 8 B0 a (l.map Rw.row)) (hl:l.length ≤ 2000000) (f:FuncId) (ca:List Value) (C:List Blk) (p:Rw → Bool) [FnOk prog f]
  (hp:∀ r:Rw,Con prog f ([Value.agg r.row.toArray] ++ ca).toArray C fun v A=>v = .bool (p r) ∧ A = C) :
  ConB prog B0 260 #[.slice a l.length c,.func (.func f) #[] ca.toArray] C fun v A=>v = .int .i64 (idxF l p) ∧ A = C:=by
 refine zqJ (vs:=[_,_]) func260 ntmps260 fun B hB=>?_
 refine zg0 ?_
 refine zqB (idxR_spec B0 a c l hR0 hl f ca C p hp) hB fun v A' hR=>?_
 obtain ⟨rfl,e⟩:=hR
 subst A'
 refine zg0 ?_
 exact Cd.ret (ret1 (A':=C) rfl (Res.tmp rfl) (fun _ h=>h.split) ⟨rfl,rfl⟩)
theorem first_own (B0:Base) (a:Option Addr) (c:Nat) (l:List Rw) (RG:List Blk) (hO:OwnQ (.slice a l.length c) l RG) (hl:l.length ≤ 2000000) (f:FuncId) (ca:List Value) (C:List Blk) (p:Rw → Bool) [FnOk prog f]
  (hp:∀ r:Rw,Con prog f ([Value.agg r.row.toArray] ++ ca).toArray C fun v A=>v = .bool (p r) ∧ A = C) :
  ConB prog B0 260 #[.slice a l.length c,.func (.func f) #[] ca.toArray] (C ++ RG) fun v A=>v = .int .i64 (idxF l p) ∧ A = C ++ RG :=
 (ConB.lend (A1:=C) fun B1 e hG=>first_spec B1 a c l (Own.rin hO hG) hl f ca C p hp).mono fun v A hR=>by
  obtain ⟨A',⟨rfl,rfl⟩,rfl⟩:=hR
  exact ⟨rfl,rfl⟩
theorem held1_spec (xb:Nat) (badge:Int) (r:Rw):Con prog 321 ([Value.agg r.row.toArray] ++ [ptr xb]).toArray [(xb,cl [.int .i64 badge] 3)] fun v A=>v = .bool (decide (r.status = 2 ∧ r.badge = badge)) ∧ A = [(xb,cl [.int .i64 badge] 3)]:=by
 refine zqI (vs:=[_,_]) func321 ntmps321 fun B=>?_
 by_cases h1:r.status = 2
 ·repeat' (first|refine Cd.seq ?_|refine Cd.reg ?_|refine Ops.nil ?_|refine Ops.mv rfl rfl rfl rfl ?_|refine Ops.asg rfl rfl rfl rfl ?_|refine Ops.fa0 rfl rfl rfl rfl ?_|refine Ops.ld1 rfl rfl rfl rfl rfl ?_|refine Ops.bin rfl rfl rfl rfl rfl ?_|refine Ops.pickT rfl rfl rfl rfl rfl ?_|refine Ops.box rfl rfl rfl rfl (noPd rfl) (fun b=>?_)|((fail_if_success refine Ops.probe rfl ?_);refine Ops.gT rfl rfl zp0 ?_))
  exact ze62
 ·repeat' (first|refine Cd.seq ?_|refine Cd.reg ?_|refine Ops.nil ?_|refine Ops.mv rfl rfl rfl rfl ?_|refine Ops.asg rfl rfl rfl rfl ?_|refine Ops.fa0 rfl rfl rfl rfl ?_|refine Ops.ld1 rfl rfl rfl rfl rfl ?_|refine Ops.bin rfl rfl rfl rfl rfl ?_|refine Ops.pickF rfl rfl rfl rfl rfl ?_|refine Ops.box rfl rfl rfl rfl (noPd rfl) (fun b=>?_)|refine Ops.gSkip rfl rfl rfl ?_|((fail_if_success refine Ops.probe rfl ?_);refine Ops.gF rfl rfl zp0 ?_))
  exact ze62
theorem rset {rows:List Rw} {i:Nat} {q:Rw}:(rows.map Rw.row).set i q.row = (rows.set i q).map Rw.row:=List.map_set.symm
theorem rset2 {rows:List Rw} {i:Nat} {q q2:Rw}:((rows.set i q).map Rw.row).set i q2.row = (rows.set i q2).map Rw.row:=by rw [rset,List.set_set]
theorem rget {rows:List Rw} {i:Nat} {q:Rw} (h:rows[i]? = some q):(rows.map Rw.row)[i]? = some q.row:=by rw [List.getElem?_map,h];rfl
theorem rget_set {rows:List Rw} {i:Nat} {q:Rw} (h:i < rows.length):((rows.set i q).map Rw.row)[i]? = some q.row:=rget (List.getElem?_set_self h)
theorem idx_held (rows:List Rw) (badge:Int):idxF rows (fun r=>decide (r.status = 2 ∧ r.badge = badge)) = match heldAt rows badge with|some i=>(i:Int)|none=>-1:=rfl
theorem held_none (B0:Base) (qb:Nat) (att:Int) (a:Option Addr) (c:Nat) (rows:List Rw) (RG:List Blk) (hO:OwnQ (.slice a rows.length c) rows RG) (hl:rows.length ≤ 8) (badge:Int) (hn:heldAt rows badge = none) :
  ConB prog B0 310 #[ptr qb,.int .i64 badge] (QuB qb att (.slice a rows.length c) :: RG) fun v A=>v = .pointer none ∧ A = QuB qb att (.slice a rows.length c) :: RG:=by
 refine zqJ (vs:=[_,_]) func310 ntmps310 fun B hB=>?_
 repeat' (first|refine zs0 ?_|refine Ops.box rfl rfl rfl rfl (noPd rfl) (fun b=>?_))
 rename Nat=>xb
 refine Ops.callB (first_own B0 a c rows RG hO (by omega) 321 [ptr xb] [(xb,cl [.int .i64 badge] 3)] _ (fun r=>held1_spec xb badge r)) hB rfl (noPd rfl) rfl rfl rfl (fun v A' hR=>?_)
 obtain ⟨rfl,e⟩:=hR
 subst A'
 rw [idx_held,hn]
 refine zg6 ?_
 exact ze63
theorem held_lt {rows:List Rw} {badge:Int} {i:Nat} (h:heldAt rows badge = some i):i < rows.length:=by
 unfold heldAt at h
 rw [List.findIdx?_eq_some_iff_getElem] at h
 exact h.1
theorem held_some (B0:Base) (qb:Nat) (att:Int) (g c:Nat) (sp:List Value) (rows:List Rw) (hO:OwnQ (.slice (some ⟨g,0,none⟩) rows.length c) rows [(g,cl ((rows.map Rw.row).flatten ++ sp) 62)]) (hl:rows.length ≤ 8) (badge:Int) (i:Nat) (hn:heldAt rows badge = some i) :
  ConB prog B0 310 #[ptr qb,.int .i64 badge] [QuB qb att (.slice (some ⟨g,0,none⟩) rows.length c),(g,cl ((rows.map Rw.row).flatten ++ sp) 62)] fun v A=>v = .pointer (some ⟨g,i * 8,none⟩) ∧ A = [QuB qb att (.slice (some ⟨g,0,none⟩) rows.length c),(g,cl ((rows.map Rw.row).flatten ++ sp) 62)]:=by
 have hi:=held_lt hn
 refine zqJ (vs:=[_,_]) func310 ntmps310 fun B hB=>?_
 repeat' (first|refine zs0 ?_|refine Ops.box rfl rfl rfl rfl (noPd rfl) (fun b=>?_))
 rename Nat=>xb
 refine Ops.callB (first_own B0 (some ⟨g,0,none⟩) c rows _ hO (by omega) 321 [ptr xb] [(xb,cl [.int .i64 badge] 3)] _ (fun r=>held1_spec xb badge r)) hB rfl (noPd rfl) rfl rfl rfl (fun v A' hR=>?_)
 obtain ⟨rfl,e⟩:=hR
 subst A'
 rw [idx_held,hn]
 dsimp only
 refine zg17 ?_
 exact Cd.ret (ret1 (A':=[QuB qb att (.slice (some ⟨g,0,none⟩) rows.length c),(g,cl ((rows.map Rw.row).flatten ++ sp) 62)]) rfl (Res.tmp rfl) (fun _ h=>h.split) ⟨rfl,rfl⟩)
theorem expire_none (B0:Base) (qb:Nat) (att:Int) (a:Option Addr) (c:Nat) (rows:List Rw) (RG:List Blk) (hO:OwnQ (.slice a rows.length c) rows RG) (hl:rows.length ≤ 8) (badge:Int) (hn:heldAt rows badge = none) :
  ConB prog B0 285 #[ptr qb,.int .i64 badge] (QuB qb att (.slice a rows.length c) :: RG) fun v A=>v = .tuple #[.int .i64 0,.int .i64 113] ∧ A = QuB qb att (.slice a rows.length c) :: RG:=by
 refine zqJ (vs:=[_,_]) func285 ntmps285 fun B hB=>?_
 refine zg0 ?_
 refine zqB (held_none B0 qb att a c rows RG hO hl badge hn) hB fun v A' hR=>?_
 obtain ⟨rfl,rfl⟩:=hR
 refine zg6 ?_
 exact ze64
theorem expire_some (B0:Base) (qb:Nat) (att:Int) (g c:Nat) (sp:List Value) (rows:List Rw) (hO:OwnQ (.slice (some ⟨g,0,none⟩) rows.length c) rows [(g,cl ((rows.map Rw.row).flatten ++ sp) 62)]) (hl:rows.length ≤ 8) (badge:Int) (i:Nat) (r:Rw) (hn:heldAt rows badge = some i) (hr:rows[i]? = some r) :
  ConB prog B0 285 #[ptr qb,.int .i64 badge] [QuB qb att (.slice (some ⟨g,0,none⟩) rows.length c),(g,cl ((rows.map Rw.row).flatten ++ sp) 62)] fun v A=>v = .tuple #[.int .i64 r.job,.int .i64 0] ∧ A = [QuB qb att (.slice (some ⟨g,0,none⟩) rows.length c),(g,cl (((rows.set i (r.free att)).map Rw.row).flatten ++ sp) 62)]:=by
 have hi:=held_lt hn
 obtain ⟨job,st,at_,bd,nd,lf,rc,rx⟩:=r
 refine zqJ (vs:=[_,_]) func285 ntmps285 fun B hB=>?_
 refine zg0 ?_
 refine zqB (held_some B0 qb att g c sp rows hO hl badge i hn) hB fun v A' hR=>?_
 obtain ⟨rfl,rfl⟩:=hR
 refine zg17 ?_
 refine Ops.stRow1 (i:=i) (o:=1) rfl rfl rfl rfl rfl (rws_ok rows) (rget hr) rfl (noPd rfl) ?_
 rw [show (rows.map Rw.row).set i ((⟨job,st,at_,bd,nd,lf,rc,rx⟩:Rw).row.set 1 (.int .i64 1)) = (rows.set i ⟨job,1,at_,bd,nd,lf,rc,rx⟩).map Rw.row from rset (q:=⟨job,1,at_,bd,nd,lf,rc,rx⟩)]
 refine zg5 ?_
 refine Ops.stRowN (i:=i) (o:=4) rfl rfl rfl rfl rfl rfl (rws_ok _) (rget_set hi) (noPd rfl) ?_
 rw [show ((rows.set i ⟨job,1,at_,bd,nd,lf,rc,rx⟩).map Rw.row).set i (⟨job,1,at_,bd,0,0,rc,rx⟩:Rw).row = (rows.set i ⟨job,1,at_,bd,0,0,rc,rx⟩).map Rw.row from rset2]
 generalize hc5:Code.seq (Code.seq (Code.region 5 _ _) _) _ = c5
 refine zg0 ?_
 subst hc5
 refine Cd.cut (σ:=Unit) (fun _=>True) (fun _=>[(6,.pointer (some ⟨g,i * 8,none⟩))]) (fun _=>[QuB qb att (.slice (some ⟨g,0,none⟩) rows.length c),(g,cl (((rows.set i ((⟨job,st,at_,bd,nd,lf,rc,rx⟩:Rw).free att)).map Rw.row).flatten ++ sp) 62)]) ?_ (fun _ _=>?_)
 ·refine zg0 ?_
  refine zdr [qz 0,qz 1,qz 2,qy 3,qz 4,qz 5,qz 6,qy 7,qz 8] ?_
  refine zg1 ?_
  refine Ops.ldRow1 (i:=i) (o:=2) rfl rfl rfl (rws_ok _) (rget_set hi) rfl rfl ?_
  by_cases hle:att ≤ at_
  ·refine zg15 ?_
   refine Ops.stRow1 (i:=i) (o:=1) rfl rfl rfl rfl rfl (rws_ok _) (rget_set hi) rfl (noPd rfl) ?_
   rw [show ((rows.set i ⟨job,1,at_,bd,0,0,rc,rx⟩).map Rw.row).set i ((⟨job,1,at_,bd,0,0,rc,rx⟩:Rw).row.set 1 (.int .i64 4)) = (rows.set i ⟨job,4,at_,bd,0,0,rc,rx⟩).map Rw.row from rset2 (q2:=⟨job,4,at_,bd,0,0,rc,rx⟩)]
   rw [show (⟨job,st,at_,bd,nd,lf,rc,rx⟩:Rw).free att = ⟨job,4,at_,bd,0,0,rc,rx⟩ from by unfold Rw.free;rw [if_pos hle]]
   exact Ops.nilN (meet_end (Q:=fun _ _ _=>True) () trivial ⟨rfl,trivial⟩ (fun w h=>h.split))
  ·rw [show (⟨job,st,at_,bd,nd,lf,rc,rx⟩:Rw).free att = ⟨job,1,at_,bd,0,0,rc,rx⟩ from by unfold Rw.free;rw [if_neg hle]]
   refine zg13 ?_
   exact Cd.skip (meet_end (Q:=fun _ _ _=>True) () trivial ⟨rfl,trivial⟩ (fun w h=>h.split))
 refine zg1 ?_
 refine Ops.ldRow1 (i:=i) (o:=0) rfl rfl rfl (rws_ok _) (rget_set hi) rfl rfl ?_
 refine zg0 ?_
 exact Cd.ret (ret2 (A':=[QuB qb att (.slice (some ⟨g,0,none⟩) rows.length c),(g,cl (((rows.set i ((⟨job,st,at_,bd,nd,lf,rc,rx⟩:Rw).free att)).map Rw.row).flatten ++ sp) 62)]) rfl (Res.tmp rfl) (Res.tmp rfl) (fun _ h=>h.split) ⟨rfl,rfl⟩)
theorem settle_none (B0:Base) (qb:Nat) (att:Int) (a:Option Addr) (c:Nat) (rows:List Rw) (RG:List Blk) (hO:OwnQ (.slice a rows.length c) rows RG) (hl:rows.length ≤ 8) (badge code bits:Int) (hn:heldAt rows badge = none) :
  ConB prog B0 286 #[ptr qb,.int .i64 badge,.agg [.int .i64 code,.int .u64 bits].toArray] (QuB qb att (.slice a rows.length c) :: RG) fun v A=>v = .tuple #[.int .i64 0,.int .i64 113] ∧ A = QuB qb att (.slice a rows.length c) :: RG:=by
 refine zqJ (vs:=[_,_,_]) func286 ntmps286 fun B hB=>?_
 repeat' (first|refine zs1 ?_|refine Ops.box rfl rfl rfl rfl (noPd rfl) (fun b=>?_))
 refine zqB (held_none B0 qb att a c rows RG hO hl badge hn) hB fun v A' hR=>?_
 obtain ⟨rfl,rfl⟩:=hR
 refine zg6 ?_
 exact ze64
theorem settle_bad (B0:Base) (qb:Nat) (att:Int) (g c:Nat) (sp:List Value) (rows:List Rw) (hO:OwnQ (.slice (some ⟨g,0,none⟩) rows.length c) rows [(g,cl ((rows.map Rw.row).flatten ++ sp) 62)]) (hl:rows.length ≤ 8) (badge code bits:Int) (i:Nat) (hn:heldAt rows badge = some i) (hb:resOk code bits = false) :
  ConB prog B0 286 #[ptr qb,.int .i64 badge,.agg [.int .i64 code,.int .u64 bits].toArray] [QuB qb att (.slice (some ⟨g,0,none⟩) rows.length c),(g,cl ((rows.map Rw.row).flatten ++ sp) 62)] fun v A=>v = .tuple #[.int .i64 0,.int .i64 1] ∧ A = [QuB qb att (.slice (some ⟨g,0,none⟩) rows.length c),(g,cl ((rows.map Rw.row).flatten ++ sp) 62)]:=by
 refine zqJ (vs:=[_,_,_]) func286 ntmps286 fun B hB=>?_
 repeat' (first|refine zs1 ?_|refine Ops.box rfl rfl rfl rfl (noPd rfl) (fun b=>?_))
 refine zqB (held_some B0 qb att g c sp rows hO hl badge i hn) hB fun v A' hR=>?_
 obtain ⟨rfl,rfl⟩:=hR
 refine zg4 ?_
 refine zqA (qresult_spec code bits) fun v A' hR=>?_
 obtain ⟨rfl,rfl⟩:=hR
 rw [hb]
 refine zg6 ?_
 exact Cd.ret (ret2 (A':=[QuB qb att (.slice (some ⟨g,0,none⟩) rows.length c),(g,cl ((rows.map Rw.row).flatten ++ sp) 62)]) rfl (Res.tmp rfl) (Res.tmp rfl) (fun _ h=>h.split) ⟨rfl,rfl⟩)
theorem settle_some (B0:Base) (qb:Nat) (att:Int) (g c:Nat) (sp:List Value) (rows:List Rw) (hO:OwnQ (.slice (some ⟨g,0,none⟩) rows.length c) rows [(g,cl ((rows.map Rw.row).flatten ++ sp) 62)]) (hl:rows.length ≤ 8) (badge code bits:Int) (i:Nat) (r:Rw) (hn:heldAt rows badge = some i) (hr:rows[i]? = some r) (hb:resOk code bits = true) :
  ConB prog B0 286 #[ptr qb,.int .i64 badge,.agg [.int .i64 code,.int .u64 bits].toArray] [QuB qb att (.slice (some ⟨g,0,none⟩) rows.length c),(g,cl ((rows.map Rw.row).flatten ++ sp) 62)] fun v A=>v = .tuple #[.int .i64 r.job,.int .i64 0] ∧ A = [QuB qb att (.slice (some ⟨g,0,none⟩) rows.length c),(g,cl (((rows.set i (r.done code bits)).map Rw.row).flatten ++ sp) 62)]:=by
 have hi:=held_lt hn
 obtain ⟨job,st,at_,bd,nd,lf,rc,rx⟩:=r
 refine zqJ (vs:=[_,_,_]) func286 ntmps286 fun B hB=>?_
 repeat' (first|refine zs1 ?_|refine Ops.box rfl rfl rfl rfl (noPd rfl) (fun b=>?_))
 rename Nat=>xb
 refine zqB (held_some B0 qb att g c sp rows hO hl badge i hn) hB fun v A' hR=>?_
 obtain ⟨rfl,rfl⟩:=hR
 refine zg4 ?_
 refine zqA (qresult_spec code bits) fun v A' hR=>?_
 obtain ⟨rfl,rfl⟩:=hR
 rw [hb]
 refine zg4 ?_
 refine zdr [qz 0,qz 1,qz 2,qz 3,qy 4,qz 5,qz 6,(7,2,[4]),qz 8,qz 9,(10,2,[4]),qz 11,qz 12,(13,2,[])] ?_
 refine zg3 ?_
 refine Ops.stRow1 (i:=i) (o:=1) rfl rfl rfl rfl rfl (rws_ok rows) (rget hr) rfl zp4 ?_
 rw [show (rows.map Rw.row).set i ((⟨job,st,at_,bd,nd,lf,rc,rx⟩:Rw).row.set 1 (.int .i64 3)) = (rows.set i ⟨job,3,at_,bd,nd,lf,rc,rx⟩).map Rw.row from rset (q:=⟨job,3,at_,bd,nd,lf,rc,rx⟩)]
 refine zg5 ?_
 refine Ops.stRowN (i:=i) (o:=4) rfl rfl rfl rfl rfl rfl (rws_ok _) (rget_set hi) zp4 ?_
 rw [show ((rows.set i ⟨job,3,at_,bd,nd,lf,rc,rx⟩).map Rw.row).set i (⟨job,3,at_,bd,0,0,rc,rx⟩:Rw).row = (rows.set i ⟨job,3,at_,bd,0,0,rc,rx⟩).map Rw.row from rset2]
 refine zg5 ?_
 refine Ops.stRowN (i:=i) (o:=6) rfl rfl rfl rfl rfl rfl (rws_ok _) (rget_set hi) (noPd rfl) ?_
 rw [show ((rows.set i ⟨job,3,at_,bd,0,0,rc,rx⟩).map Rw.row).set i (⟨job,3,at_,bd,0,0,code,bits⟩:Rw).row = (rows.set i ⟨job,3,at_,bd,0,0,code,bits⟩).map Rw.row from rset2]
 refine zg1 ?_
 refine Ops.ldRow1 (i:=i) (o:=0) rfl rfl rfl (rws_ok _) (rget_set hi) rfl rfl ?_
 refine zg0 ?_
 exact Cd.ret (ret2 (A':=[QuB qb att (.slice (some ⟨g,0,none⟩) rows.length c),(g,cl (((rows.set i ⟨job,3,at_,bd,0,0,code,bits⟩).map Rw.row).flatten ++ sp) 62)]) rfl (Res.tmp rfl) (Res.tmp rfl) (fun _ h=>h.split) ⟨rfl,rfl⟩)
theorem qsubmit_full (qb:Nat) (att:Int) (a:Option Addr) (c n:Nat) (hl:8 ≤ n) :
  Con prog 283 #[ptr qb] [QuB qb att (.slice a n c)] fun v A=>v = .tuple #[.int .i64 0,.int .i64 110] ∧ A = [QuB qb att (.slice a n c)]:=by
 have hl':(8:Int) ≤ (n:Int):=by omega
 refine zqI (vs:=[_]) func283 ntmps283 fun B=>?_
 refine zg15 ?_
 exact Cd.ret (ret2 (A':=[QuB qb att (.slice a n c)]) rfl (Res.tmp rfl) (Res.tmp rfl) (fun _ h=>h.split) ⟨rfl,rfl⟩)
theorem qsubmit_spec (qb:Nat) (att:Int) (a:Option Addr) (c:Nat) (rows:List Rw) (RG:List Blk) (hO:OwnQ (.slice a rows.length c) rows RG) (hl:rows.length < 8) :
  Con prog 283 #[ptr qb] (QuB qb att (.slice a rows.length c) :: RG) fun v A=>v = .tuple #[.int .i64 ((rows.length:Int) + 1),.int .i64 0] ∧ ∃ rv RG1,A = QuB qb att rv :: RG1 ∧ OwnQ rv (rows ++ [⟨(rows.length:Int) + 1,1,0,0,0,0,0,0⟩]) RG1:=by
 have hl':¬ (8:Int) ≤ (rows.length:Int):=by omega
 refine zqI (vs:=[_]) func283 ntmps283 fun B=>?_
 repeat' (first|refine zs7 ?_|refine Ops.bs1 rfl rfl rfl rfl rfl rfl rfl (noPd rfl) (fun b=>?_))
 refine Ops.app1 (rows:=rows.map Rw.row) hO (by simp;omega) (by simp;omega) rfl rfl rfl rfl (by rfl) (by rfl) rfl (noPd rfl) rfl (fun v G' hG'=>?_)
 have hG2:OwnQ v (rows ++ [⟨(rows.length:Int) + 1,1,0,0,0,0,0,0⟩]) G':=by
  unfold OwnQ
  rw [List.map_append]
  exact hG'
 obtain ⟨a1,c1,rfl⟩:=hG2.form
 refine zg1 ?_
 exact Cd.ret (ret2 (A':=QuB qb att (.slice a1 (rows ++ [(⟨(rows.length:Int) + 1,1,0,0,0,0,0,0⟩:Rw)]).length c1) :: G') rfl (Res.tmp rfl) (Res.tmp rfl) (fun _ h=>h.split) ⟨rfl,_,G',rfl,hG2⟩)
theorem grant1_spec (xb:Nat) (badge:Int) (r:Rw):Con prog 308 ([Value.agg r.row.toArray] ++ [ptr xb]).toArray [(xb,cl [.int .i64 badge] 3)] fun v A=>v = .bool (decide (badge ≤ r.badge)) ∧ A = [(xb,cl [.int .i64 badge] 3)]:=by
 refine zqI (vs:=[_,_]) func308 ntmps308 fun B=>?_
 repeat' (first|refine zs2 ?_|refine Ops.box rfl rfl rfl rfl (noPd rfl) (fun b=>?_))
 exact Cd.ret (ret1 (A':=[(xb,cl [.int .i64 badge] 3)]) rfl (Res.tmp rfl) (fun _ h=>h.split) ⟨rfl,rfl⟩)
theorem find1_spec (xb:Nat) (badge:Int) (r:Rw):Con prog 297 ([Value.agg r.row.toArray] ++ [ptr xb]).toArray [(xb,cl [.int .i64 badge] 3)] fun v A=>v = .bool (decide (r.badge = badge ∧ 0 < badge)) ∧ A = [(xb,cl [.int .i64 badge] 3)]:=by
 refine zqI (vs:=[_,_]) func297 ntmps297 fun B=>?_
 by_cases h1:r.badge = badge
 ·repeat' (first|refine Cd.seq ?_|refine Cd.reg ?_|refine Ops.nil ?_|refine Ops.mv rfl rfl rfl rfl ?_|refine Ops.asg rfl rfl rfl rfl ?_|refine Ops.fa0 rfl rfl rfl rfl ?_|refine Ops.ld1 rfl rfl rfl rfl rfl ?_|refine Ops.bin rfl rfl rfl rfl rfl ?_|refine Ops.pickT rfl rfl rfl rfl rfl ?_|refine Ops.box rfl rfl rfl rfl (noPd rfl) (fun b=>?_)|((fail_if_success refine Ops.probe rfl ?_);refine Ops.gT rfl rfl zp0 ?_))
  exact ze62
 ·repeat' (first|refine Cd.seq ?_|refine Cd.reg ?_|refine Ops.nil ?_|refine Ops.mv rfl rfl rfl rfl ?_|refine Ops.asg rfl rfl rfl rfl ?_|refine Ops.fa0 rfl rfl rfl rfl ?_|refine Ops.ld1 rfl rfl rfl rfl rfl ?_|refine Ops.bin rfl rfl rfl rfl rfl ?_|refine Ops.pickF rfl rfl rfl rfl rfl ?_|refine Ops.box rfl rfl rfl rfl (noPd rfl) (fun b=>?_)|refine Ops.gSkip rfl rfl rfl ?_|((fail_if_success refine Ops.probe rfl ?_);refine Ops.gF rfl rfl zp0 ?_))
  exact ze62
theorem head1_spec (r:Rw):Con prog 261 ([Value.agg r.row.toArray] ++ []).toArray [] fun v A=>v = .bool (decide (r.status = 1)) ∧ A = []:=by
 refine zqI (vs:=[_]) func261 ntmps261 fun B=>?_
 repeat' (first|refine zs2 ?_|refine Ops.box rfl rfl rfl rfl (noPd rfl) (fun b=>?_))
 exact ze9
def headF18 (rows:List Rw):Int:=idxF rows (fun r=>decide (r.status = 1)) + 1
theorem idxF_le (rows:List Rw) (p:Rw → Bool):-1 ≤ idxF rows p ∧ idxF rows p < rows.length:=by
 unfold idxF
 split
 ·rename_i i h
  rw [List.findIdx?_eq_some_iff_getElem] at h
  have:=h.1
  omega
 ·omega
theorem qhead_spec (B0:Base) (qb:Nat) (att:Int) (a:Option Addr) (c:Nat) (rows:List Rw) (RG:List Blk) (hO:OwnQ (.slice a rows.length c) rows RG) (hl:rows.length ≤ 8) :
  ConB prog B0 218 #[ptr qb] (QuB qb att (.slice a rows.length c) :: RG) fun v A=>v = .int .i64 (headF18 rows) ∧ A = QuB qb att (.slice a rows.length c) :: RG:=by
 have hle:=idxF_le rows (fun r=>decide (r.status = 1))
 refine zqJ (vs:=[_]) func218 ntmps218 fun B hB=>?_
 have hf:=first_own B0 a c rows RG hO (by omega) 261 [] [] _ (fun r=>head1_spec r)
 simp only [List.nil_append] at hf
 refine zg1 ?_
 refine Ops.callB hf hB rfl (noPd rfl) rfl rfl rfl (fun v A' hR=>?_)
 obtain ⟨rfl,e⟩:=hR
 subst A'
 refine zg9 ?_
 exact ze63
@[reducible] def Rw.zero:Rw:=⟨0,0,0,0,0,0,0,0⟩
theorem qrow_no (B0:Base) (qb:Nat) (att:Int) (a:Option Addr) (c n:Nat) (job:Int) (hl:n ≤ 8) (hj:¬ (1 ≤ job ∧ job ≤ n)) (hQ:Holds B0 [QuB qb att (.slice a n c)]) :
  ConB prog B0 298 #[ptr qb,.int .i64 job] [] fun v A=>v = .tuple #[.agg Rw.zero.row.toArray,.bool false] ∧ A = []:=by
 refine zqJ (vs:=[_,_]) func298 ntmps298 fun B hB=>?_
 have hQ:=hB.holds hQ
 have hc1:∀ A,Rd B.plain A qb 1 (.slice a n c):=hQ.cell (List.mem_singleton.2 rfl) rfl
 repeat' (first|refine zs0 ?_|refine Ops.alloc rfl rfl rfl (noPd rfl) (fun b=>?_))
 refine Ops.ldR rfl rfl rfl (hc1 _) rfl ?_
 refine zg3 ?_
 refine zqA (qin_spec job 1 n) fun v A' hR=>?_
 obtain ⟨rfl,rfl⟩:=hR
 rw [decide_eq_false hj]
 refine zg7 ?_
 exact ze24
theorem qrow_yes (B0:Base) (qb:Nat) (att:Int) (a:Option Addr) (c:Nat) (rows:List Rw) (job:Int) (hl:rows.length ≤ 8) (hj:1 ≤ job ∧ job ≤ rows.length) (r:Rw) (hr:rows[(job - 1).toNat]? = some r) (hQ:Holds B0 [QuB qb att (.slice a rows.length c)]) (hR0:RIn 8 B0 a (rows.map Rw.row)) :
  ConB prog B0 298 #[ptr qb,.int .i64 job] [] fun v A=>v = .tuple #[.agg r.row.toArray,.bool true] ∧ A = []:=by
 refine zqJ (vs:=[_,_]) func298 ntmps298 fun B hB=>?_
 have hQ:=hB.holds hQ
 have hc1:∀ A,Rd B.plain A qb 1 (.slice a rows.length c):=hQ.cell (List.mem_singleton.2 rfl) rfl
 obtain ⟨g,off,rfl,hrd⟩:=(hR0.ext hB) _ r.row (rget hr)
 repeat' (first|refine zs0 ?_|refine Ops.alloc rfl rfl rfl (noPd rfl) (fun b=>?_))
 refine Ops.ldR rfl rfl rfl (hc1 _) rfl ?_
 refine zg3 ?_
 refine zqA (qin_spec job 1 rows.length) fun v A' hR=>?_
 obtain ⟨rfl,rfl⟩:=hR
 rw [decide_eq_true hj]
 refine zg17 ?_
 refine Ops.ldR rfl rfl rfl (hc1 _) rfl ?_
 refine zg16 ?_
 refine Ops.ldRN (r:=r.row) rfl rfl rfl rfl (hrd _) rfl ?_
 refine zg1 ?_
 exact ze24
theorem lastAt_lt {rows:List Rw} {badge:Int} {i:Nat} (h:lastAt rows badge = some i):i < rows.length:=by
 unfold lastAt at h
 rw [List.findIdx?_eq_some_iff_getElem] at h
 exact h.1
def findF18 (rows:List Rw) (badge:Int):Option Rw:=(lastAt rows badge).bind fun i=>rows[i]?
theorem qfind_spec (B0:Base) (qb:Nat) (att:Int) (a:Option Addr) (c:Nat) (rows:List Rw) (badge:Int) (hl:rows.length ≤ 8) (hQ0:Holds B0 [QuB qb att (.slice a rows.length c)]) (hR0:RIn 8 B0 a (rows.map Rw.row)) :
  ConB prog B0 262 #[ptr qb,.int .i64 badge] [] fun v A=>v = .tuple #[.agg ((findF18 rows badge).getD Rw.zero).row.toArray,.bool (findF18 rows badge).isSome] ∧ A = []:=by
 refine zqJ (vs:=[_,_]) func262 ntmps262 fun B hB=>?_
 have hQ:=hB.holds hQ0
 have hc1:∀ A,Rd B.plain A qb 1 (.slice a rows.length c):=hQ.cell (List.mem_singleton.2 rfl) rfl
 repeat' (first|refine zs0 ?_|refine Ops.box rfl rfl rfl rfl (noPd rfl) (fun b=>?_)|refine Ops.alloc rfl rfl rfl (noPd rfl) (fun b=>?_))
 rename_i xb
 rename Nat=>rb
 refine Ops.ldR rfl rfl rfl (hc1 _) rfl ?_
 refine zg3 ?_
 refine Ops.callB (first_spec B0 a c rows hR0 (by omega) 297 [ptr xb] [(xb,cl [.int .i64 badge] 3)] _ (fun r=>find1_spec xb badge r)) hB rfl (noPd rfl) rfl rfl rfl (fun v A' hR=>?_)
 obtain ⟨rfl,e⟩:=hR
 subst A'
 have hix:idxF rows (fun r=>decide (r.badge = badge ∧ 0 < badge)) = match lastAt rows badge with|some i=>(i:Int)|none=>-1:=rfl
 have hle:=idxF_le rows (fun r=>decide (r.badge = badge ∧ 0 < badge))
 rw [hix] at hle ⊢
 unfold findF18
 cases hla:lastAt rows badge with
 | none =>
  dsimp only [Option.bind_none,Option.getD_none,Option.isSome_none]
  refine zg9 ?_
  refine zqB (qrow_no B0 qb att a c rows.length (-1 + 1) hl (by omega) hQ0) hB fun v A' hR=>?_
  obtain ⟨rfl,rfl⟩:=hR
  refine zg1 ?_
  exact ze24
 | some i =>
  have hi:=lastAt_lt hla
  obtain ⟨r,hr⟩:∃ r,rows[i]? = some r:=⟨_,List.getElem?_eq_getElem hi⟩
  have hi0:(0:Int) ≤ (i:Int):=Int.natCast_nonneg i
  have hi1:(i:Int) < (rows.length:Int):=by omega
  clear hle
  dsimp only [Option.bind_some]
  rw [hr]
  dsimp only [Option.getD_some,Option.isSome_some]
  refine zg9 ?_
  refine zqB (qrow_yes B0 qb att a c rows ((i:Int) + 1) hl ⟨(by omega:(1:Int) ≤ (i:Int) + 1),(by omega:(i:Int) + 1 ≤ (rows.length:Int))⟩ r (by rw [show ((i:Int) + 1 - 1).toNat = i from by omega];exact hr) hQ0 hR0) hB fun v A' hR=>?_
  obtain ⟨rfl,rfl⟩:=hR
  refine zg1 ?_
  exact ze24
theorem idxF_any {rows:List Rw} {p:Rw → Bool}:(rows.any p = true → 0 ≤ idxF rows p) ∧ (rows.any p = false → idxF rows p = -1):=by
 unfold idxF
 constructor
 ·intro h
  split
  ·omega
  ·rename_i h2
   rw [List.findIdx?_eq_none_iff] at h2
   rw [List.any_eq_true] at h
   obtain ⟨x,hx,hp⟩:=h
   rw [h2 x hx] at hp;cases hp
 ·intro h
  split
  ·rename_i i h2
   rw [List.findIdx?_eq_some_iff_getElem] at h2
   obtain ⟨h3,h4,_⟩:=h2
   rw [List.any_eq_false] at h
   exact absurd h4 (h _ (List.getElem_mem h3))
  ·rfl
theorem grant_range (B0:Base) (qb:Nat) (att:Int) (a:Option Addr) (c n:Nat) (job badge node life:Int) (hl:n ≤ 8) (hj:¬ (1 ≤ job ∧ job ≤ n)) :
  ConB prog B0 284 #[ptr qb,.int .i64 job,.int .i64 badge,.agg [.int .i64 node,.int .i64 life].toArray] [QuB qb att (.slice a n c)] fun v A=>v = .int .i64 111 ∧ A = [QuB qb att (.slice a n c)]:=by
 refine zqJ (vs:=[_,_,_,_]) func284 ntmps284 fun B hB=>?_
 repeat' (first|refine zs3 ?_|refine Ops.box rfl rfl rfl rfl (noPd rfl) (fun b=>?_))
 refine zqA (qin_spec job 1 n) fun v A' hR=>?_
 obtain ⟨rfl,rfl⟩:=hR
 rw [decide_eq_false hj]
 refine zg6 ?_
 exact Cd.ret (ret1 (A':=[QuB qb att (.slice a n c)]) rfl (Res.tmp rfl) (fun _ h=>h.split) ⟨rfl,rfl⟩)
def badgeOk (rows:List Rw) (badge:Int):Prop:=(1 ≤ badge ∧ badge ≤ 1099511627776) ∧ rows.any (fun q=>decide (badge ≤ q.badge)) = false
theorem grant_spec (B0:Base) (qb:Nat) (att:Int) (g c:Nat) (sp:List Value) (rows:List Rw) (hO:OwnQ (.slice (some ⟨g,0,none⟩) rows.length c) rows [(g,cl ((rows.map Rw.row).flatten ++ sp) 62)]) (hl:rows.length ≤ 8) (job badge node life:Int) (hj:1 ≤ job ∧ job ≤ rows.length) (r:Rw) (hr:rows[(job - 1).toNat]? = some r) (hat:0 ≤ r.att ∧ r.att ≤ 1000) :
  ConB prog B0 284 #[ptr qb,.int .i64 job,.int .i64 badge,.agg [.int .i64 node,.int .i64 life].toArray] [QuB qb att (.slice (some ⟨g,0,none⟩) rows.length c),(g,cl ((rows.map Rw.row).flatten ++ sp) 62)]
   fun v A=>((r.status ≠ 1 ∨ ¬ badgeOk rows badge ∨ holderOk node life = false) ∧ (∃ e:Int,e ≠ 0 ∧ v = .int .i64 e) ∧ A = [QuB qb att (.slice (some ⟨g,0,none⟩) rows.length c),(g,cl ((rows.map Rw.row).flatten ++ sp) 62)]) ∨
    (r.status = 1 ∧ badgeOk rows badge ∧ holderOk node life = true ∧ v = .int .i64 0 ∧ A = [QuB qb att (.slice (some ⟨g,0,none⟩) rows.length c),(g,cl (((rows.set (job - 1).toNat (r.give badge node life)).map Rw.row).flatten ++ sp) 62)]):=by
 have hi:(job - 1).toNat < rows.length:=by omega
 obtain ⟨jb,st,at_,bd,nd,lf,rc,rx⟩:=r
 dsimp only at hat ⊢
 have hok:=rws_ok rows
 have hrw:=rget hr
 refine zqJ (vs:=[_,_,_,_]) func284 ntmps284 fun B hB=>?_
 repeat' (first|refine zs3 ?_|refine Ops.box rfl rfl rfl rfl (noPd rfl) (fun b=>?_))
 rename_i xb
 rename Nat=>ab
 refine zqA (qin_spec job 1 rows.length) fun v A' hR=>?_
 obtain ⟨rfl,rfl⟩:=hR
 rw [decide_eq_true hj]
 by_cases h1:st = 1
 case neg =>
  refine zg10 ?_
  exact Cd.ret (ret1 (A':=[QuB qb att (.slice (some ⟨g,0,none⟩) rows.length c),(g,cl ((rows.map Rw.row).flatten ++ sp) 62)]) rfl (Res.tmp rfl) (fun _ h=>h.split) (.inl ⟨.inl h1,⟨112,by decide,rfl⟩,rfl⟩))
 subst h1
 refine zg10 ?_
 refine zqA (qin_spec badge 1 1099511627776) fun v A' hR=>?_
 obtain ⟨rfl,rfl⟩:=hR
 by_cases h2:1 ≤ badge ∧ badge ≤ 1099511627776
 case neg =>
  rw [decide_eq_false h2]
  refine zg7 ?_
  exact Cd.ret (ret1 (A':=[QuB qb att (.slice (some ⟨g,0,none⟩) rows.length c),(g,cl ((rows.map Rw.row).flatten ++ sp) 62)]) rfl (Res.tmp rfl) (fun _ h=>h.split) (.inl ⟨.inr (.inl (fun q=>h2 q.1)),⟨113,by decide,rfl⟩,rfl⟩))
 rw [decide_eq_true h2]
 refine zg17 ?_
 refine Ops.callB (first_own B0 (some ⟨g,0,none⟩) c rows _ hO (by omega) 308 [ptr xb] [(xb,cl [.int .i64 badge] 3)] _ (fun r=>grant1_spec xb badge r)) hB rfl (noPd rfl) rfl rfl rfl (fun v A' hR=>?_)
 obtain ⟨rfl,e⟩:=hR
 subst A'
 cases h3:rows.any (fun q=>decide (badge ≤ q.badge)) with
 | true =>
  have h4:=idxF_any.1 h3
  refine zg8 ?_
  exact Cd.ret (ret1 (A':=[QuB qb att (.slice (some ⟨g,0,none⟩) rows.length c),(g,cl ((rows.map Rw.row).flatten ++ sp) 62)]) rfl (Res.tmp rfl) (fun _ h=>h.split) (.inl ⟨.inr (.inl (fun q=>by rw [q.2] at h3;cases h3)),⟨113,by decide,rfl⟩,rfl⟩))
 | false =>
  have h4:=idxF_any.2 h3
  rw [h4]
  refine zg7 ?_
  refine zqA (qholder_spec node life) fun v A' hR=>?_
  obtain ⟨rfl,rfl⟩:=hR
  cases h5:holderOk node life with
  | false =>
   refine zg6 ?_
   exact Cd.ret (ret1 (A':=[QuB qb att (.slice (some ⟨g,0,none⟩) rows.length c),(g,cl ((rows.map Rw.row).flatten ++ sp) 62)]) rfl (Res.tmp rfl) (fun _ h=>h.split) (.inl ⟨.inr (.inr rfl),⟨1,by decide,rfl⟩,rfl⟩))
  | true =>
   refine zg10 ?_
   refine zdr [qz 0,qz 1,qz 2,qy 3,qy 4,qz 5,qz 6,(7,2,[3,4]),qz 8,qz 9,(10,2,[4]),qz 11,qz 12,(13,2,[])] ?_
   refine zg3 ?_
   refine Ops.stRow1 (i:=(job - 1).toNat) (o:=1) rfl rfl rfl rfl rfl hok hrw rfl zp4 ?_
   rw [show (rows.map Rw.row).set (job - 1).toNat ((⟨jb,1,at_,bd,nd,lf,rc,rx⟩:Rw).row.set 1 (.int .i64 2)) = (rows.set (job - 1).toNat ⟨jb,2,at_,bd,nd,lf,rc,rx⟩).map Rw.row from rset (q:=⟨jb,2,at_,bd,nd,lf,rc,rx⟩)]
   refine zg5 ?_
   refine Ops.stRow1 (i:=(job - 1).toNat) (o:=3) rfl rfl rfl rfl rfl (rws_ok _) (rget_set hi) rfl zp4 ?_
   rw [show ((rows.set (job - 1).toNat ⟨jb,2,at_,bd,nd,lf,rc,rx⟩).map Rw.row).set (job - 1).toNat ((⟨jb,2,at_,bd,nd,lf,rc,rx⟩:Rw).row.set 3 (.int .i64 badge)) = (rows.set (job - 1).toNat ⟨jb,2,at_,badge,nd,lf,rc,rx⟩).map Rw.row from rset2 (q2:=⟨jb,2,at_,badge,nd,lf,rc,rx⟩)]
   refine zg5 ?_
   refine Ops.stRowN (i:=(job - 1).toNat) (o:=4) rfl rfl rfl rfl rfl rfl (rws_ok _) (rget_set hi) (noPd rfl) ?_
   rw [show ((rows.set (job - 1).toNat ⟨jb,2,at_,badge,nd,lf,rc,rx⟩).map Rw.row).set (job - 1).toNat (⟨jb,2,at_,badge,node,life,rc,rx⟩:Rw).row = (rows.set (job - 1).toNat ⟨jb,2,at_,badge,node,life,rc,rx⟩).map Rw.row from rset2]
   refine zg1 ?_
   refine Ops.ldRow1 (i:=(job - 1).toNat) (o:=2) rfl rfl rfl (rws_ok _) (rget_set hi) rfl rfl ?_
   dsimp only
   refine zg9 ?_
   refine Ops.stRow1 (i:=(job - 1).toNat) (o:=2) rfl rfl rfl rfl rfl (rws_ok _) (rget_set hi) rfl (noPd rfl) ?_
   rw [show ((rows.set (job - 1).toNat ⟨jb,2,at_,badge,node,life,rc,rx⟩).map Rw.row).set (job - 1).toNat ((⟨jb,2,at_,badge,node,life,rc,rx⟩:Rw).row.set 2 (.int .i64 (at_ + 1))) = (rows.set (job - 1).toNat ⟨jb,2,at_ + 1,badge,node,life,rc,rx⟩).map Rw.row from rset2 (q2:=⟨jb,2,at_ + 1,badge,node,life,rc,rx⟩)]
   refine zg1 ?_
   exact Cd.ret (ret1 (A':=[QuB qb att (.slice (some ⟨g,0,none⟩) rows.length c),(g,cl (((rows.set (job - 1).toNat ⟨jb,2,at_ + 1,badge,node,life,rc,rx⟩).map Rw.row).flatten ++ sp) 62)]) rfl (Res.tmp rfl) (fun _ h=>h.split) (.inr ⟨rfl,⟨h2,h3⟩,rfl,rfl,rfl⟩))
theorem own_set {rows:List Rw} {n g c i:Nat} {sp:List Value} {q:Rw} (h:OwnQ (.slice (some ⟨g,0,none⟩) n c) rows [(g,cl ((rows.map Rw.row).flatten ++ sp) 62)]):OwnQ (.slice (some ⟨g,0,none⟩) n c) (rows.set i q) [(g,cl (((rows.set i q).map Rw.row).flatten ++ sp) 62)]:=by
 refine ⟨rws_ok _,.inr ⟨g,c,sp,?_,rfl,?_,?_⟩⟩
 ·rcases h.2 with ⟨h1,_⟩|⟨g',c',sp',h1,_⟩
  ·cases h1
  ·injection h1 with _ h2 _
   rw [h2,List.length_map,List.length_map,List.length_set]
 ·rcases h.2 with ⟨h1,_⟩|⟨g',c',sp',h1,h2,h3,_⟩
  ·cases h1
  ·injection h1 with e1 e2 e3
   subst e3
   have e4:sp'.length = sp.length:=by
    injection h2 with h2 _
    injection h2 with _ h2
    have:=congrArg (fun o:Obj=>match o with|.cells a _ _=>a.size|_=>0) h2
    simpa [cl] using this.symm
   rw [(rws_ok rows).len] at h3
   rw [(rws_ok _).len]
   simp only [List.length_map,List.length_set] at h3 ⊢
   omega
 ·rcases h.2 with ⟨h1,_⟩|⟨g',c',sp',h1,_,_,h4⟩
  ·cases h1
  ·injection h1 with e1 e2 e3
   subst e3
   simpa using h4
theorem step_expire (B0:Base) (c:Ch) (h:c.kind = 5):StepOk B0 c:=by
 intro sb s D a k hD ok hS
 obtain ⟨qb,rv,RG,pv,PG,lv,LG,ls,rfl,y1,y2,y3,y4,y5⟩:=hD
 obtain ⟨o1,o2,o3,o4,o5,o6,o7⟩:=id ok
 have e1:doesN c.kind = 242:=by rw [h];rfl
 have hs:stepF s c = (match heldAt s.rows c.badge with|none=>none|some i=>some { s with rows:=s.rows.set i ((s.rows.getD i ⟨0,0,0,0,0,0,0,0⟩).free s.att) }):=by
  unfold stepF
  rw [if_neg (by omega),if_neg (by omega),if_neg (by omega),if_neg (by omega),if_pos h]
  try rfl
 rw [e1,hs]
 obtain ⟨ra,rc,rfl⟩:=y1.form
 cases hh:heldAt s.rows c.badge with
 | none =>
  refine zqJ (vs:=[_,_]) func242 ntmps242 fun B hB=>?_
  repeat' (first|refine zs1 ?_|refine Ops.box rfl rfl rfl rfl (noPd rfl) (fun b=>?_))
  refine zdr [qz 0,qz 1,qz 2,qz 3,qy 4,qz 5,qy 6,(7,2,[]),qz 8,qz 9,qz 10,qz 11,qz 12] ?_
  refine zg5 ?_
  refine zqB (expire_none B0 qb s.att ra rc s.rows RG y1 o3 c.badge hh) hB fun v A' hR=>?_
  obtain ⟨rfl,rfl⟩:=hR
  refine zg3 ?_
  exact ze67
 | some i =>
  have hi:=held_lt hh
  obtain ⟨r,hr⟩:∃ r,s.rows[i]? = some r:=⟨_,List.getElem?_eq_getElem hi⟩
  obtain ⟨g,c',sp,hsv,rfl,hsp,hle⟩:=Own.some_ y1 (by rw [List.length_map];omega)
  injection hsv with q1 q2 q3
  subst q1
  refine zqJ (vs:=[_,_]) func242 ntmps242 fun B hB=>?_
  repeat' (first|refine zs1 ?_|refine Ops.box rfl rfl rfl rfl (noPd rfl) (fun b=>?_))
  refine zdr [qz 0,qz 1,qz 2,qz 3,qy 4,qz 5,qy 6,(7,2,[]),qz 8,qz 9,qz 10,qz 11,qz 12] ?_
  refine zg5 ?_
  refine zqB (expire_some B0 qb s.att g rc sp s.rows y1 o3 c.badge i r hh hr) hB fun v A' hR=>?_
  obtain ⟨rfl,rfl⟩:=hR
  refine zg3 ?_
  refine Cd.ret (ret1 (A':=StB sb qb s.res pv lv :: QuB qb s.att (.slice (some ⟨g,0,none⟩) s.rows.length rc) :: ([(g,cl (((s.rows.set i (r.free s.att)).map Rw.row).flatten ++ sp) 62)] ++ (PG ++ (LG ++ ls.flatMap Lg.G)))) rfl (Res.tmp rfl) (fun _ h=>h.split) ⟨rfl,qb,_,_,pv,PG,lv,LG,ls,rfl,?_,y2,y3,y4,y5⟩)
  show OwnQ _ (s.rows.set i ((s.rows.getD i ⟨0,0,0,0,0,0,0,0⟩).free s.att)) _
  rw [getD_of hr]
  exact own_set y1
theorem step_settle (B0:Base) (c:Ch) (h:c.kind = 6):StepOk B0 c:=by
 intro sb s D a k hD ok hS
 obtain ⟨qb,rv,RG,pv,PG,lv,LG,ls,rfl,y1,y2,y3,y4,y5⟩:=hD
 obtain ⟨o1,o2,o3,o4,o5,o6,o7⟩:=id ok
 have e1:doesN c.kind = 243:=by rw [h];rfl
 have hs:stepF s c = (match heldAt s.rows c.badge with|none=>none|some i=>if resOk c.rcode c.rbits = false then none else some { s with rows:=s.rows.set i ((s.rows.getD i ⟨0,0,0,0,0,0,0,0⟩).done c.rcode c.rbits) }):=by
  unfold stepF
  rw [if_neg (by omega),if_neg (by omega),if_neg (by omega),if_neg (by omega),if_neg (by omega)]
  cases heldAt s.rows c.badge with
  | none=>rfl
  | some i =>
   dsimp only
   by_cases hb:0 ≤ c.rcode ∧ c.rcode ≤ 7 ∧ (c.rcode = 0 ∨ c.rbits = 0)
   ·rw [if_neg (not_not_intro hb),if_neg (by unfold resOk;simp;omega)]
   ·rw [if_pos hb,if_pos (by unfold resOk;simp;omega)]
 rw [e1,hs]
 obtain ⟨ra,rc,rfl⟩:=y1.form
 cases hh:heldAt s.rows c.badge with
 | none =>
  refine zqJ (vs:=[_,_]) func243 ntmps243 fun B hB=>?_
  repeat' (first|refine zs1 ?_|refine Ops.box rfl rfl rfl rfl (noPd rfl) (fun b=>?_))
  refine zdr [qz 0,qz 1,qz 2,qz 3,qy 4,qz 5,qy 6,qz 7,qy 8,(9,2,[]),qz 10,qz 11,qz 12,qz 13,qz 14] ?_
  refine zg3 ?_
  refine zqB (settle_none B0 qb s.att ra rc s.rows RG y1 o3 c.badge c.rcode c.rbits hh) hB fun v A' hR=>?_
  obtain ⟨rfl,rfl⟩:=hR
  refine zg3 ?_
  exact ze67
 | some i =>
  have hi:=held_lt hh
  obtain ⟨r,hr⟩:∃ r,s.rows[i]? = some r:=⟨_,List.getElem?_eq_getElem hi⟩
  obtain ⟨g,c',sp,hsv,rfl,hsp,hle⟩:=Own.some_ y1 (by rw [List.length_map];omega)
  injection hsv with q1 q2 q3
  subst q1
  refine zqJ (vs:=[_,_]) func243 ntmps243 fun B hB=>?_
  repeat' (first|refine zs1 ?_|refine Ops.box rfl rfl rfl rfl (noPd rfl) (fun b=>?_))
  refine zdr [qz 0,qz 1,qz 2,qz 3,qy 4,qz 5,qy 6,qz 7,qy 8,(9,2,[]),qz 10,qz 11,qz 12,qz 13,qz 14] ?_
  refine zg3 ?_
  cases hb:resOk c.rcode c.rbits with
  | false =>
   refine zqB (settle_bad B0 qb s.att g rc sp s.rows y1 o3 c.badge c.rcode c.rbits i hh hb) hB fun v A' hR=>?_
   obtain ⟨rfl,rfl⟩:=hR
   refine zg3 ?_
   exact Cd.ret (ret1 (A':=StB sb qb s.res pv lv :: QuB qb s.att (.slice (some ⟨g,0,none⟩) s.rows.length rc) :: ([(g,cl ((s.rows.map Rw.row).flatten ++ sp) 62)] ++ (PG ++ (LG ++ ls.flatMap Lg.G)))) rfl (Res.tmp rfl) (fun _ h=>h.split) ⟨rfl,qb,_,_,pv,PG,lv,LG,ls,rfl,y1,y2,y3,y4,y5⟩)
  | true =>
   refine zqB (settle_some B0 qb s.att g rc sp s.rows y1 o3 c.badge c.rcode c.rbits i r hh hr hb) hB fun v A' hR=>?_
   obtain ⟨rfl,rfl⟩:=hR
   refine zg3 ?_
   refine Cd.ret (ret1 (A':=StB sb qb s.res pv lv :: QuB qb s.att (.slice (some ⟨g,0,none⟩) s.rows.length rc) :: ([(g,cl (((s.rows.set i (r.done c.rcode c.rbits)).map Rw.row).flatten ++ sp) 62)] ++ (PG ++ (LG ++ ls.flatMap Lg.G)))) rfl (Res.tmp rfl) (fun _ h=>h.split) ⟨rfl,qb,_,_,pv,PG,lv,LG,ls,rfl,?_,y2,y3,y4,y5⟩)
   show OwnQ _ (s.rows.set i ((s.rows.getD i ⟨0,0,0,0,0,0,0,0⟩).done c.rcode c.rbits)) _
   rw [getD_of hr]
   exact own_set y1
end Go.Proofs.YtkoelgkghijgiaaGreat
