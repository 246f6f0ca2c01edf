import Derived.Test.YtkoelgkghijgiaaGreatA04
import Derived.Test.YtkoelgkghijgiaaGreatA01
import Derived.Test.YtkoelgkghijgiaaGreatA06
import Derived.Test.YtkoelgkghijgiaaGreatA05
set_option linter.unusedVariables false
set_option linter.unusedSimpArgs false
namespace Go.Sep
open Go
section
variable {P:Program} {N:Fi} {B:Base} {Q:Exit → Act → World → Prop} {T:Tm} {A:List Blk} {ops:Array Oper} {l:List Oper}
variable {d:Nat} {ty:TypeId} {pos:String} {af:Array Edge} {m:Md} {gd:Option (Nat × Bool)}
theorem Ops.min3 {t t' t'':TypeId} {x y z:Operand} {i j q:Int} {k1 k2 k3:IntKind} (hm:m.rd true = true) (hg:gst ops T gd = some true) (hx:ev T x = some (.int k1 i)) (hy:ev T y = some (.int k2 j)) (hz:ev T z = some (.int k3 q)) (hd:Nat.blt d N.n = true)
  (k:Ops P N B Q ops m.tl l ((d,.int k1 (min (min i j) q)) :: T) A):Ops P N B Q ops m (⟨some d,.call { callee:=.builtin .min,args:=#[x,y,z],argTypes:=#[t,t',t''] },ty,pos,af,gd⟩ :: l) T A :=
 Ops.pureV hm hg hd (fun a w hF=>by
  have e1:(if j < i then j else i) = min i j:=by split <;> omega
  have e2:(if q < min i j then q else min i j) = min (min i j) q:=by split <;> omega
  simp [execOp,resolve,invoke,builtin,Builtin.min_,Builtin.min2,hF.eval hx,hF.eval hy,hF.eval hz]
  rw [e1,e2];omega) k
theorem Ops.quoI {t t':TypeId} {x y:Operand} {a b:Nat} (hm:m.rd true = true) (hg:gst ops T gd = some true) (hx:ev T x = some (.int .i64 a)) (hy:ev T y = some (.int .i64 b)) (ha:a ≤ 9223372036854775807) (hb:b ≠ 0) (hd:Nat.blt d N.n = true)
  (k:Ops P N B Q ops m.tl l ((d,.int .i64 ((a / b:Nat):Int)) :: T) A):Ops P N B Q ops m (⟨some d,.binOp .quo t x y t',ty,pos,af,gd⟩ :: l) T A :=
 Ops.pureV hm hg hd (fun a' w hF=>by
  have h1:a / b ≤ a:=Nat.div_le_self _ _
  have h2:∀ q:Nat,q ≤ 9223372036854775807 → IntKind.i64.wrap (q:Int) = q:=by intro q hq;simp [IntKind.wrap,IntKind.bits,IntKind.signed];omega
  have h4:IntKind.i64.wrap ((a:Int) / (b:Int)) = (a:Int) / (b:Int):=by have:=h2 (a / b) (by omega);push_cast at this;exact this
  have h3:((a:Int)).tdiv (b:Int) = (a:Int) / (b:Int):=rfl
  simp [execOp,hF.eval hx,hF.eval hy,eqGuard,binOp,Op.intDiv,hb,h3,h4]) k
end
end Go.Sep
namespace Go.Proofs.YtkoelgkghijgiaaGreat
open Go Go.Sep Go.Proofs Go.Proofs.Tryz
set_option maxRecDepth 10000
set_option maxHeartbeats 40000000
set_option synthInstance.maxSize 2000
theorem mul64_spec:Con prog 313 #[.int .u64 1,.int .u64 103] [] fun v A=>v = .tuple #[.int .u64 0,.int .u64 103] ∧ A = []:=by
 refine zqI (vs:=[_,_]) func313 ntmps313 fun B=>?_
 refine zg3 ?_
 refine Ops.shrI rfl rfl rfl rfl (by decide) rfl ?_
 refine zg3 ?_
 refine Ops.shrI rfl rfl rfl rfl (by decide) rfl ?_
 refine zg3 ?_
 refine Ops.shrI rfl rfl rfl rfl (by decide) rfl ?_
 refine zg3 ?_
 refine Ops.shrI rfl rfl rfl rfl (by decide) rfl ?_
 refine zg3 ?_
 refine Ops.shrI rfl rfl rfl rfl (by decide) rfl ?_
 refine zg3 ?_
 exact Cd.ret (ret2 (A':=[]) rfl (Res.tmp rfl) (Res.tmp rfl) (fun _ h=>h.split) ⟨by rfl,rfl⟩)
theorem mul_spec:Con prog 287 #[.int .u64 1,.int .u64 103] [] fun v A=>v = .tuple #[.int .u64 0,.int .u64 103] ∧ A = []:=by
 refine zqI (vs:=[_,_]) func287 ntmps287 fun B=>?_
 refine zg4 ?_
 refine Ops.call mul64_spec rfl (noPd rfl) rfl rfl rfl (fun v A' hR=>?_)
 obtain ⟨rfl,rfl⟩:=hR
 refine zg3 ?_
 exact ze10
def zB (n:Nat):ByteArray:=⟨Array.replicate n 0⟩
theorem zB_size (n:Nat):(zB n).size = n:=by show (Array.replicate n 0).size = n;simp
theorem zB_cut {n k:Nat} (h:k ≤ n):(zB n).extract 0 k = zB k:=by
 apply ByteArray.ext
 rw [ByteArray.data_extract]
 simp [zB,Nat.min_eq_left h]
theorem zB_app (n k:Nat):zB n ++ zB k = zB (n + k):=by
 apply ByteArray.ext
 rw [ByteArray.data_append]
 simp [zB]
structure RpS where
 m:Nat
 D:List Blk
theorem repeat_spec (s:ByteArray) (hs:s = zB 1):Con prog 247 #[.string s,.int .i64 103] [] fun v A=>v = .string (zB 103) ∧ A = []:=by
 have hsz:s.size = 1:=by rw [hs,zB_size]
 have hg:s[(0:Int).toNat]? = some 0:=by subst hs;decide
 refine zqI (vs:=[_,_]) func247 ntmps247 fun B=>?_
 refine zg4 ?_
 refine Ops.cvI rfl rfl rfl rfl ?_
 rw [hsz,show IntKind.wrap .u64 ((1:Nat):Int) = 1 from by decide]
 refine zg0 ?_
 refine Ops.cvI rfl rfl rfl rfl ?_
 rw [show IntKind.wrap .u64 (103:Int) = 103 from by decide]
 refine Ops.call mul_spec rfl (noPd rfl) rfl rfl rfl (fun v A' hR=>?_)
 obtain ⟨rfl,rfl⟩:=hR
 refine zg7 ?_
 refine Ops.cvI rfl rfl rfl rfl ?_
 rw [show IntKind.wrap .i64 (103:Int) = 103 from by decide]
 refine zg2 ?_
 rw [hsz]
 skip
 refine Ops.ixS rfl rfl rfl rfl (by decide) hg rfl ?_
 rw [show ((0:UInt8).toNat:Int) = 0 from rfl]
 repeat' (first|refine zs2 ?_|refine Ops.alloc rfl rfl rfl (noPd rfl) (fun b=>?_))
 rename Nat=>bb
 refine zqA (bgrow_spec bb 103 (by decide) (by decide)) fun v A' hR=>?_
 refine zg0 ?_
 refine Ops.call (bwrite_spec bb .empty s _ hR (by rw [hsz];decide)) rfl (noPd rfl) rfl rfl rfl (fun v A' hR=>?_)
 rw [ByteArray.empty_append,hs] at hR
 refine zg1 ?_
 refine Cd.loopK (σ:=RpS) (fun t=>1 ≤ t.m ∧ t.m ≤ 103 ∧ BuA bb (zB t.m) t.D) (fun t=>[(7,.int .i64 103),(8,.int .i64 103),(9,ptr bb)]) (fun t=>t.D) (fun t=>103 - t.m) ⟨1,_⟩ ⟨Nat.le_refl _,(by decide:(1:Nat) ≤ 103),hR⟩ ⟨rfl,rfl,rfl,trivial⟩ (fun w h=>h.split) (fun t ht=>?_)
 obtain ⟨k,D⟩:=t
 obtain ⟨h1,h2,hD⟩:=ht
 dsimp only at h1 h2 hD ⊢
 have hk:=zB_size k
 by_cases hlt:k < 103
 ·have hlt':(((zB k).size:Nat):Int) < 103:=by omega
  refine zg0 ?_
  refine Ops.call (blen_spec bb (zB k) _ hD) rfl (noPd rfl) rfl rfl rfl (fun v A' hR=>?_)
  obtain ⟨rfl,rfl⟩:=hR
  refine zg2 ?_
  refine Ops.call (blen_spec bb (zB k) _ hD) rfl (noPd rfl) rfl rfl rfl (fun v A' hR=>?_)
  obtain ⟨rfl,rfl⟩:=hR
  refine zg11 ?_
  refine Ops.call (blen_spec bb (zB k) _ hD) rfl (noPd rfl) rfl rfl rfl (fun v A' hR=>?_)
  obtain ⟨rfl,rfl⟩:=hR
  refine zg0 ?_
  refine Ops.min3 rfl rfl rfl rfl rfl rfl ?_
  refine zg0 ?_
  refine Ops.call (bstring_spec bb (zB k) _ hD (by omega)) rfl (noPd rfl) rfl rfl rfl (fun v A' hR=>?_)
  obtain ⟨rfl,hD2⟩:=hR
  have hcut:((min (min ((103:Int) - (((zB k).size:Nat):Int)) (((zB k).size:Nat):Int)) 103).toNat) = min (103 - k) k:=by rw [hk];omega
  refine zg0 ?_
  refine Ops.slSHi rfl rfl rfl rfl (by omega) (by omega) rfl ?_
  rw [hcut,zB_cut (by omega)]
  refine Ops.call (bwrite_spec bb (zB k) (zB (min (103 - k) k)) _ hD2 (by rw [zB_size,zB_size];omega)) rfl (noPd rfl) rfl rfl rfl (fun v A' hR=>?_)
  rw [zB_app] at hR
  exact Ops.nilN (inB (round_end (⟨k + min (103 - k) k,_⟩:RpS) ⟨by show 1 ≤ k + _;omega,by show k + min (103 - k) k ≤ 103;omega,hR⟩ (by show 103 - (k + min (103 - k) k) < 103 - k;omega) ⟨rfl,rfl,rfl,trivial⟩ (fun w h=>h.split)))
 ·have hke:k = 103:=by omega
  have hlt':¬ (((zB k).size:Nat):Int) < 103:=by omega
  refine zg0 ?_
  refine Ops.call (blen_spec bb (zB k) _ hD) rfl (noPd rfl) rfl rfl rfl (fun v A' hR=>?_)
  obtain ⟨rfl,rfl⟩:=hR
  refine zg2 ?_
  refine Ops.call (bstring_spec bb (zB k) _ hD (by omega)) rfl (noPd rfl) rfl rfl rfl (fun v A' hR=>?_)
  obtain ⟨rfl,hD2⟩:=hR
  refine zg0 ?_
  exact Cd.ret (ret1 (A':=[]) rfl (Res.tmp rfl) (fun _ h=>h.split) ⟨by rw [hke],rfl⟩)
theorem noughts_spec:Con prog 185 #[.int .i64 103] [] fun v A=>v = .string (zB 103) ∧ A = []:=by
 refine zqI (vs:=[_]) func185 ntmps185 fun B=>?_
 refine zg0 ?_
 refine Ops.call (repeat_spec _ (by rfl)) rfl (noPd rfl) rfl rfl rfl (fun v A' hR=>?_)
 obtain ⟨rfl,rfl⟩:=hR
 refine zg0 ?_
 exact ze9
theorem slclone_spec (s:ByteArray) (hs:s.size ≤ 1000000):Con prog 295 #[.string s] [] fun v A=>v = .string s ∧ A = []:=by
 refine zqI (vs:=[_]) func295 ntmps295 fun B=>?_
 by_cases h0:s.size = 0
 ·have h0':(s.size:Int) = 0:=by omega
  have he:s = .empty:=ByteArray.size_eq_zero_iff.1 h0
  refine zg2 ?_
  exact ze28
 ·have h0':¬ (s.size:Int) = 0:=by omega
  refine zg2 ?_
  refine Ops.mk1 rfl rfl rfl rfl (by omega) (by omega) (by decide) rfl (noPd rfl) (fun g=>?_)
  rw [show ((s.size:Nat):Int).toNat = s.size from by omega]
  refine zg0 ?_
  refine Ops.cpS (L':=bv s) rfl rfl rfl rfl (by simp) (by simp [ins,bv_len]) rfl (noPd rfl) ?_
  refine zg17 ?_
  refine Ops.us (s:=s) (G:=[(g,cl (bv s) 5)]) (.inr ⟨g,s.size,[],0,rfl,by rw [List.append_nil];rfl,Nat.zero_le _,by simp,by omega⟩) rfl rfl cells_u8 rfl rfl (by omega) rfl (noPd rfl) (fun G' hG'=>?_)
  refine zg0 ?_
  exact ze9
theorem sclone_spec (s:ByteArray) (hs:s.size ≤ 1000000):Con prog 258 #[.string s] [] fun v A=>v = .string s ∧ A = []:=by
 refine zqI (vs:=[_]) func258 ntmps258 fun B=>?_
 refine zg0 ?_
 refine zqA (slclone_spec s hs) fun v A' hR=>?_
 obtain ⟨rfl,rfl⟩:=hR
 refine zg0 ?_
 exact ze9
def txR (b:ByteArray) (most p:Nat):Int ⊕ (ByteArray × Nat):=match numR b most 23 p with
 | .bad er=>.inl er
 | .good n q=>if q + n ≤ b.size then .inr (b.extract q (q + n),q + n) else .inl 20
theorem text1_spec (B0:Base) (rb xr mb:Nat) (bs:ByteArray) (p most:Nat) (hp:p ≤ bs.size) (hb:bs.size ≤ 1000000) (hm:most ≤ 1000000) :
  ConX prog B0 257 #[ptr xr,ptr mb] (RdB rb bs p 0 :: [(xr,cl [ptr rb] 161),(mb,cl [.int .i64 most] 3)])
   (fun v A=>∃ u q,txR bs most p = .inr (u,q) ∧ v = .string u ∧ A = RdB rb bs (q:Nat) 0 :: [(xr,cl [ptr rb] 161),(mb,cl [.int .i64 most] 3)])
   (fun c A=>∃ er,txR bs most p = .inl er ∧ c = [gave er] ∧ ∃ q:Nat,A = RdB rb bs q 0 :: [(xr,cl [ptr rb] 161),(mb,cl [.int .i64 most] 3)]):=by
 refine ConX.intro (vs:=[_,_]) func257 rfl ntmps257 rfl (fun B hB=>?_)
 refine zg0 ?_
 refine zdr [qy 0,qy 1,qy 2,(3,2,[0]),(4,2,[]),(5,2,[]),qz 6] ?_
 refine zg5 ?_
 refine Ops.callXD (list_spec B0 rb bs p most hp hb (by omega)) hB rfl (by intro v A' hR i hi;obtain ⟨A2,hR,rfl⟩:=hR;obtain ⟨u,q,_,_,rfl⟩:=hR;(repeat (rcases List.mem_cons.1 hi with rfl|hi;· (first|exact Still.ld1 rfl rfl rfl rfl rfl|exact Still.ldN rfl rfl rfl rfl|exact Still.len rfl rfl rfl rfl rfl|exact Still.skip rfl rfl rfl|exact Still.ldRow1 rfl rfl rfl (by assumption) (by assumption) rfl rfl|exact Still.ldR rfl rfl rfl (by apply_assumption) rfl)));cases hi) rfl rfl rfl (fun c A' hX=>?_) (fun v A' hR=>?_)
 ·obtain ⟨er,hr,rfl,q,rfl⟩:=hX
  have htx:txR bs most p = .inl er:=by
   unfold txR
   cases hn:numR bs most 23 p with
   | bad e2=>rw [hn] at hr;injection hr with hr;rw [hr]
   | good n2 q2=>rw [hn] at hr;cases hr
  exact panX (A':=RdB rb bs q 0 :: [(xr,cl [ptr rb] 161),(mb,cl [.int .i64 most] 3)]) (fun _ h=>h.split) ⟨er,htx,rfl,q,rfl⟩
 ·obtain ⟨n,q,hr,rfl,rfl⟩:=hR
  have hn:numR bs most 23 p = .good n q:=by
   cases hn:numR bs most 23 p with
   | bad e2=>rw [hn] at hr;cases hr
   | good n2 q2=>rw [hn] at hr;injection hr with hr;injection hr with h1 h2;rw [h1,h2]
  have hle:n ≤ most:=numGo_le _ _ _ _ hn
  have hq:q ≤ bs.size:=numGo_at _ _ _ _ hn hp
  skip
  refine Ops.callXD (take_spec B0 rb bs q 0 n hq hb (by omega)) hB rfl (noPd rfl) rfl rfl rfl (fun c A' hX=>?_) (fun v A' hR=>?_)
  ·obtain ⟨hlt,rfl,rfl⟩:=hX
   exact panX (A':=RdB rb bs q 0 :: [(xr,cl [ptr rb] 161),(mb,cl [.int .i64 most] 3)]) (fun _ h=>h.split) ⟨20,by unfold txR;rw [hn];exact if_neg hlt,rfl,q,rfl⟩
  ·obtain ⟨hlt,rfl,rfl⟩:=hR
   refine zqA (sclone_spec (bs.extract q (q + n)) (by rw [ByteArray.size_extract];omega)) fun v A' hR=>?_
   obtain ⟨rfl,rfl⟩:=hR
   refine zg0 ?_
   exact Cd.ret (retX (ret1 (A':=RdB rb bs ((q + n:Nat):Int) 0 :: [(xr,cl [ptr rb] 161),(mb,cl [.int .i64 most] 3)]) rfl (Res.tmp rfl) (fun _ h=>h.split) ⟨_,q + n,by unfold txR;rw [hn];exact if_pos hlt,rfl,rfl⟩))
def rdText (b:ByteArray) (most:Nat) (p:Nat) (e:Int):ByteArray × Nat × Int:=if e ≠ 0 then (.empty,p,e) else match txR b most p with
 | .inl er=>(.empty,p,er)
 | .inr (u,q)=>(u,q,0)
theorem rtext_spec (B0:Base) (rb:Nat) (bs:ByteArray) (p most:Nat) (e:Int) (hp:p ≤ bs.size) (hb:bs.size ≤ 1000000) (hm:most ≤ 1000000) :
  ConB prog B0 201 #[ptr rb,.int .i64 most] [RdB rb bs p e] fun v A=>v = .string (rdText bs most p e).1 ∧ A = [RdB rb bs (((rdText bs most p e).2.1:Nat):Int) (rdText bs most p e).2.2]:=by
 refine zqJ (vs:=[_,_]) func201 ntmps201 fun B hB=>?_
 repeat' (first|refine zs0 ?_|refine Ops.box rfl rfl rfl rfl (noPd rfl) (fun b=>?_))
 rename_i xr
 rename Nat=>mb
 by_cases he:e = 0
 ·subst he
  refine Ops.callB (facestring_new B0 rb bs p 257 [ptr xr,ptr mb] [(xr,cl [ptr rb] 161),(mb,cl [.int .i64 most] 3)] _ (text1_spec B0 rb xr mb bs p most hp hb hm)) hB rfl (noPd rfl) rfl rfl rfl (fun v A' hR=>?_)
  have hu:rdText bs most p 0 = match txR bs most p with
   | .inl er=>(.empty,p,er)
   | .inr (u,q)=>(u,q,0):=if_neg (by simp)
  rcases hR with ⟨u,q,hr,rfl,rfl⟩|⟨er,hr,rfl,rfl⟩
  ·rw [hr] at hu
   rw [hu]
   refine zg0 ?_
   exact Cd.ret (ret1 (A':=[RdB rb bs q 0]) rfl (Res.tmp rfl) (fun _ h=>h.split) ⟨rfl,rfl⟩)
  ·rw [hr] at hu
   rw [hu]
   refine zg0 ?_
   exact Cd.ret (ret1 (A':=[RdB rb bs p er]) rfl (Res.tmp rfl) (fun _ h=>h.split) ⟨rfl,rfl⟩)
 ·refine zqB (facestring_old B0 rb bs p e 257 [ptr xr,ptr mb] he) hB fun v A' hR=>?_
  obtain ⟨rfl,rfl⟩:=hR
  rw [show rdText bs most p e = (.empty,p,e) from if_pos he]
  refine zg0 ?_
  exact ze29
end Go.Proofs.YtkoelgkghijgiaaGreat
namespace Go.Proofs.YtkoelgkghijgiaaGreat
open Go Go.Sep Go.Proofs
set_option maxRecDepth 10000
set_option maxHeartbeats 40000000
set_option synthInstance.maxSize 2000
structure Hd where
 number:Nat
 half:Nat
 snap:Nat
 log:Nat
def hiL (n:Nat):Nat → List Int
 | 0=>[]
 | k + 1=>((n / 256 ^ k % 256:Nat):Int) :: hiL n k
def hiB (n k:Nat):ByteArray:=bytesOf (hiL n k)
theorem hiL_len (n k:Nat):(hiL n k).length = k:=by induction k with|zero=>rfl|succ k ih=>simp [hiL,ih]
theorem hiB_size (n k:Nat):(hiB n k).size = k:=by rw [hiB,bytesOf_size,hiL_len]
def sectorF (h:Hd):ByteArray:=hiB h.number 8 ++ bytesOf [(h.half:Int)] ++ hiB h.snap 4 ++ hiB h.log 4 ++ zB 103 ++ hiB h.number 8
theorem sectorF_size (h:Hd):(sectorF h).size = 128:=by simp [sectorF,hiB_size,zB_size,bytesOf_size]
def bat (s:ByteArray) (i:Nat):Nat:=match s[i]? with|some b=>b.toNat|none=>0
theorem bat_lt (s:ByteArray) (i:Nat):bat s i < 256:=by
 unfold bat;split
 ·rename_i b _;exact UInt8.toNat_lt b
 ·decide
theorem bat_some {s:ByteArray} {i:Nat} {b:UInt8} (h:s[i]? = some b):bat s i = b.toNat:=by simp [bat,h]
def ofG (s:ByteArray):Nat → Int
 | 0=>0
 | i + 1=>orI .i64 (IntKind.wrap .i64 (ofG s i * 2 ^ 8)) (bat s i)
def ofF (s:ByteArray):Int:=ofG s s.size
theorem orI_i64 {a b:Nat} (ha:a < 9223372036854775808) (hb:b < 9223372036854775808):orI .i64 (a:Int) (b:Int) = ((a ||| b:Nat):Int):=by
 have h1:a ||| b < 2 ^ 63:=Nat.or_lt_two_pow (n:=63) ha hb
 unfold orI
 show IntKind.wrap .i64 ((BitVec.ofInt 64 a ||| BitVec.ofInt 64 b).toNat:Int) = _
 rw [BitVec.toNat_or,BitVec.ofInt_natCast,BitVec.ofInt_natCast,BitVec.toNat_ofNat,BitVec.toNat_ofNat,Nat.mod_eq_of_lt (by omega),Nat.mod_eq_of_lt (by omega)]
 simp [IntKind.wrap,IntKind.bits,IntKind.signed]
 omega
theorem ofG_step {a b:Nat} (ha:a < 36028797018963968) (hb:b < 256):orI .i64 (IntKind.wrap .i64 ((a:Int) * 2 ^ 8)) (b:Int) = ((a * 256 + b:Nat):Int):=by
 have e:IntKind.wrap .i64 ((a:Int) * 2 ^ 8) = ((a <<< 8:Nat):Int):=by
  rw [Nat.shiftLeft_eq]
  simp [IntKind.wrap,IntKind.bits,IntKind.signed]
  omega
 rw [e,orI_i64 (by rw [Nat.shiftLeft_eq];omega) (by omega),← Nat.shiftLeft_add_eq_or_of_lt (by simpa using hb),Nat.shiftLeft_eq]
theorem bytesOf_get (xs:List Int) (i:Nat):bat (bytesOf xs) i = ((xs.getD i 0).toNat % 256:Nat):=by
 have key:∀ (xs:List Int) (s:ByteArray),(xs.foldl (fun r n=>r.push (UInt8.ofNat n.toNat)) s).data.toList = s.data.toList ++ xs.map fun n=>UInt8.ofNat n.toNat:=by
  intro xs
  induction xs with
  | nil=>intro s;simp
  | cons x xs ih=>intro s;rw [List.foldl_cons,ih];simp [ByteArray.push]
 have hk:=key xs .empty
 have hk:(bytesOf xs).data.toList = xs.map fun n=>UInt8.ofNat n.toNat:=by simpa [bytesOf] using hk
 have hsz:=bytesOf_size xs
 unfold bat
 by_cases hi:i < xs.length
 ·rw [getElem?_pos (bytesOf xs) i (by omega)]
  have e:(bytesOf xs)[i]'(by omega) = (bytesOf xs).data.toList[i]'(by rw [hk];simpa using hi):=by simp [ByteArray.getElem_eq_getElem_data]
  dsimp only
  rw [e]
  simp only [hk,List.getElem_map]
  rw [List.getD_eq_getElem?_getD,List.getElem?_eq_getElem hi]
  simp
 ·rw [getElem?_neg (bytesOf xs) i (by omega),List.getD_eq_getElem?_getD,List.getElem?_eq_none (by omega)]
  rfl
theorem hiL_at {n k i:Nat} (hi:i < k):(hiL n k).getD i 0 = ((n / 256 ^ (k - 1 - i) % 256:Nat):Int):=by
 induction k generalizing i with
 | zero=>omega
 | succ k ih =>
  cases i with
  | zero=>rfl
  | succ i=>rw [hiL,List.getD_cons_succ,ih (by omega)];congr 4;omega
def ofn (s:ByteArray):Nat → Nat
 | 0=>0
 | i + 1=>ofn s i * 256 + bat s i
theorem ofn_lt (s:ByteArray):∀ i,ofn s i < 256 ^ i
 | 0=>by show 0 < 1;decide
 | i + 1=>by
  have h1:=ofn_lt s i
  have h2:=bat_lt s i
  rw [ofn,Nat.pow_succ]
  have:(ofn s i + 1) * 256 ≤ 256 ^ i * 256:=Nat.mul_le_mul_right _ h1
  omega
theorem ofG_ofn (s:ByteArray):∀ i,i ≤ 7 → ofG s i = (ofn s i:Nat)
 | 0,_=>rfl
 | i + 1,h=>by
  rw [ofG,ofG_ofn s i (by omega),ofG_step _ (bat_lt s i),ofn]
  have h1:=ofn_lt s i
  have h2:256 ^ i ≤ 256 ^ 6:=Nat.pow_le_pow_right (by decide) (by omega)
  omega
def rdN (s:ByteArray) (i j:Nat):Nat:=ofn (s.extract i j) (j - i)
theorem of_four {s:ByteArray} (h:s.size ≤ 7):ofF s = (ofn s s.size:Nat):=ofG_ofn s _ h
structure Dk where
 S:List ByteArray
 ar:Int
 bd:Int
 de:Bool
def roomF (n:Nat):Nat:=if n < 4 ∨ n % 2 = 1 ∨ 1026 < n then 0 else (n - 2) / 2 * 128
def catS (S:List ByteArray) (first:Nat):Nat → ByteArray
 | 0=>.empty
 | i + 1=>catS S first i ++ S.getD (first + i) .empty
theorem catS_size {S:List ByteArray} (hs:∀ s ∈ S,s.size = 128) {first:Nat}:∀ i,first + i ≤ S.length → (catS S first i).size = i * 128
 | 0,_=>rfl
 | i + 1,h=>by
  have h1:(S.getD (first + i) .empty).size = 128:=by
   rw [List.getD_eq_getElem?_getD,List.getElem?_eq_getElem (by omega)]
   exact hs _ (List.getElem_mem _)
  rw [catS,ByteArray.size_append,catS_size hs i (by omega),h1]
  omega
def bytesF (S:List ByteArray) (half n:Nat):ByteArray:=(catS S (2 + half * roomF S.length / 128) ((n + 127) / 128)).extract 0 n
theorem rdText_at {b:ByteArray} {most p:Nat} {e:Int} (hp:p ≤ b.size):(rdText b most p e).2.1 ≤ b.size:=by
 unfold rdText
 split
 ·exact hp
 ·split
  ·exact hp
  ·rename_i u q h
   unfold txR at h
   split at h
   ·cases h
   ·split at h
    ·injection h with h;injection h with h1 h2;dsimp only;omega
    ·cases h
def framesG (s:ByteArray) (p:Nat):Option (List ByteArray) :=
 if h:p < s.size then
  if (rdText s 2048 p 0).2.2 ≠ 0 ∨ (rdText s 2048 p 0).1.size = 0 then none
  else if h2:p < (rdText s 2048 p 0).2.1 then (framesG s (rdText s 2048 p 0).2.1).map ((rdText s 2048 p 0).1 :: ·) else none
 else some []
termination_by s.size - p
decreasing_by omega
def foundF (S:List ByteArray) (at_:Nat):Option (Hd × ByteArray × List ByteArray) :=
 let s:=S.getD at_ .empty
 let nm:=ofF (s.extract 0 8)
 let sn:=rdN s 9 13
 let lg:=rdN s 13 17
 if nm < 1 ∨ 1099511627776 < nm ∨ nm % 2 ≠ (at_:Int) ∨ 1 < bat s 8 then none
 else if sectorF ⟨nm.toNat,bat s 8,sn,lg⟩ ≠ s ∨ 17000 < sn ∨ roomF S.length < sn + lg then none
 else (framesG ((bytesF S (bat s 8) (sn + lg)).extract sn (sn + lg)) 0).map fun l=>(⟨nm.toNat,bat s 8,sn,lg⟩,(bytesF S (bat s 8) (sn + lg)).extract 0 sn,l)
def countsF (S:List ByteArray):Option (Hd × ByteArray × List ByteArray) :=
 match foundF S 0,foundF S 1 with
 | none,y=>y
 | some x,none=>some x
 | some x,some y=>if x.1.number < y.1.number then some y else some x
def Dk.put (x:Dk) (r:(List ByteArray × Int × Bool) × Int):Dk:={ x with S:=r.1.1,ar:=r.1.2.1,de:=r.1.2.2 }
def Dk.write (x:Dk) (i:Int) (s:ByteArray):Dk × Int:=(x.put (writeD x.S x.ar x.bd x.de i s),(writeD x.S x.ar x.bd x.de i s).2)
def formatF (x:Dk):Dk × Int :=
 if x.de then (x,2) else if roomF x.S.length = 0 then (x,91) else if (countsF x.S).isSome then (x,95)
 else x.write 1 (sectorF ⟨1,0,0,0⟩)
def pageF (old s:ByteArray) (a:Nat):ByteArray:=old.extract 0 a ++ (s.extract 0 (min (128 - a) s.size) ++ zB (128 - a - min (128 - a) s.size))
def pagesF (half at_:Nat) (s:ByteArray) (x:Dk):Dk × Bool :=
 if h:s.size = 0 then (x,true)
 else if x.de ∨ ¬ 2 + half * roomF x.S.length / 128 + at_ / 128 < x.S.length then (x,false)
 else
  let r:=x.write ((2 + half * roomF x.S.length / 128 + at_ / 128:Nat):Int) (pageF (x.S.getD (2 + half * roomF x.S.length / 128 + at_ / 128) .empty) s (at_ % 128))
  if r.2 ≠ 0 then (r.1,false) else pagesF half (at_ + min (128 - at_ % 128) s.size) (s.extract (min (128 - at_ % 128) s.size) s.size) r.1
termination_by s.size
decreasing_by
 have:at_ % 128 < 128:=Nat.mod_lt _ (by decide)
 rw [ByteArray.size_extract]
 omega
def headF (h:Hd) (r:Dk × Bool):Dk × Bool:=if r.2 then ((r.1.write ((h.number % 2:Nat):Int) (sectorF h)).1,decide ((r.1.write ((h.number % 2:Nat):Int) (sectorF h)).2 = 0)) else (r.1,false)
structure Wl where
 h:Hd
 recs:Int
 dead:Bool
def frameF (r:ByteArray):ByteArray:=numB r.size ++ r
def Wl.done (w:Wl) (h:Hd) (recs:Int) (r:Dk × Bool):(Wl × Dk) × Int:=if r.2 then ((⟨h,recs,w.dead⟩,r.1),0) else (({ w with dead:=true },r.1),2)
def appendF (w:Wl) (x:Dk) (r:ByteArray):(Wl × Dk) × Int :=
 if (w.dead || x.de) then (({ w with dead:=true },x),2)
 else if r.size = 0 ∨ 2048 < r.size then ((w,x),92)
 else if roomF x.S.length < w.h.snap + w.h.log + (frameF r).size then ((w,x),93)
 else if 1099511627776 ≤ w.h.number then ((w,x),94)
 else w.done ⟨w.h.number + 1,w.h.half,w.h.snap,w.h.log + (frameF r).size⟩ (w.recs + 1)
  (headF ⟨w.h.number + 1,w.h.half,w.h.snap,w.h.log + (frameF r).size⟩ (pagesF w.h.half (w.h.snap + w.h.log) (frameF r) x))
def snapF (w:Wl) (x:Dk) (s:ByteArray):(Wl × Dk) × Int :=
 if (w.dead || x.de) then (({ w with dead:=true },x),2)
 else if 17000 < s.size ∨ roomF x.S.length < s.size then ((w,x),92)
 else if 1099511627776 ≤ w.h.number then ((w,x),94)
 else w.done ⟨w.h.number + 1,1 - w.h.half,s.size,0⟩ 0 (headF ⟨w.h.number + 1,1 - w.h.half,s.size,0⟩ (pagesF (1 - w.h.half) 0 s x))
def fitN (left:Nat):Nat → Nat
 | 0=>0
 | n + 1=>if left < (numB (n + 1)).size + (n + 1) then fitN left n else n + 1
def roomW (w:Wl) (len:Nat):Nat:=fitN (roomF len - w.h.snap - w.h.log) (min 2048 (roomF len - w.h.snap - w.h.log))
end Go.Proofs.YtkoelgkghijgiaaGreat
namespace Go.Proofs.YtkoelgkghijgiaaGreat
open Go Go.Sep Go.Proofs Go.Proofs.Tryz
set_option maxRecDepth 10000
set_option maxHeartbeats 40000000
set_option synthInstance.maxSize 2000
def hiC (n k i:Nat):List Value:=List.replicate (k - i) (.int .u8 0) ++ (hiL n i).map (Value.int .u8)
theorem hiC_len {n k i:Nat} (h:i ≤ k):(hiC n k i).length = k:=by simp [hiC,hiL_len];omega
theorem hiC_set {n k i:Nat} (h:i < k):(hiC n k i).set (k - 1 - i) (.int .u8 ((n / 256 ^ i % 256:Nat):Int)) = hiC n k (i + 1):=by
 have e:k - i = (k - 1 - i) + 1:=by omega
 unfold hiC
 rw [e,List.replicate_succ',List.append_assoc,List.set_append_right _ _ (by simp),List.length_replicate,Nat.sub_self,show k - (i + 1) = k - 1 - i from by omega,hiL,List.map_cons]
 rfl
theorem hiL_byte (n:Nat):∀ k,∀ x ∈ hiL n k,0 ≤ x ∧ x < 256
 | 0,x,h=>by cases h
 | k + 1,x,h=>by
  rw [hiL] at h
  rcases List.mem_cons.1 h with rfl|h
  ·have:=Nat.mod_lt (n / 256 ^ k) (by decide:256 > 0)
   omega
  ·exact hiL_byte n k x h
theorem bv_bytes:∀ {xs:List Int},(∀ x ∈ xs,0 ≤ x ∧ x < 256) → bv (bytesOf xs) = xs.map (Value.int .u8):=by
 intro xs hx
 have key:∀ (xs:List Int) (s:ByteArray),(xs.foldl (fun r n=>r.push (UInt8.ofNat n.toNat)) s).data.toList = s.data.toList ++ xs.map fun n=>UInt8.ofNat n.toNat:=by
  intro xs
  induction xs with
  | nil=>intro s;simp
  | cons x xs ih=>intro s;rw [List.foldl_cons,ih];simp [ByteArray.push]
 have hk:=key xs .empty
 have hk:(bytesOf xs).data.toList = xs.map fun n=>UInt8.ofNat n.toNat:=by simpa [bytesOf] using hk
 unfold bv
 rw [hk,List.map_map]
 apply List.map_congr_left
 intro x h
 have:=hx x h
 simp only [Function.comp,UInt8.toNat_ofNat']
 congr 1
 omega
theorem bv_hi (n k:Nat):bv (hiB n k) = (hiL n k).map (Value.int .u8):=bv_bytes (hiL_byte n k)
theorem shr8 (n i:Nat) (hi:i ≤ 7):IntKind.wrap .u8 ((n:Int).fdiv (2 ^ (min (Int.toNat (8 * (i:Int))) (IntKind.bits .i64)))) = ((n / 256 ^ i % 256:Nat):Int):=by
 have e1:min (Int.toNat (8 * (i:Int))) (IntKind.bits .i64) = 8 * i:=by show min _ 64 = _;omega
 have e2:(2:Int) ^ (8 * i) = ((256 ^ i:Nat):Int):=by
  rw [show (256:Nat) = 2 ^ 8 from rfl,← Nat.pow_mul];push_cast;rfl
 rw [e1,e2,Int.fdiv_eq_ediv_of_nonneg _ (Int.natCast_nonneg _)]
 simp only [IntKind.wrap,IntKind.bits,IntKind.signed,Bool.false_and,Bool.false_eq_true,if_false]
 push_cast
 rfl
theorem high_spec (n k:Nat) (hk1:1 ≤ k) (hk:k ≤ 8) (hn:n < 9223372036854775808):Con prog 184 #[.int .i64 n,.int .i64 k] [] fun v A=>v = .string (hiB n k) ∧ A = []:=by
 refine zqI (vs:=[_,_]) func184 ntmps184 fun B=>?_
 refine zg0 ?_
 refine Ops.mk1 rfl rfl rfl rfl (by omega) (by omega) (by decide) rfl (noPd rfl) (fun g=>?_)
 rw [show ((k:Nat):Int).toNat = k from by omega]
 refine zg1 ?_
 refine Cd.loopK (σ:=Nat) (fun i=>i ≤ k) (fun i=>[(0,.int .i64 n),(1,.int .i64 k),(5,.slice (some ⟨g,0,none⟩) k k),(10,.int .i64 k),(11,.int .i64 i)]) (fun i=>[(g,cl (hiC n k i) 5)]) (fun i=>k - i) 0 (Nat.zero_le _) ⟨rfl,rfl,rfl,rfl,rfl,trivial⟩ (fun w h=>by simpa [hiC,hiL] using h) (fun i hi=>?_)
 have hlen:=hiC_len (n:=n) hi
 by_cases hlt:i < k
 ·have hlt':(i:Int) < k:=by omega
  refine zg10 ?_
  refine Ops.shrI rfl rfl rfl rfl (by omega) rfl ?_
  refine Ops.cvI rfl rfl rfl rfl ?_
  rw [shr8 n i (by omega)]
  refine zg14 ?_
  rw [show ((k:Int) - 1 - i).toNat = k - 1 - i from by omega]
  refine Ops.st1 (L':=hiC n k (i + 1)) rfl rfl rfl rfl rfl (hs:=⟨by rw [Nat.mul_one,hiC_set hlt],by rw [Nat.mul_one];omega⟩) (noPd rfl) ?_
  refine zg9 ?_
  exact Ops.nilN (round_end (i + 1:Nat) (by show i + 1 ≤ k;omega) (by show k - (i + 1) < k - i;omega) ⟨rfl,rfl,rfl,rfl,rfl,trivial⟩ (fun w h=>h.split))
 ·have hlt':¬ (i:Int) < k:=by omega
  have he:i = k:=by omega
  subst he
  refine zg2 ?_
  refine Ops.cvSp (bs:=hiB n i) rfl rfl rfl (hiB_size n i) ?_ rfl ?_
  ·intro j u hu
   rw [bv_hi] at hu
   simpa [hiC] using hu
  refine zg0 ?_
  exact ze9
theorem of_spec (s:ByteArray) (hs:s.size ≤ 1000):Con prog 244 #[.string s] [] fun v A=>v = .int .i64 (ofF s) ∧ A = []:=by
 refine zqI (vs:=[_]) func244 ntmps244 fun B=>?_
 refine zg4 ?_
 refine Cd.loopK (σ:=Nat) (fun i=>i ≤ s.size) (fun i=>[(0,.string s),(3,.int .i64 (ofG s i)),(6,.int .i64 s.size),(7,.int .i64 i)]) (fun i=>[]) (fun i=>s.size - i) 0 (Nat.zero_le _) ⟨rfl,rfl,rfl,rfl,trivial⟩ (fun w h=>h) (fun i hi=>?_)
 by_cases hlt:i < s.size
 ·have hlt':(i:Int) < s.size:=by omega
  have hb:s[((i:Nat):Int).toNat]? = some (s[i]'hlt):=by
   rw [show ((i:Nat):Int).toNat = i from by omega];exact getElem?_pos s i hlt
  have hb2:bat s i = (s[i]'hlt).toNat:=bat_some (getElem?_pos s i hlt)
  have hb3:=UInt8.toNat_lt (s[i]'hlt)
  refine zg2 ?_
  refine Ops.shlI rfl rfl rfl rfl (by decide) rfl ?_
  refine zg0 ?_
  refine Ops.ixS rfl rfl rfl rfl (by omega) hb rfl ?_
  refine Ops.cvI rfl rfl rfl rfl ?_
  rw [show IntKind.wrap .i64 (((s[i]'hlt).toNat:Nat):Int) = ((bat s i:Nat):Int) from by rw [hb2];simp [IntKind.wrap,IntKind.bits,IntKind.signed];omega]
  rw [show (2:Int) ^ min (Int.toNat 8) (IntKind.bits .i64) = 2 ^ 8 from rfl]
  refine zg13 ?_
  exact Ops.nilN (round_end (i + 1:Nat) (by show i + 1 ≤ s.size;omega) zp21 ⟨rfl,rfl,rfl,rfl,trivial⟩ (fun w h=>h))
 ·have hlt':¬ (i:Int) < s.size:=by omega
  have he:i = s.size:=by omega
  refine zg2 ?_
  exact ze28
end Go.Proofs.YtkoelgkghijgiaaGreat
namespace Go.Sep
open Go
section
variable {P:Program} {N:Fi} {B:Base} {Q:Exit → Act → World → Prop} {T:Tm} {A:List Blk} {ops:Array Oper} {l:List Oper}
variable {d:Nat} {ty:TypeId} {pos:String} {af:Array Edge} {m:Md} {gd:Option (Nat × Bool)}
theorem Still.cvSp {i dd:Nat} {s t e:TypeId} {x:Operand} {b o n c:Nat} {bs:ByteArray} {L:List Value} {E:TypeId} (ho:ops[i]? = some ⟨some dd,.convert s t x,ty,pos,af,gd⟩) (hg:gst ops T gd = some true) [hs:TyD P s (.slice e)] [he:TyD P e (.int .u8)] [ht:TyD P t .string] (hx:ev T x = some (.slice (some ⟨b,o,none⟩) n c)) [hb:Has A b (cl L E)]
  (hn:bs.size = n) (h:∀ j u,(bv bs)[j]? = some u → L[o + j]? = some u) (hl:look T dd = some (.string bs)):Still P N B ops T A i :=
 ⟨_,dd,_,ho,rfl,hl,fun a w hF hS=>.inl ⟨gst_wanted (o:=⟨some dd,.convert s t x,ty,pos,af,gd⟩) hF hg,by
  have h1:=run_bytes (P:=P) hn (fun j u hu=>(cell_of (hS.here _ hb.mem) _).trans (h j u hu)) (w:=w) (c:=c)
  simp only [execOp,hF.eval hx]
  unfold convert
  simp [hs.run_und,ht.run_und,he.run_und,h1]⟩⟩
theorem Still.skipU {i dd j dj:Nat} {want:Bool} {op:Op} (ho:ops[i]? = some ⟨some dd,op,ty,pos,af,some (j,want)⟩) (hj:(ops[j]?).bind (·.dst) = some dj) (hu:look T dj = some undef) (hl:look T dd = some undef):Still P N B ops T A i :=
 ⟨_,dd,undef,ho,rfl,hl,fun a w hF hS=>.inr ⟨unwanted hF hj hu,rfl⟩⟩
end
section
variable {P:Program} {K:Nat} {N:Fi} {B:Base} {T:Tm} {A A':List Blk} {fn:Func} {R:Value → List Blk → Prop}
theorem ret4 {r s q p:ResultVar} {v u x y:Value} (hr:fn.results = #[r,s,q,p]) (h1:Res P ⟨K,[]⟩ B T A r v) (h2:Res P ⟨K,[]⟩ B T A s u) (h3:Res P ⟨K,[]⟩ B T A q x) (h4:Res P ⟨K,[]⟩ B T A p y) (hA:∀ w,Sat B A w → Sat B A' w) (hR:R (.tuple #[v,u,x,y]) A'):∀ a w,Fr ⟨K,[]⟩ T a → Sat B A w → post P fn B R .ret a w :=
 fun a w hF hS=>of_leaves hF ⟨.tuple #[v,u,x,y],by
  have e1:=h1 a w hF hS
  have e2:=h2 a w hF hS
  have e3:=h3 a w hF hS
  have e4:=h4 a w hF hS
  unfold results
  rw [hr]
  generalize hx:(fun x:ResultVar=>_:ResultVar → Sem Value) = f
  have e1':(f r).run P w = .ok v w:=by rw [← hx];exact e1
  have e2':(f s).run P w = .ok u w:=by rw [← hx];exact e2
  have e3':(f q).run P w = .ok x w:=by rw [← hx];exact e3
  have e4':(f p).run P w = .ok y w:=by rw [← hx];exact e4
  simp [e1',e2',e3',e4'],_,A',rfl,hR,hA w hS⟩
end
end Go.Sep
namespace Go.Proofs.YtkoelgkghijgiaaGreat
open Go Go.Sep Go.Proofs Go.Proofs.Tryz
set_option maxRecDepth 10000
set_option maxHeartbeats 40000000
set_option synthInstance.maxSize 2000
@[reducible] def Hd.row (h:Hd):List Value:=[.int .i64 h.number,.int .i64 h.half,.int .i64 h.snap,.int .i64 h.log]
structure HdOk (h:Hd):Prop where
 n:h.number < 9223372036854775808
 f:h.half < 256
 s:h.snap < 9223372036854775808
 l:h.log < 9223372036854775808
def headB (h:Hd):ByteArray:=hiB h.number 8 ++ bytesOf [(h.half:Int)] ++ hiB h.snap 4 ++ hiB h.log 4
theorem headB_size (h:Hd):(headB h).size = 17:=by simp [headB,hiB_size,bytesOf_size]
theorem sector_spec (h:Hd) (ok:HdOk h):Con prog 118 #[.agg h.row.toArray] [] fun v A=>v = .string (sectorF h) ∧ A = []:=by
 have hsz:=headB_size h
 obtain ⟨o1,o2,o3,o4⟩:=ok
 have hw:IntKind.wrap .u8 (h.half:Int) = (h.half:Int):=by
  simp only [IntKind.wrap,IntKind.bits,IntKind.signed,Bool.false_and,Bool.false_eq_true,if_false]
  omega
 have hb:bv (bytesOf [(h.half:Int)]) = [.int .u8 (h.half:Int)]:=bv_bytes (fun x hx=>by rw [List.mem_singleton] at hx;subst hx;omega)
 refine zqI (vs:=[_]) func118 ntmps118 fun B=>?_
 generalize hc2:Code.seq (Code.region 2 _ _) _ = c2
 repeat' (first|refine zs0 ?_|refine Ops.box rfl rfl rfl rfl (noPd rfl) (fun b=>?_))
 rename Nat=>hb1
 refine zqA (high_spec h.number 8 (by decide) (by decide) o1) fun v A' hR=>?_
 obtain ⟨rfl,rfl⟩:=hR
 refine zg0 ?_
 subst hc2
 refine Cd.cut (σ:=Unit) (fun _=>True) (fun _=>[(3,.string (hiB h.number 8)),(4,.string (headB h))]) (fun _=>[]) ?_ (fun _ _=>?_)
 ·refine zdr [qz 0,qz 1,qy 2,qz 3,qz 7,qy 8,qz 11,qy 12,(4,4,[8,12]),qy 5,qz 6,(9,2,[12,5]),qz 10,(13,2,[5]),qz 14,qz 15] ?_
  refine zg5 ?_
  refine Ops.cvI rfl rfl rfl rfl ?_
  rw [hw]
  refine zg5 ?_
  refine Ops.fork' [(0,0,[]),(1,0,[]),(2,1,[]),(3,0,[]),(7,0,[]),(8,1,[]),(11,0,[]),(12,1,[]),(9,4,[2,12]),(4,4,[12]),(5,1,[]),(6,0,[]),(10,0,[]),(13,2,[5]),(14,0,[]),(15,0,[])] (by kernel_rfl) rfl (by simp only [picked,nth];exact rfl) ?_ ?_
  ·repeat' (first|refine Ops.bs1 rfl rfl rfl rfl rfl rfl rfl zp3 (fun b=>?_))
   refine Ops.cvSp (bs:=bytesOf [(h.half:Int)]) rfl rfl rfl (bytesOf_size _) (fun j u hu=>by rw [hb] at hu;rw [Nat.zero_add];exact hu) rfl ?_
   skip
   refine Ops.cat rfl rfl rfl rfl zp13 rfl ?_
   skip
   refine Ops.call (high_spec h.snap 4 (by decide) (by decide) o3) rfl zp8 rfl rfl rfl (fun v A' hR=>?_)
   obtain ⟨rfl,rfl⟩:=hR
   skip
   skip
   refine Ops.cat rfl rfl rfl rfl zp13 rfl ?_
   skip
   refine Ops.call (high_spec h.log 4 (by decide) (by decide) o4) rfl zp8 rfl rfl rfl (fun v A' hR=>?_)
   obtain ⟨rfl,rfl⟩:=hR
   skip
   skip
   refine Ops.cat rfl rfl rfl rfl zp13 rfl ?_
   refine zg0 ?_
   exact ze15
  ·skip
   refine Ops.call (high_spec h.snap 4 (by decide) (by decide) o3) rfl zp8 rfl rfl rfl (fun v A' hR=>?_)
   obtain ⟨rfl,rfl⟩:=hR
   refine Ops.fork' [(0,0,[]),(1,0,[]),(2,1,[]),(3,0,[]),(7,0,[]),(8,1,[]),(11,0,[]),(12,1,[]),(9,4,[2,12]),(13,4,[2]),(4,2,[]),(5,1,[]),(6,0,[]),(10,0,[]),(14,0,[]),(15,0,[])] (by kernel_rfl) rfl (by simp only [picked,nth];exact rfl) ?_ ?_
   ·repeat' (first|refine Ops.bs1 rfl rfl rfl rfl rfl rfl rfl zp3 (fun b=>?_))
    refine Ops.cvSp (bs:=bytesOf [(h.half:Int)]) rfl rfl rfl (bytesOf_size _) (fun j u hu=>by rw [hb] at hu;rw [Nat.zero_add];exact hu) rfl ?_
    skip
    refine Ops.cat rfl rfl rfl rfl zp13 rfl ?_
    skip
    refine Ops.cat rfl rfl rfl rfl zp13 rfl ?_
    skip
    refine Ops.call (high_spec h.log 4 (by decide) (by decide) o4) rfl zp8 rfl rfl rfl (fun v A' hR=>?_)
    obtain ⟨rfl,rfl⟩:=hR
    skip
    skip
    refine Ops.cat rfl rfl rfl rfl zp13 rfl ?_
    refine zg0 ?_
    exact ze15
   ·skip
    refine Ops.call (high_spec h.log 4 (by decide) (by decide) o4) rfl zp8 rfl rfl rfl (fun v A' hR=>?_)
    obtain ⟨rfl,rfl⟩:=hR
    repeat' (first|refine Ops.bs1 rfl rfl rfl rfl rfl rfl rfl zp3 (fun b=>?_))
    refine Ops.cvSp (bs:=bytesOf [(h.half:Int)]) rfl rfl rfl (bytesOf_size _) (fun j u hu=>by rw [hb] at hu;rw [Nat.zero_add];exact hu) rfl ?_
    skip
    refine Ops.cat rfl rfl rfl rfl zp13 rfl ?_
    skip
    refine Ops.cat rfl rfl rfl rfl zp13 rfl ?_
    skip
    refine Ops.cat rfl rfl rfl rfl zp13 rfl ?_
    refine zg0 ?_
    exact ze15
 ·refine zg11 ?_
  rw [show ((128:Int) - (((headB h).size:Nat):Int) - 8) = 103 from by omega]
  refine Ops.call noughts_spec rfl (noPd rfl) rfl rfl rfl (fun v A' hR=>?_)
  obtain ⟨rfl,rfl⟩:=hR
  refine Ops.cat rfl rfl rfl rfl ?_ rfl ?_
  ·rw [hsz,zB_size];decide
  refine zg0 ?_
  refine Ops.cat rfl rfl rfl rfl ?_ rfl ?_
  ·rw [ByteArray.size_append,hsz,zB_size,hiB_size];decide
  refine zg0 ?_
  exact ze9
structure DkA (db:Nat) (x:Dk) (k:Nat) (D:List Blk):Prop where
 a:DiskA db x.S x.ar x.bd x.de k D
 n:x.S.length ≤ 1026
 k:k ≤ 900000000000
 b0:0 ≤ x.bd
 b1:x.bd ≤ 128
 a0:0 ≤ x.ar
 a1:x.ar ≤ 9223372036854775807
theorem roomF_le (n:Nat):roomF n ≤ 65536:=by
 unfold roomF;split <;> omega
theorem room_spec (db:Nat) (x:Dk) (k:Nat) (D:List Blk) (hD:DkA db x k D):Con prog 115 #[ptr db] D fun v A=>v = .int .i64 (roomF x.S.length:Nat) ∧ A = D:=by
 have hn:=hD.n
 refine zqI (vs:=[_]) func115 ntmps115 fun B=>?_
 refine zg0 ?_
 refine zqA (dsize_spec db x.S x.ar x.bd x.de k D hD.a) fun v A' hR=>?_
 obtain ⟨rfl,rfl⟩:=hR
 generalize x.S.length = n at hn ⊢
 have h2:(2:Int) ≠ 0:=by decide
 unfold roomF
 by_cases c1:n < 4
 ·have c1':(n:Int) - 2 < 2:=by omega
  rw [if_pos (.inl c1)]
  refine zg10 ?_
  exact ze37
 ·have c1':¬ (n:Int) - 2 < 2:=by omega
  have em:((n:Int) - 2).tmod 2 = ((n % 2:Nat):Int):=by
   rw [show (n:Int) - 2 = ((n - 2:Nat):Int) from by omega,show (2:Int) = ((2:Nat):Int) from rfl,← Int.ofNat_tmod];omega
  by_cases c2:n % 2 = 1
  ·rw [if_pos (.inr (.inl c2))]
   refine zg11 ?_
   refine Ops.remI rfl rfl rfl rfl h2 rfl ?_
   rw [em,c2]
   refine zg7 ?_
   exact ze37
  ·rw [if_neg (by omega)]
   have c2':¬ (((n % 2:Nat):Int) = 1):=by omega
   have c3':¬ (1024:Int) < (n:Int) - 2:=by omega
   refine zg11 ?_
   refine Ops.remI rfl rfl rfl rfl h2 rfl ?_
   rw [em]
   refine zg8 ?_
   rw [show (n:Int) - 2 = ((n - 2:Nat):Int) from by omega]
   refine Ops.quoI (a:=n - 2) (b:=2) rfl rfl rfl rfl (by omega) (by decide) rfl ?_
   refine zg17 ?_
   exact Cd.ret (ret1 (A':=A') rfl (Res.tmp rfl) (fun _ h=>h.split) ⟨by push_cast;rfl,rfl⟩)
theorem roomF_form {n:Nat} (h:roomF n ≠ 0):∃ hf,1 ≤ hf ∧ hf ≤ 512 ∧ n = 2 + 2 * hf ∧ roomF n = hf * 128:=by
 unfold roomF at h ⊢
 split at h
 ·exact absurd rfl h
 ·rename_i hc
  rw [if_neg hc]
  exact ⟨(n - 2) / 2,by omega,by omega,by omega,rfl⟩
theorem half_at {half hf:Nat} (h:half ≤ 1):half * (hf * 128) / 128 = half * hf:=by
 rcases Nat.le_one_iff_eq_zero_or_eq_one.1 h with rfl|rfl <;> omega
theorem readD_in {S:List ByteArray} {i:Nat} (h:i < S.length):readD S false (i:Int) = (S.getD i .empty,0):=by
 unfold readD
 rw [if_neg (by simp),if_pos ⟨by omega,by omega⟩,Int.toNat_natCast]
structure BtS where
 i:Nat
 E:List Blk
theorem bytes_spec (db:Nat) (x:Dk) (k:Nat) (D:List Blk) (hD:DkA db x k D) (half n:Nat) (hde:x.de = false) (hh:half ≤ 1) (hr:n ≤ roomF x.S.length):Con prog 245 #[ptr db,.int .i64 half,.int .i64 n] D fun v A=>v = .string (bytesF x.S half n) ∧ A = D:=by
 have hrl:=roomF_le x.S.length
 have hA:=hD.a
 have hlast:∀ i,i < (n + 127) / 128 → 2 + half * roomF x.S.length / 128 + i < x.S.length:=fun i hi=>by
  obtain ⟨hf,h1,h2,h3,h4⟩:=roomF_form (n:=x.S.length) (by omega)
  rw [h4,half_at hh]
  rw [h4] at hr
  rcases Nat.le_one_iff_eq_zero_or_eq_one.1 hh with rfl|rfl <;> omega
 have hs:∀ s ∈ x.S,s.size = 128:=by obtain ⟨_,_,_,_,_,_,_,_,_,_,h⟩:=hA;exact h
 have hsz:(catS x.S (2 + half * roomF x.S.length / 128) ((n + 127) / 128)).size = (n + 127) / 128 * 128:=by
  by_cases h0:(n + 127) / 128 = 0
  ·rw [h0];rfl
  ·exact catS_size hs _ (by have:=hlast ((n + 127) / 128 - 1) (by omega);omega)
 have hcs:∀ i,i ≤ (n + 127) / 128 → (catS x.S (2 + half * roomF x.S.length / 128) i).size = i * 128:=fun i hi=>by
  by_cases h0:i = 0
  ·rw [h0];rfl
  ·exact catS_size hs _ (by have:=hlast (i - 1) (by omega);omega)
 refine zqI (vs:=[_,_,_]) func245 ntmps245 fun B=>?_
 repeat' (first|refine zs1 ?_|refine Ops.alloc rfl rfl rfl (noPd rfl) (fun b=>?_))
 rename Nat=>bb
 refine zqA (room_spec db x k D hD) fun v A' hR=>?_
 obtain ⟨rfl,e⟩:=hR
 subst A'
 have hhr:(half:Int) * (roomF x.S.length:Nat) = ((half * roomF x.S.length:Nat):Int):=by push_cast;rfl
 have hhr2:half * roomF x.S.length ≤ 65536:=by
  rcases Nat.le_one_iff_eq_zero_or_eq_one.1 hh with rfl|rfl <;> omega
 refine zg17 ?_
 rw [hhr]
 refine Ops.quoI (b:=128) rfl rfl rfl rfl (by omega) (by decide) rfl ?_
 refine zg9 ?_
 rw [show (2:Int) + ((half * roomF x.S.length / 128:Nat):Int) = ((2 + half * roomF x.S.length / 128:Nat):Int) from by push_cast;rfl]
 generalize hF:2 + half * roomF x.S.length / 128 = first at hlast hsz hcs ⊢
 refine Cd.loopK (σ:=BtS) (fun s=>s.i ≤ (n + 127) / 128 ∧ BuA bb (catS x.S first s.i) s.E) (fun s=>[(0,ptr db),(2,.int .i64 n),(7,ptr bb),(8,.int .i64 first),(9,.int .i64 s.i)]) (fun s=>s.E ++ D) (fun s=>(n + 127) / 128 - s.i) ⟨0,[_]⟩ ⟨Nat.zero_le _,_,_,[],rfl,.inl rfl,BG.none⟩ ⟨rfl,rfl,rfl,rfl,rfl,trivial⟩ (fun w h=>h.split) (fun s hs2=>?_)
 obtain ⟨i,E⟩:=s
 obtain ⟨hi,hE⟩:=hs2
 dsimp only at hi hE ⊢
 by_cases hlt:i * 128 < n
 ·have hlt':(i:Int) * 128 < n:=by omega
  have hin:=hlast i (by omega)
  refine zg10 ?_
  refine Ops.call (dread_spec db x.S x.ar x.bd x.de k D hA _) rfl (noPd rfl) rfl rfl rfl (fun v A' hR=>?_)
  obtain ⟨rfl,e⟩:=hR
  subst A'
  rw [hde,show (first:Int) + (i:Int) = ((first + i:Nat):Int) from by push_cast;rfl,readD_in hin]
  refine zg1 ?_
  refine Ops.call (bwrite_spec bb (catS x.S first i) (x.S.getD (first + i) .empty) _ hE ?_) rfl (noPd rfl) rfl rfl rfl (fun v A' hR=>?_)
  ·have h1:=hcs (i + 1) (by omega)
   rw [catS,ByteArray.size_append] at h1
   omega
  refine zg9 ?_
  exact Ops.nilN (round_end (⟨i + 1,_⟩:BtS) ⟨by show i + 1 ≤ _;omega,hR⟩ (by show (n + 127) / 128 - (i + 1) < (n + 127) / 128 - i;omega) ⟨rfl,rfl,rfl,rfl,rfl,trivial⟩ (fun w h=>h.split))
 ·have hlt':¬ (i:Int) * 128 < n:=by omega
  have he:i = (n + 127) / 128:=by omega
  have hc9:=hcs i (by omega)
  refine zg10 ?_
  refine Ops.call (bstring_spec bb (catS x.S first i) _ hE (by omega)) rfl (noPd rfl) rfl rfl rfl (fun v A' hR=>?_)
  obtain ⟨rfl,hD2⟩:=hR
  refine zg0 ?_
  refine Ops.slSHi rfl rfl rfl rfl (by omega) (by omega) rfl ?_
  refine zg0 ?_
  exact Cd.ret (ret1 (A':=D) rfl (Res.tmp rfl) (fun _ h=>h.split) ⟨by rw [bytesF,hF,Int.toNat_natCast,he],rfl⟩)
@[reducible] def trow (t:ByteArray):List Value:=[.string t]
theorem trows_ok (ts:List ByteArray):RowsOk 1 (ts.map trow):=rows_map (f:=trow) (fun _=>⟨rfl,rfl⟩) ts
def OwnT (sv:Value) (ts:List ByteArray) (G:List Blk):Prop:=Own 9 1 sv (ts.map trow) G
def RsT (sv:Value) (ts:List ByteArray) (G:List Blk):Prop:=Rs 9 1 sv (ts.map trow) G
theorem OwnT.form {sv:Value} {ts:List ByteArray} {G:List Blk} (h:OwnT sv ts G):∃ a c,sv = .slice a ts.length c:=by
 obtain ⟨a,c,h⟩:=Own.form h
 exact ⟨a,c,by rw [h,List.length_map]⟩
theorem RsT.form {sv:Value} {ts:List ByteArray} {G:List Blk} (h:RsT sv ts G):∃ a c,sv = .slice a ts.length c:=by
 obtain ⟨a,c,h⟩:=Rs.form h
 exact ⟨a,c,by rw [h,List.length_map]⟩
theorem RsT.none:RsT (.slice none 0 0) [] []:=⟨RowsOk.nil,.inl ⟨rfl,rfl,rfl⟩⟩
theorem OwnT.cut {a:Option Addr} {n c m:Nat} {ts:List ByteArray} {G:List Blk} (h:OwnT (.slice a n c) ts G) (hm:m = ts.length):n ≤ c ∧ RsT (.slice a n m) ts G:=by
 subst hm
 rcases h.2 with ⟨h1,h2,h3⟩|⟨g,c',sp,h1,h2,h3,h4⟩
 ·injection h1 with h1 h4 h5
  subst h1;subst h4;subst h5
  have h2':ts = []:=by simpa using h2
  subst h2'
  exact ⟨Nat.le_refl _,h.1,.inl ⟨rfl,h2,h3⟩⟩
 ·injection h1 with h1 h5 h6
  subst h1;subst h5;subst h6
  exact ⟨h4,h.1,.inr ⟨g,ts.length,sp,rfl,h2⟩⟩
structure FrS where
 p:Nat
 l:List ByteArray
 sv:Value
 G:List Blk
theorem framesG_end {s:ByteArray} {p:Nat} (h:¬ p < s.size):framesG s p = some []:=by rw [framesG,dif_neg h]
theorem framesG_bad {s:ByteArray} {p:Nat} (h:p < s.size) (h2:(rdText s 2048 p 0).2.2 ≠ 0 ∨ (rdText s 2048 p 0).1.size = 0):framesG s p = none:=by rw [framesG,dif_pos h,if_pos h2]
theorem numGo_gt {b:ByteArray} {most:Nat} {over:Int}:∀ (k i p acc:Nat) {n q:Nat},numGo b most over k i p acc = .good n q → p < q
 | 0,_,_,_,n,q,h=>by cases h
 | k + 1,i,p,acc,n,q,h=>by
  unfold numGo at h
  split at h
  ·cases h
  ·split at h
   ·have:=numGo_gt k _ _ _ h;omega
   ·split at h
    ·cases h
    ·split at h
     ·cases h
     ·injection h with h1 h2;omega
theorem rdText_gt {b:ByteArray} {most p:Nat} (h:(rdText b most p 0).2.2 = 0) (h2:∀ er,numR b most 23 p = .bad er → er ≠ 0):p < (rdText b most p 0).2.1:=by
 rw [rdText,if_neg (by simp)] at h ⊢
 unfold txR at h ⊢
 cases hn:numR b most 23 p with
 | bad er=>rw [hn] at h;exact absurd h (h2 er hn)
 | good n q =>
  have:=numGo_gt _ _ _ _ hn
  rw [hn] at h
  dsimp only at h ⊢
  by_cases hq:q + n ≤ b.size
  ·rw [if_pos hq];dsimp only;omega
  ·rw [if_neg hq] at h;cases h
theorem numGo_er {b:ByteArray} {most:Nat} {over:Int} (ho:over ≠ 0):∀ (k i p acc:Nat) {er:Int},numGo b most over k i p acc = .bad er → er ≠ 0
 | 0,_,_,_,er,h=>by injection h with h;omega
 | k + 1,i,p,acc,er,h=>by
  unfold numGo at h
  split at h
  ·injection h with h;omega
  ·split at h
   ·exact numGo_er ho k _ _ _ h
   ·split at h
    ·injection h with h;omega
    ·split at h
     ·injection h with h;omega
     ·cases h
theorem framesG_go {s:ByteArray} {p:Nat} (h:p < s.size) (h2:(rdText s 2048 p 0).2.2 = 0) (h3:(rdText s 2048 p 0).1.size ≠ 0):p < (rdText s 2048 p 0).2.1 ∧ framesG s p = (framesG s (rdText s 2048 p 0).2.1).map ((rdText s 2048 p 0).1 :: ·):=by
 have hg:=rdText_gt h2 (fun er he=>numGo_er (by decide) _ _ _ _ he)
 refine ⟨hg,?_⟩
 rw [framesG,dif_pos h,if_neg (by rintro (h|h);exact h h2;exact h3 h),dif_pos hg]
theorem frames_spec (B0:Base) (s:ByteArray) (hs:s.size ≤ 1000000):ConB prog B0 246 #[.string s] [] fun v A =>
  (framesG s 0 = none ∧ v = .tuple #[.slice none 0 0,.bool false] ∧ A = []) ∨ (∃ l sv G,framesG s 0 = some l ∧ v = .tuple #[sv,.bool true] ∧ A = G ∧ RsT sv l G):=by
 refine zqJ (vs:=[_]) func246 ntmps246 fun B hB=>?_
 refine zg0 ?_
 refine zqA (read_spec s) fun v A' hR=>?_
 obtain ⟨rb,rfl,rfl⟩:=hR
 refine zg1 ?_
 refine Cd.loopK (σ:=FrS) (fun t=>t.p ≤ s.size ∧ t.l.length ≤ t.p ∧ framesG s 0 = (framesG s t.p).map (t.l ++ ·) ∧ OwnT t.sv t.l t.G) (fun t=>[(4,t.sv),(5,ptr rb)]) (fun t=>RdB rb s t.p 0 :: t.G) (fun t=>s.size - t.p) ⟨0,[],.slice none 0 0,[]⟩ ⟨Nat.zero_le _,Nat.le_refl _,by cases framesG s 0 <;> rfl,Own.none⟩ ⟨rfl,rfl,trivial⟩ (fun w h=>h.split) (fun t ht=>?_)
 obtain ⟨p,l,sv,G⟩:=t
 obtain ⟨hp,hlp,hfr,hO⟩:=ht
 dsimp only at hp hlp hfr hO ⊢
 obtain ⟨a,c,rfl⟩:=hO.form
 by_cases hlt:p < s.size
 ·have hlt':(0:Int) < (s.size:Int) - (p:Int):=by omega
  refine zg0 ?_
  refine zqA (left_spec rb s p 0 hp hs) fun v A' hR=>?_
  obtain ⟨rfl,rfl⟩:=hR
  refine zg2 ?_
  refine zqB (rtext_spec B0 rb s p 2048 0 hp hs (by decide)) hB fun v A' hR=>?_
  obtain ⟨rfl,rfl⟩:=hR
  refine zg0 ?_
  refine zqA (fault_spec rb s (rdText s 2048 p 0).2.1 (rdText s 2048 p 0).2.2) fun v A' hR=>?_
  obtain ⟨rfl,rfl⟩:=hR
  have hg:=framesG_go (s:=s) (p:=p) hlt
  have hb:=framesG_bad (s:=s) (p:=p) hlt
  have hat:=rdText_at (b:=s) (most:=2048) (e:=0) hp
  generalize rdText s 2048 p 0 = r at hg hb hat ⊢
  obtain ⟨x,q,e⟩:=r
  dsimp only at hg hb hat ⊢
  by_cases he:e = 0
  ·subst he
   rw [show faultF q 0 = (0,0) from if_pos rfl]
   by_cases hx:x = ⟨#[]⟩
   ·subst hx
    have hb:=hb (.inr rfl)
    refine zg7 ?_
    exact ze38
   ·have hne:x.size ≠ 0:=fun h=>hx (ByteArray.size_eq_zero_iff.1 h)
    obtain ⟨h1,h2⟩:=hg rfl hne
    repeat' (first|refine zs4 ?_|refine Ops.bs1 rfl rfl rfl rfl rfl rfl rfl (noPd rfl) (fun b=>?_))
    have hll:(l.map trow).length = l.length:=List.length_map _
    refine Ops.app1 (rows:=l.map trow) hO (by rw [hll];omega) (by rw [hll];omega) rfl rfl rfl rfl (by rfl) (by rfl) rfl (noPd rfl) rfl (fun v G' hG'=>?_)
    have hG2:OwnT v (l ++ [x]) G':=by unfold OwnT;rw [List.map_append];exact hG'
    clear hG'
    refine zg0 ?_
    exact Ops.nilN (inB (round_end (⟨q,l ++ [x],v,G'⟩:FrS) ⟨hat,by show (l ++ [x]).length ≤ q;rw [List.length_append,List.length_singleton];omega,by show _ = (framesG s q).map ((l ++ [x]) ++ ·);rw [hfr,h2];cases framesG s q <;> simp,hG2⟩ (by show s.size - q < s.size - p;omega) ⟨rfl,rfl,trivial⟩ (fun w h=>h.split)))
  ·rw [show faultF q e = (e,(q:Int)) from if_neg he]
   have hb:=hb (.inl he)
   refine zg7 ?_
   exact ze38
 ·have hlt':¬ (0:Int) < (s.size:Int) - (p:Int):=by omega
  obtain ⟨hc1,hc2⟩:=hO.cut rfl
  refine zg0 ?_
  refine zqA (left_spec rb s p 0 hp hs) fun v A' hR=>?_
  obtain ⟨rfl,rfl⟩:=hR
  refine zg2 ?_
  refine Ops.slHM rfl rfl rfl rfl rfl (by omega) (by omega) (by omega) rfl ?_
  rw [Int.toNat_natCast]
  refine zg0 ?_
  exact Cd.ret (ret2 (A':=G) rfl (Res.tmp rfl) (Res.tmp rfl) (fun _ h=>h.split) (.inr ⟨l,_,G,by rw [hfr,framesG_end hlt];simp,rfl,rfl,hc2⟩))
theorem foundF_bad1 {S:List ByteArray} {at_:Nat} (h:ofF ((S.getD at_ .empty).extract 0 8) < 1 ∨ 1099511627776 < ofF ((S.getD at_ .empty).extract 0 8) ∨ ofF ((S.getD at_ .empty).extract 0 8) % 2 ≠ (at_:Int) ∨ 1 < bat (S.getD at_ .empty) 8):foundF S at_ = none:=by
 unfold foundF
 exact if_pos h
theorem foundF_bad2 {S:List ByteArray} {at_:Nat} (h:¬ (ofF ((S.getD at_ .empty).extract 0 8) < 1 ∨ 1099511627776 < ofF ((S.getD at_ .empty).extract 0 8) ∨ ofF ((S.getD at_ .empty).extract 0 8) % 2 ≠ (at_:Int) ∨ 1 < bat (S.getD at_ .empty) 8))
  (h2:sectorF ⟨(ofF ((S.getD at_ .empty).extract 0 8)).toNat,bat (S.getD at_ .empty) 8,rdN (S.getD at_ .empty) 9 13,rdN (S.getD at_ .empty) 13 17⟩ ≠ S.getD at_ .empty ∨ 17000 < rdN (S.getD at_ .empty) 9 13 ∨ roomF S.length < rdN (S.getD at_ .empty) 9 13 + rdN (S.getD at_ .empty) 13 17):foundF S at_ = none:=by
 unfold foundF
 exact (if_neg h).trans (if_pos h2)
theorem foundF_go {S:List ByteArray} {at_:Nat} (h:¬ (ofF ((S.getD at_ .empty).extract 0 8) < 1 ∨ 1099511627776 < ofF ((S.getD at_ .empty).extract 0 8) ∨ ofF ((S.getD at_ .empty).extract 0 8) % 2 ≠ (at_:Int) ∨ 1 < bat (S.getD at_ .empty) 8))
  (h2:¬ (sectorF ⟨(ofF ((S.getD at_ .empty).extract 0 8)).toNat,bat (S.getD at_ .empty) 8,rdN (S.getD at_ .empty) 9 13,rdN (S.getD at_ .empty) 13 17⟩ ≠ S.getD at_ .empty ∨ 17000 < rdN (S.getD at_ .empty) 9 13 ∨ roomF S.length < rdN (S.getD at_ .empty) 9 13 + rdN (S.getD at_ .empty) 13 17)) :
  foundF S at_ = (framesG ((bytesF S (bat (S.getD at_ .empty) 8) (rdN (S.getD at_ .empty) 9 13 + rdN (S.getD at_ .empty) 13 17)).extract (rdN (S.getD at_ .empty) 9 13) (rdN (S.getD at_ .empty) 9 13 + rdN (S.getD at_ .empty) 13 17)) 0).map fun l=>(⟨(ofF ((S.getD at_ .empty).extract 0 8)).toNat,bat (S.getD at_ .empty) 8,rdN (S.getD at_ .empty) 9 13,rdN (S.getD at_ .empty) 13 17⟩,(bytesF S (bat (S.getD at_ .empty) 8) (rdN (S.getD at_ .empty) 9 13 + rdN (S.getD at_ .empty) 13 17)).extract 0 (rdN (S.getD at_ .empty) 9 13),l):=by
 unfold foundF
 exact (if_neg h).trans (if_neg h2)
theorem rdN_lt (s:ByteArray) (i:Nat):rdN s i (i + 4) < 4294967296:=by
 unfold rdN
 rw [show i + 4 - i = 4 from by omega]
 exact ofn_lt _ 4
theorem readD_in1 {S:List ByteArray} {i:Nat} (h:i < S.length):(readD S false (i:Int)).1 = S.getD i .empty:=by rw [readD_in h]
theorem readD_in2 {S:List ByteArray} {i:Nat} (h:i < S.length):(readD S false (i:Int)).2 = 0:=by rw [readD_in h]
theorem bytesF_size {S:List ByteArray} (hs:∀ s ∈ S,s.size = 128) {half n:Nat} (hh:half ≤ 1) (hr:n ≤ roomF S.length):(bytesF S half n).size = n:=by
 have hsz:(catS S (2 + half * roomF S.length / 128) ((n + 127) / 128)).size = (n + 127) / 128 * 128:=by
  by_cases h0:(n + 127) / 128 = 0
  ·rw [h0];rfl
  ·refine catS_size hs _ ?_
   obtain ⟨hf,h1,h2,h3,h4⟩:=roomF_form (n:=S.length) (by omega)
   rw [h4,half_at hh]
   rw [h4] at hr
   rcases Nat.le_one_iff_eq_zero_or_eq_one.1 hh with rfl|rfl <;> omega
 rw [bytesF,ByteArray.size_extract]
 omega
def FoundR (o:Option (Hd × ByteArray × List ByteArray)) (D:List Blk) (v:Value) (A:List Blk):Prop :=
 (o = none ∧ ∃ (n0 n1 n2 n3:Int) (s:ByteArray),v = .tuple #[.agg [.int .i64 n0,.int .i64 n1,.int .i64 n2,.int .i64 n3].toArray,.string s,.slice none 0 0,.bool false] ∧ A = D) ∨
 (∃ h s l sv G,o = some (h,s,l) ∧ v = .tuple #[.agg h.row.toArray,.string s,sv,.bool true] ∧ A = G ++ D ∧ RsT sv l G)
theorem found_spec (B0:Base) (db:Nat) (x:Dk) (k:Nat) (D:List Blk) (hD:DkA db x k D) (at_:Nat) (hde:x.de = false) (hat:at_ ≤ 1) (hrm:roomF x.S.length ≠ 0):ConB prog B0 182 #[ptr db,.int .i64 at_] D (FoundR (foundF x.S at_) D):=by
 have hrl:=roomF_le x.S.length
 have hA:=hD.a
 have hin:at_ < x.S.length:=by
  obtain ⟨hf,h1,h2,h3,h4⟩:=roomF_form hrm
  omega
 have hs:∀ s ∈ x.S,s.size = 128:=by obtain ⟨_,_,_,_,_,_,_,_,_,_,h⟩:=hA;exact h
 obtain ⟨s,hx⟩:∃ s,s = x.S.getD at_ .empty:=⟨_,rfl⟩
 have hsz:s.size = 128:=by
  rw [hx,List.getD_eq_getElem?_getD,List.getElem?_eq_getElem hin]
  exact hs _ (List.getElem_mem _)
 have hf9:ofF (s.extract 9 13) = (rdN s 9 13:Nat):=by rw [of_four (by rw [ByteArray.size_extract];omega),ByteArray.size_extract,hsz];rfl
 have hf13:ofF (s.extract 13 17) = (rdN s 13 17:Nat):=by rw [of_four (by rw [ByteArray.size_extract];omega),ByteArray.size_extract,hsz];rfl
 have h8:s[(8:Int).toNat]? = some (s[8]'(by omega)):=getElem?_pos s 8 (by omega)
 have hb8:((s[8]'(by omega)).toNat) = bat s 8:=(bat_some (getElem?_pos s 8 (by omega))).symm
 have hbl:=bat_lt s 8
 have hw8:IntKind.wrap .i64 (((s[8]'(by omega)).toNat:Nat):Int) = ((bat s 8:Nat):Int):=by rw [hb8];simp [IntKind.wrap,IntKind.bits,IntKind.signed];omega
 have hn9:rdN s 9 13 < 4294967296:=rdN_lt s 9
 have hn13:rdN s 13 17 < 4294967296:=rdN_lt s 13
 refine zqJ (vs:=[_,_]) func182 ntmps182 fun B hB=>?_
 generalize hc2:Code.seq (Code.region 2 _ _) _ = c2
 repeat' (first|refine zs1 ?_|refine Ops.alloc rfl rfl rfl (noPd rfl) (fun b=>?_))
 rename Nat=>b4
 refine Ops.call (dread_spec db x.S x.ar x.bd x.de k D hA _) rfl (noPd rfl) rfl rfl rfl (fun v A' hR=>?_)
 obtain ⟨rfl,e⟩:=hR
 subst A'
 rw [hde,readD_in1 hin,readD_in2 hin,← hx]
 refine zg1 ?_
 subst hc2
 refine Cd.cut (σ:=Nat) (fun _=>True) (fun hb=>[(0,ptr db),(1,.int .i64 at_),(4,ptr b4),(5,.string ⟨#[]⟩),(6,.slice none 0 0),(7,.bool false),(8,.string s),(10,ptr hb)])
  (fun hb=>(hb,cl [.int .i64 (ofF (s.extract 0 8)),.int .i64 (bat s 8:Nat),.int .i64 (rdN s 9 13:Nat),.int .i64 (rdN s 13 17:Nat)] 212) :: (b4,cl [.int .i64 0,.int .i64 0,.int .i64 0,.int .i64 0] 212) :: D) ?_ (fun hb _=>?_)
 ·refine zdr [qz 0,qz 1,qz 3,qz 4,qz 5,qz 6,qz 7,qz 9,qz 10,(2,4,[]),(8,4,[]),(11,4,[]),qz 12,(13,2,[]),(14,2,[])] ?_
  refine zg0 ?_
  refine Ops.slSHi rfl rfl rfl rfl (by omega) (by omega) rfl ?_
  rw [show ((8:Int)).toNat = 8 from rfl]
  refine zg0 ?_
  refine Ops.ixS rfl rfl rfl rfl (by decide) h8 rfl ?_
  refine Ops.cvI rfl rfl rfl rfl ?_
  rw [hw8]
  refine zg0 ?_
  refine Ops.slS rfl rfl rfl rfl rfl (by omega) (by omega) (by omega) rfl ?_
  refine zg0 ?_
  refine Ops.slS rfl rfl rfl rfl rfl (by omega) (by omega) (by omega) rfl ?_
  rw [show ((9:Int)).toNat = 9 from rfl,show ((13:Int)).toNat = 13 from rfl,show ((17:Int)).toNat = 17 from rfl]
  skip
  refine Ops.fork' [(0,0,[]),(1,0,[]),(3,0,[]),(4,0,[]),(5,0,[]),(6,0,[]),(7,0,[]),(9,0,[]),(10,0,[]),(13,4,[]),(2,2,[]),(8,2,[]),(11,2,[]),(12,0,[]),(14,2,[])] (by kernel_rfl) rfl (by simp only [picked,nth];exact rfl) ?_ ?_
  ·skip
   refine zqA (of_spec (s.extract 0 8) (by rw [ByteArray.size_extract];omega)) fun v A' hR=>?_
   obtain ⟨rfl,rfl⟩:=hR
   skip
   refine Ops.fork' [(0,0,[]),(1,0,[]),(3,0,[]),(4,0,[]),(5,0,[]),(6,0,[]),(7,0,[]),(9,0,[]),(10,0,[]),(2,4,[]),(13,4,[]),(8,2,[]),(11,2,[]),(12,0,[]),(14,2,[])] (by kernel_rfl) rfl (by simp only [picked,nth];exact rfl) ?_ ?_
   ·skip
    refine zqA (of_spec (s.extract 9 13) (by rw [ByteArray.size_extract];omega)) fun v A' hR=>?_
    obtain ⟨rfl,rfl⟩:=hR
    skip
    refine Ops.fork' [(0,0,[]),(1,0,[]),(3,0,[]),(4,0,[]),(5,0,[]),(6,0,[]),(7,0,[]),(9,0,[]),(10,0,[]),(2,4,[]),(8,4,[]),(13,4,[]),(11,2,[]),(12,0,[]),(14,2,[])] (by kernel_rfl) rfl (by simp only [picked,nth];exact rfl) ?_ ?_
    ·skip
     refine zqA (of_spec (s.extract 13 17) (by rw [ByteArray.size_extract];omega)) fun v A' hR=>?_
     obtain ⟨rfl,rfl⟩:=hR
     repeat' (first|refine zs6 ?_|refine Ops.alloc rfl rfl rfl zp3 (fun b=>?_))
     rename Nat=>hb
     skip
     rw [hf9,hf13]
     exact ze39
    ·repeat' (first|refine Ops.alloc rfl rfl rfl zp3 (fun b=>?_))
     rename Nat=>hb
     skip
     refine zqA (of_spec (s.extract 13 17) (by rw [ByteArray.size_extract];omega)) fun v A' hR=>?_
     obtain ⟨rfl,rfl⟩:=hR
     refine zg19 ?_
     rw [hf9,hf13]
     exact ze39
   ·repeat' (first|refine Ops.alloc rfl rfl rfl zp3 (fun b=>?_))
    rename Nat=>hb
    skip
    refine zqA (of_spec (s.extract 9 13) (by rw [ByteArray.size_extract];omega)) fun v A' hR=>?_
    obtain ⟨rfl,rfl⟩:=hR
    skip
    refine zqA (of_spec (s.extract 13 17) (by rw [ByteArray.size_extract];omega)) fun v A' hR=>?_
    obtain ⟨rfl,rfl⟩:=hR
    refine zg19 ?_
    rw [hf9,hf13]
    exact ze39
  ·repeat' (first|refine Ops.alloc rfl rfl rfl zp3 (fun b=>?_))
   rename Nat=>hb
   skip
   refine zqA (of_spec (s.extract 0 8) (by rw [ByteArray.size_extract];omega)) fun v A' hR=>?_
   obtain ⟨rfl,rfl⟩:=hR
   skip
   refine zqA (of_spec (s.extract 9 13) (by rw [ByteArray.size_extract];omega)) fun v A' hR=>?_
   obtain ⟨rfl,rfl⟩:=hR
   skip
   refine zqA (of_spec (s.extract 13 17) (by rw [ByteArray.size_extract];omega)) fun v A' hR=>?_
   obtain ⟨rfl,rfl⟩:=hR
   refine zg19 ?_
   rw [hf9,hf13]
   exact ze39
 ·have hw:∀ a b:Nat,(a:Int) + (b:Int) = ((a + b:Nat):Int):=fun a b=>by push_cast;rfl
  obtain ⟨nm,hnm⟩:∃ n,n = ofF (s.extract 0 8):=⟨_,rfl⟩
  obtain ⟨bt,hbt⟩:∃ n,n = bat s 8:=⟨_,rfl⟩
  obtain ⟨sn,hsn⟩:∃ n,n = rdN s 9 13:=⟨_,rfl⟩
  obtain ⟨lg,hlg⟩:∃ n,n = rdN s 13 17:=⟨_,rfl⟩
  obtain ⟨rm,hrme⟩:∃ n,n = roomF x.S.length:=⟨_,rfl⟩
  have hbad1:=foundF_bad1 (S:=x.S) (at_:=at_)
  have hbad2:=foundF_bad2 (S:=x.S) (at_:=at_)
  have hgo0:=foundF_go (S:=x.S) (at_:=at_)
  rw [← hx,← hnm,← hbt] at hbad1
  rw [← hx,← hnm,← hbt,← hsn,← hlg,← hrme] at hbad2 hgo0
  rw [← hsn] at hn9
  rw [← hlg] at hn13
  rw [← hbt] at hbl
  rw [← hnm,← hbt,← hsn,← hlg]
  rw [← hrme] at hrl
  clear hf9 hf13 h8 hb8 hw8
  refine zg0 ?_
  refine zdr [qz 0,qy 1,qz 2,qz 3,qz 4,qy 5,qz 6,qz 7,qz 8,qz 9,qy 10,qz 11,qz 12,qz 13,qz 14,qz 15,qz 16,qy 17,qz 18,qz 19,qz 20,qy 21,qz 23,(22,2,[]),qz 24,qz 25,qz 26,qz 27,qy 28,qz 29,qz 30,qz 31,qz 32,qy 33,qz 34,qy 35,qz 36,qz 37,(38,2,[33,35]),qz 39,qz 40] ?_
  by_cases c1:nm < 1
  ·skip
   refine zg12 ?_
   exact Cd.ret (ret4 (A':=D) rfl (Res.cellN rfl) (Res.tmp rfl) (Res.tmp rfl) (Res.tmp rfl) (fun _ h=>h.split) (.inl ⟨hbad1 (.inl c1),0,0,0,0,_,rfl,rfl⟩))
  obtain ⟨N,hN⟩:∃ N:Nat,nm = N:=⟨_,(Int.toNat_of_nonneg (by omega)).symm⟩
  subst hN
  have em:(N:Int).tmod 2 = ((N % 2:Nat):Int):=by
   rw [show (2:Int) = ((2:Nat):Int) from rfl,← Int.ofNat_tmod]
  rw [Int.toNat_natCast] at hbad2 hgo0
  by_cases c2:1099511627776 < (N:Int)
  ·skip
   refine zg12 ?_
   exact Cd.ret (ret4 (A':=D) rfl (Res.cellN rfl) (Res.tmp rfl) (Res.tmp rfl) (Res.tmp rfl) (fun _ h=>h.split) (.inl ⟨hbad1 (.inr (.inl c2)),0,0,0,0,_,rfl,rfl⟩))
  by_cases c3:N % 2 = at_
  case neg =>
   have c3':¬ ((N % 2:Nat):Int) = at_:=by omega
   refine zg11 ?_
   refine Ops.remI rfl rfl rfl rfl (by decide) rfl ?_
   rw [em]
   refine zg12 ?_
   exact Cd.ret (ret4 (A':=D) rfl (Res.cellN rfl) (Res.tmp rfl) (Res.tmp rfl) (Res.tmp rfl) (fun _ h=>h.split) (.inl ⟨hbad1 (.inr (.inr (.inl (by omega)))),0,0,0,0,_,rfl,rfl⟩))
  have c3':((N % 2:Nat):Int) = at_:=by omega
  by_cases c4:1 < bt
  ·have c4':(1:Int) < (bt:Nat):=by omega
   refine zg11 ?_
   refine Ops.remI rfl rfl rfl rfl (by decide) rfl ?_
   rw [em]
   refine zg12 ?_
   exact Cd.ret (ret4 (A':=D) rfl (Res.cellN rfl) (Res.tmp rfl) (Res.tmp rfl) (Res.tmp rfl) (fun _ h=>h.split) (.inl ⟨hbad1 (.inr (.inr (.inr c4))),0,0,0,0,_,rfl,rfl⟩))
  have c4':¬ (1:Int) < (bt:Nat):=by omega
  have hbad2:=hbad2 (by omega)
  have hgo0:=hgo0 (by omega)
  obtain ⟨se,hse⟩:∃ se,se = sectorF ⟨N,bt,sn,lg⟩:=⟨_,rfl⟩
  rw [← hse] at hbad2 hgo0
  by_cases c5:se = s
  case neg =>
   refine zg11 ?_
   refine Ops.remI rfl rfl rfl rfl (by decide) rfl ?_
   rw [em]
   refine zg11 ?_
   refine Ops.call (sector_spec ⟨N,bt,sn,lg⟩ ⟨by show N < _;omega,by show bt < _;omega,by show sn < _;omega,by show lg < _;omega⟩) rfl (noPd rfl) rfl rfl rfl (fun v A' hR=>?_)
   obtain ⟨rfl,rfl⟩:=hR
   rw [← hse]
   refine zg12 ?_
   exact Cd.ret (ret4 (A':=D) rfl (Res.cellN rfl) (Res.tmp rfl) (Res.tmp rfl) (Res.tmp rfl) (fun _ h=>h.split) (.inl ⟨hbad2 (.inl c5),0,0,0,0,_,rfl,rfl⟩))
  by_cases c6:17000 < sn
  ·have c6':(17000:Int) < (sn:Nat):=by omega
   refine zg11 ?_
   refine Ops.remI rfl rfl rfl rfl (by decide) rfl ?_
   rw [em]
   refine zg11 ?_
   refine Ops.call (sector_spec ⟨N,bt,sn,lg⟩ ⟨by show N < _;omega,by show bt < _;omega,by show sn < _;omega,by show lg < _;omega⟩) rfl (noPd rfl) rfl rfl rfl (fun v A' hR=>?_)
   obtain ⟨rfl,rfl⟩:=hR
   rw [← hse]
   refine zg12 ?_
   exact Cd.ret (ret4 (A':=D) rfl (Res.cellN rfl) (Res.tmp rfl) (Res.tmp rfl) (Res.tmp rfl) (fun _ h=>h.split) (.inl ⟨hbad2 (.inr (.inl c6)),0,0,0,0,_,rfl,rfl⟩))
  have c6':¬ (17000:Int) < (sn:Nat):=by omega
  by_cases c7:rm < sn + lg
  ·have c7':((rm:Nat):Int) < (sn:Nat) + (lg:Nat):=by omega
   refine zg11 ?_
   refine Ops.remI rfl rfl rfl rfl (by decide) rfl ?_
   rw [em]
   refine zg11 ?_
   refine Ops.call (sector_spec ⟨N,bt,sn,lg⟩ ⟨by show N < _;omega,by show bt < _;omega,by show sn < _;omega,by show lg < _;omega⟩) rfl (noPd rfl) rfl rfl rfl (fun v A' hR=>?_)
   obtain ⟨rfl,rfl⟩:=hR
   rw [← hse]
   refine zg12 ?_
   refine Ops.call (room_spec db x k D hD) rfl zp6 rfl rfl rfl (fun v A' hR=>?_)
   obtain ⟨rfl,e⟩:=hR
   subst A'
   rw [← hrme]
   refine zg14 ?_
   exact Cd.ret (ret4 (A':=D) rfl (Res.cellN rfl) (Res.tmp rfl) (Res.tmp rfl) (Res.tmp rfl) (fun _ h=>h.split) (.inl ⟨hbad2 (.inr (.inr c7)),0,0,0,0,_,rfl,rfl⟩))
  have c7':¬ ((rm:Nat):Int) < (sn:Nat) + (lg:Nat):=by omega
  have hgo:=hgo0 (by rintro (h|h|h);exact h c5;exact c6 h;exact c7 h)
  have hbz:=bytesF_size hs (half:=bt) (n:=sn + lg) (by omega) (by omega)
  refine zg11 ?_
  refine Ops.remI rfl rfl rfl rfl (by decide) rfl ?_
  rw [em]
  refine zg11 ?_
  refine Ops.call (sector_spec ⟨N,bt,sn,lg⟩ ⟨by show N < _;omega,by show bt < _;omega,by show sn < _;omega,by show lg < _;omega⟩) rfl (noPd rfl) rfl rfl rfl (fun v A' hR=>?_)
  obtain ⟨rfl,rfl⟩:=hR
  rw [← hse]
  refine zg12 ?_
  refine Ops.call (room_spec db x k D hD) rfl zp6 rfl rfl rfl (fun v A' hR=>?_)
  obtain ⟨rfl,e⟩:=hR
  subst A'
  rw [← hrme]
  refine zg13 ?_
  rw [hw]
  refine zqA (bytes_spec db x k D hD bt (sn + lg) hde (by omega) (by omega)) fun v A' hR=>?_
  obtain ⟨rfl,e⟩:=hR
  subst A'
  generalize bytesF x.S bt (sn + lg) = b at hgo hbz ⊢
  refine zg1 ?_
  refine Ops.slSLo rfl rfl rfl rfl (by omega) (by omega) rfl ?_
  rw [Int.toNat_natCast,hbz]
  refine zqB (frames_spec B0 (b.extract sn (sn + lg)) (by rw [ByteArray.size_extract];omega)) hB fun v A' hR=>?_
  rcases hR with ⟨hfr,rfl,rfl⟩|⟨l,sv,G,hfr,rfl,e,hsv⟩
  ·rw [hfr] at hgo
   refine zg1 ?_
   refine zdr [qy 0,qz 1,qz 2,qy 3,qz 4,qz 5,qz 6,(7,2,[3]),qz 8,qz 9,qz 10] ?_
   refine zg3 ?_
   refine Ops.slSHi rfl rfl rfl rfl (by omega) (by omega) rfl ?_
   refine zg19 ?_
   exact Cd.ret (ret4 (A':=D) rfl (Res.cellN rfl) (Res.tmp rfl) (Res.tmp rfl) (Res.tmp rfl) (fun _ h=>h.split) (.inl ⟨hgo,_,_,_,_,_,rfl,rfl⟩))
  ·rw [hfr] at hgo
   subst A'
   refine zg1 ?_
   refine zdr [qy 0,qz 1,qz 2,qy 3,qz 4,qz 5,qz 6,(7,2,[3]),qz 8,qz 9,qz 10] ?_
   refine zg3 ?_
   refine Ops.slSHi rfl rfl rfl rfl (by omega) (by omega) rfl ?_
   refine zg19 ?_
   exact Cd.ret (ret4 (A':=G ++ D) rfl (Res.cellN rfl) (Res.tmp rfl) (Res.tmp rfl) (Res.tmp rfl) (fun _ h=>h.split) (.inr ⟨_,_,l,sv,G,hgo,rfl,rfl,hsv⟩))
theorem foundF_num {S:List ByteArray} {at_:Nat} {h:Hd} {s:ByteArray} {l:List ByteArray} (e:foundF S at_ = some (h,s,l)):1 ≤ h.number ∧ h.number ≤ 1099511627776 ∧ h.half ≤ 1 ∧ h.snap ≤ 17000 ∧ h.snap + h.log ≤ roomF S.length:=by
 unfold foundF at e
 dsimp only at e
 split at e
 ·cases e
 ·rename_i hc
  split at e
  ·cases e
  ·rename_i hd
   cases hf:framesG ((bytesF S (bat (S.getD at_ .empty) 8) (rdN (S.getD at_ .empty) 9 13 + rdN (S.getD at_ .empty) 13 17)).extract (rdN (S.getD at_ .empty) 9 13) (rdN (S.getD at_ .empty) 9 13 + rdN (S.getD at_ .empty) 13 17)) 0 with
   | none=>rw [hf] at e;cases e
   | some l2 =>
    rw [hf] at e
    injection e with e
    injection e with e1 e2
    subst e1
    dsimp only
    omega
def bestF (c y:Option (Hd × ByteArray × List ByteArray)):Option (Hd × ByteArray × List ByteArray) :=
 match c,y with
 | c,none=>c
 | none,some y=>some y
 | some c,some y=>if c.1.number < y.1.number then some y else some c
def curF (S:List ByteArray):Nat → Option (Hd × ByteArray × List ByteArray)
 | 0=>none
 | i + 1=>bestF (curF S i) (foundF S i)
theorem curF_two (S:List ByteArray):curF S 2 = countsF S:=by
 show bestF (bestF none (foundF S 0)) (foundF S 1) = _
 unfold countsF
 cases foundF S 0 <;> cases foundF S 1 <;> rfl
structure CnS where
 i:Nat
 h:Hd
 s:ByteArray
 sv:Value
 ok:Bool
 G:List Blk
def CurA (c:Option (Hd × ByteArray × List ByteArray)) (t:CnS):Prop :=
 (c = none ∧ t.h = ⟨0,0,0,0⟩ ∧ t.s = ⟨#[]⟩ ∧ t.sv = .slice none 0 0 ∧ t.ok = false ∧ t.G = []) ∨ ∃ l,c = some (t.h,t.s,l) ∧ t.ok = true ∧ RsT t.sv l t.G
theorem counts_spec (B0:Base) (db:Nat) (x:Dk) (k:Nat) (D:List Blk) (hD:DkA db x k D) (hde:x.de = false) (hrm:roomF x.S.length ≠ 0):ConB prog B0 116 #[ptr db] D (FoundR (countsF x.S) D):=by
 refine zqJ (vs:=[_]) func116 ntmps116 fun B hB=>?_
 repeat' (first|refine zs2 ?_|refine Ops.alloc rfl rfl rfl (noPd rfl) (fun b=>?_))
 rename_i b2
 rename Nat=>b6
 refine Cd.loopK (σ:=CnS) (fun t=>t.i ≤ 2 ∧ CurA (curF x.S t.i) t) (fun t=>[(0,ptr db),(2,ptr b2),(3,.string ⟨#[]⟩),(4,.slice none 0 0),(5,.bool false),(6,ptr b6),(7,.string t.s),(8,t.sv),(9,.bool t.ok),(16,.int .i64 t.i)])
  (fun t=>(b6,cl t.h.row 212) :: (b2,cl [.int .i64 0,.int .i64 0,.int .i64 0,.int .i64 0] 212) :: (t.G ++ D)) (fun t=>2 - t.i) ⟨0,⟨0,0,0,0⟩,⟨#[]⟩,.slice none 0 0,false,[]⟩ ⟨Nat.zero_le _,.inl ⟨rfl,rfl,rfl,rfl,rfl,rfl⟩⟩ ⟨rfl,rfl,rfl,rfl,rfl,rfl,rfl,rfl,rfl,rfl,trivial⟩ (fun w h=>h) (fun t ht=>?_)
 obtain ⟨i,h,s,sv,ok,G⟩:=t
 obtain ⟨hi,hc⟩:=ht
 dsimp only at hi hc ⊢
 by_cases hlt:i < 2
 ·have hlt':(i:Int) < 2:=by omega
  refine zg2 ?_
  refine zqB (found_spec B0 db x k D hD i hde (by omega) hrm) hB fun v A' hR=>?_
  have hcur:curF x.S (i + 1) = bestF (curF x.S i) (foundF x.S i):=rfl
  rcases hR with ⟨hf,n0,n1,n2,n3,u,rfl,e⟩|⟨h2,s2,l2,sv2,G2,hf,rfl,e,hsv⟩
  ·subst A'
   rw [hf] at hcur
   have hcur2:curF x.S (i + 1) = curF x.S i:=by rw [hcur];unfold bestF;cases curF x.S i <;> rfl
   repeat' (first|refine zs7 ?_|refine Ops.alloc rfl rfl rfl (noPd rfl) (fun b=>?_))
   exact ze40
  ·subst A'
   rw [hf] at hcur
   have hnum:=(foundF_num hf).1
   by_cases hgt:h.number < h2.number
   ·have hgt':(h.number:Int) < h2.number:=by omega
    have hcur2:curF x.S (i + 1) = some (h2,s2,l2):=by
     rw [hcur]
     rcases hc with ⟨hc,_⟩|⟨l,hc,_⟩
     ·rw [hc];rfl
     ·rw [hc];exact if_pos hgt
    repeat' (first|refine zs7 ?_|refine Ops.alloc rfl rfl rfl (noPd rfl) (fun b=>?_))
    exact Ops.nilN (round_end (⟨i + 1,h2,s2,sv2,true,G2⟩:CnS) ⟨by show i + 1 ≤ 2;omega,.inr ⟨l2,hcur2,rfl,hsv⟩⟩ (by show 2 - (i + 1) < 2 - i;omega) ⟨rfl,rfl,rfl,rfl,rfl,rfl,rfl,rfl,rfl,rfl,trivial⟩ (fun w h=>h.split))
   ·have hgt':¬ (h.number:Int) < h2.number:=by omega
    have hcur2:curF x.S (i + 1) = curF x.S i:=by
     rw [hcur]
     rcases hc with ⟨_,hc,_⟩|⟨l,hc,_⟩
     ·dsimp only at hc;rw [hc] at hgt;dsimp only at hgt;omega
     ·rw [hc];exact if_neg hgt
    repeat' (first|refine zs7 ?_|refine Ops.alloc rfl rfl rfl (noPd rfl) (fun b=>?_))
    exact ze40
 ·have hlt':¬ (i:Int) < 2:=by omega
  have hie:i = 2:=by omega
  subst hie
  rw [curF_two] at hc
  rcases hc with ⟨hc,e1,e2,e3,e4,e5⟩|⟨l,hc,e4,hsv⟩
  ·dsimp only at e1 e2 e3 e4 e5
   subst e1;subst e2;subst e3;subst e4;subst e5
   refine zg7 ?_
   exact Cd.ret (ret4 (A':=D) rfl (Res.cellN rfl) (Res.tmp rfl) (Res.tmp rfl) (Res.tmp rfl) (fun _ h=>h.split) (.inl ⟨hc,_,_,_,_,_,rfl,rfl⟩))
  ·dsimp only at hc e4 hsv
   subst e4
   refine zg7 ?_
   exact Cd.ret (ret4 (A':=G ++ D) rfl (Res.cellN rfl) (Res.tmp rfl) (Res.tmp rfl) (Res.tmp rfl) (fun _ h=>h.split) (.inr ⟨_,_,l,sv,G,hc,rfl,rfl,hsv⟩))
theorem dwrite_k (db:Nat) (x:Dk) (k:Nat) (D:List Blk) (hD:DkA db x k D) (i:Int) (s:ByteArray) (hk:k < 900000000000) :
  Con prog 117 #[ptr db,.int .i64 i,.string s] D fun v A=>v = .int .i64 (x.write i s).2 ∧ DkA db (x.write i s).1 (k + 1) A:=by
 refine (dwrite_spec db x.S x.ar x.bd x.de k D hD.a i s (by omega) hD.b0 hD.b1 hD.a0 hD.a1).mono fun v A h=>⟨h.1,?_⟩
 obtain ⟨_,h⟩:=h
 have hn:=hD.n
 have ha0:=hD.a0
 have ha1:=hD.a1
 refine ⟨h,?_,by omega,hD.b0,hD.b1,?_,?_⟩
 ·show (writeD x.S x.ar x.bd x.de i s).1.1.length ≤ 1026
  unfold writeD
  (repeat' split) <;> simp <;> omega
 ·show 0 ≤ (writeD x.S x.ar x.bd x.de i s).1.2.1
  unfold writeD
  (repeat' split) <;> dsimp only <;> omega
 ·show (writeD x.S x.ar x.bd x.de i s).1.2.1 ≤ 9223372036854775807
  unfold writeD
  (repeat' split) <;> dsimp only <;> omega
theorem DkA.more {db:Nat} {x:Dk} {k k':Nat} {D:List Blk} (h:DkA db x k D) (hk:k ≤ k') (hk':k' ≤ 900000000000):DkA db x k' D:=by
 obtain ⟨⟨g,c,sp,rv,rows,H,h1,h2,h3,h4,h5⟩,hn,_,b0,b1,a0,a1⟩:=h
 exact ⟨⟨g,c,sp,rv,rows,H,h1,h2,by omega,h4,h5⟩,hn,hk',b0,b1,a0,a1⟩
theorem format_spec (B0:Base) (db:Nat) (x:Dk) (k:Nat) (D:List Blk) (hD:DkA db x k D) (hk:k < 900000000000):ConB prog B0 74 #[ptr db] D fun v A=>v = .int .i64 (formatF x).2 ∧ DkA db (formatF x).1 (k + 1) A:=by
 have hD1:=hD.more (k':=k + 1) (by omega) (by omega)
 refine zqJ (vs:=[_]) func74 ntmps74 fun B hB=>?_
 unfold formatF
 refine zg0 ?_
 refine zqA (ddead_spec db x.S x.ar x.bd x.de k D hD.a) fun v A' hR=>?_
 obtain ⟨rfl,e⟩:=hR
 subst A'
 by_cases hde:x.de = true
 ·rw [if_pos hde,hde]
  refine zg6 ?_
  exact ze41
 have hde:x.de = false:=by simpa using hde
 rw [if_neg (by rw [hde];simp),hde]
 refine zg4 ?_
 refine zqA (room_spec db x k D hD) fun v A' hR=>?_
 obtain ⟨rfl,e⟩:=hR
 subst A'
 by_cases hrm:roomF x.S.length = 0
 ·have hrm':((roomF x.S.length:Nat):Int) = 0:=by omega
  rw [if_pos hrm]
  refine zg2 ?_
  exact ze41
 have hrm':¬ ((roomF x.S.length:Nat):Int) = 0:=by omega
 rw [if_neg hrm]
 refine zg2 ?_
 refine zqB (counts_spec B0 db x k D hD hde hrm) hB fun v A' hR=>?_
 rcases hR with ⟨hf,n0,n1,n2,n3,u,rfl,e⟩|⟨h2,s2,l2,sv2,G2,hf,rfl,e,hsv⟩
 ·subst A'
  rw [hf,if_neg (by simp)]
  repeat' (first|refine zs2 ?_|refine Ops.alloc rfl rfl rfl (noPd rfl) (fun b=>?_))
  refine zqA (sector_spec ⟨1,0,0,0⟩ ⟨by decide,by decide,by decide,by decide⟩) fun v A' hR=>?_
  obtain ⟨rfl,rfl⟩:=hR
  skip
  refine zqA (dwrite_k db x k D hD 1 (sectorF ⟨1,0,0,0⟩) hk) fun v A' hR=>?_
  obtain ⟨rfl,hD2⟩:=hR
  refine zg0 ?_
  exact Cd.ret (ret1 (A':=A') rfl (Res.tmp rfl) (fun _ h=>h.split) ⟨rfl,hD2⟩)
 ·subst A'
  rw [hf,if_pos (by rfl)]
  repeat' (first|refine zs2 ?_|refine Ops.alloc rfl rfl rfl (noPd rfl) (fun b=>?_))
  exact ze41
@[reducible] def WlB (wb db:Nat) (w:Wl):Blk:=(wb,cl [ptr db,.int .i64 w.h.number,.int .i64 w.h.half,.int .i64 w.h.snap,.int .i64 w.h.log,.int .i64 w.recs,.bool w.dead] 261)
def openW (x:Dk):Option (Hd × ByteArray × List ByteArray) × Int :=
 if x.de then (none,2) else if roomF x.S.length = 0 then (none,91) else match countsF x.S with
  | none=>(none,90)
  | some r=>(some r,0)
def OpenWR (x:Dk) (db:Nat) (D:List Blk) (v:Value) (A:List Blk):Prop :=
 ((openW x).1 = none ∧ v = .tuple #[.pointer none,.string ⟨#[]⟩,.slice none 0 0,.int .i64 (openW x).2] ∧ A = D) ∨
 (∃ h s l wb sv G,openW x = (some (h,s,l),0) ∧ v = .tuple #[ptr wb,.string s,sv,.int .i64 0] ∧ A = WlB wb db ⟨h,l.length,false⟩ :: (G ++ D) ∧ RsT sv l G)
theorem wopen_spec (B0:Base) (db:Nat) (x:Dk) (k:Nat) (D:List Blk) (hD:DkA db x k D):ConB prog B0 119 #[ptr db] D (OpenWR x db D):=by
 refine zqJ (vs:=[_]) func119 ntmps119 fun B hB=>?_
 have hop:openW x = if x.de then ((none,2):Option (Hd × ByteArray × List ByteArray) × Int) else if roomF x.S.length = 0 then (none,91) else match countsF x.S with
  | none=>(none,90)
  | some r=>(some r,0):=rfl
 refine zg0 ?_
 refine zqA (ddead_spec db x.S x.ar x.bd x.de k D hD.a) fun v A' hR=>?_
 obtain ⟨rfl,e⟩:=hR
 subst A'
 by_cases hde:x.de = true
 ·rw [if_pos hde] at hop
  rw [hde]
  refine zg6 ?_
  exact ze42
 have hde:x.de = false:=by simpa using hde
 rw [if_neg (by rw [hde];simp)] at hop
 rw [hde]
 refine zg4 ?_
 refine zqA (room_spec db x k D hD) fun v A' hR=>?_
 obtain ⟨rfl,e⟩:=hR
 subst A'
 by_cases hrm:roomF x.S.length = 0
 ·have hrm':((roomF x.S.length:Nat):Int) = 0:=by omega
  rw [if_pos hrm] at hop
  refine zg2 ?_
  exact ze42
 have hrm':¬ ((roomF x.S.length:Nat):Int) = 0:=by omega
 rw [if_neg hrm] at hop
 refine zg2 ?_
 refine zqB (counts_spec B0 db x k D hD hde hrm) hB fun v A' hR=>?_
 rcases hR with ⟨hf,n0,n1,n2,n3,u,rfl,e⟩|⟨h2,s2,l2,sv2,G2,hf,rfl,e,hsv⟩
 ·subst A'
  rw [hf] at hop
  repeat' (first|refine zs2 ?_|refine Ops.alloc rfl rfl rfl (noPd rfl) (fun b=>?_))
  exact ze42
 ·subst A'
  rw [hf] at hop
  obtain ⟨a2,c2,rfl⟩:=hsv.form
  repeat' (first|refine zs2 ?_|refine Ops.box rfl rfl rfl rfl (noPd rfl) (fun b=>?_)|refine Ops.alloc rfl rfl rfl (noPd rfl) (fun b=>?_))
  rename Nat=>wb
  exact Cd.ret (ret4 (A':=WlB wb db ⟨h2,l2.length,false⟩ :: (G2 ++ D)) rfl (Res.tmp rfl) (Res.tmp rfl) (Res.tmp rfl) (Res.tmp rfl) (fun _ h=>h.split) (.inr ⟨h2,s2,l2,wb,_,G2,hop,rfl,rfl,hsv⟩))
theorem gone_spec (wb db:Nat) (w:Wl) (x:Dk) (k:Nat) (D:List Blk) (hD:DkA db x k D):Con prog 173 #[ptr wb] (WlB wb db w :: D) fun v A=>v = .bool (w.dead || x.de) ∧ A = WlB wb db { w with dead:=(w.dead || x.de) } :: D:=by
 obtain ⟨h,recs,dead⟩:=w
 refine zqI (vs:=[_]) func173 ntmps173 fun B=>?_
 cases dead with
 | true =>
  refine zg7 ?_
  exact Cd.ret (ret1 (A':=WlB wb db ⟨h,recs,true⟩ :: D) rfl (Res.tmp rfl) (fun _ h=>h.split) ⟨rfl,rfl⟩)
 | false =>
  refine zg1 ?_
  refine zqA (ddead_spec db x.S x.ar x.bd x.de k D hD.a) fun v A' hR=>?_
  obtain ⟨rfl,e⟩:=hR
  subst A'
  refine zg7 ?_
  exact Cd.ret (ret1 (A':=WlB wb db ⟨h,recs,x.de⟩ :: D) rfl (Res.tmp rfl) (fun _ h=>h.split) ⟨by rw [Bool.false_or],by rw [Bool.false_or]⟩)
theorem write1_ok (B0:Base) (eb wx hx wb db:Nat) (e:Int) (h:Hd) (w:Wl) (he:e = 0) :
  DCon prog B0 233 #[ptr eb,ptr wx,ptr hx] .returning [(eb,cl [.int .i64 e] 29),(wx,cl [ptr wb] 118),(hx,cl h.row 212),WlB wb db w] fun u' A=>u' = .returning ∧ A = [(eb,cl [.int .i64 e] 29),(wx,cl [ptr wb] 118),(hx,cl h.row 212),WlB wb db { w with h:=h }]:=by
 refine DCon.intro (vs:=[_,_,_]) func233 rfl ntmps233 rfl (fun B c₀ cs hx2 hu=>?_)
 have hc0:c₀ = { c₀ with mode:=.returning }:=by rw [← hu]
 refine CdS.of rfl ?_
 rw [hc0]
 refine zg8 ?_
 exact Ops.nilN (endS (A':=[(eb,cl [.int .i64 e] 29),(wx,cl [ptr wb] 118),(hx,cl h.row 212),WlB wb db { w with h:=h }]) rfl (fun _ h=>h.split) ⟨rfl,rfl⟩)
theorem write1_no (B0:Base) (eb wx hx wb db:Nat) (e:Int) (h:Hd) (w:Wl) (he:e ≠ 0) :
  DCon prog B0 233 #[ptr eb,ptr wx,ptr hx] .returning [(eb,cl [.int .i64 e] 29),(wx,cl [ptr wb] 118),(hx,cl h.row 212),WlB wb db w] fun u' A=>u' = .returning ∧ A = [(eb,cl [.int .i64 e] 29),(wx,cl [ptr wb] 118),(hx,cl h.row 212),WlB wb db { w with dead:=true }]:=by
 refine DCon.intro (vs:=[_,_,_]) func233 rfl ntmps233 rfl (fun B c₀ cs hx2 hu=>?_)
 have hc0:c₀ = { c₀ with mode:=.returning }:=by rw [← hu]
 refine CdS.of rfl ?_
 rw [hc0]
 refine zg15 ?_
 exact Cd.ret (retS (A':=[(eb,cl [.int .i64 e] 29),(wx,cl [ptr wb] 118),(hx,cl h.row 212),WlB wb db { w with dead:=true }]) rfl (fun _ h=>h.split) ⟨rfl,rfl⟩)
theorem pagesF_end {half at_:Nat} {s:ByteArray} {x:Dk} (h:s.size = 0):pagesF half at_ s x = (x,true):=by rw [pagesF,dif_pos h]
theorem pagesF_bad {half at_:Nat} {s:ByteArray} {x:Dk} (h:s.size ≠ 0) (h2:x.de = true ∨ ¬ 2 + half * roomF x.S.length / 128 + at_ / 128 < x.S.length):pagesF half at_ s x = (x,false):=by rw [pagesF,dif_neg h,if_pos h2]
theorem pagesF_go {half at_:Nat} {s:ByteArray} {x:Dk} (h:s.size ≠ 0) (h2:¬ (x.de = true ∨ ¬ 2 + half * roomF x.S.length / 128 + at_ / 128 < x.S.length)):pagesF half at_ s x =
  if (x.write ((2 + half * roomF x.S.length / 128 + at_ / 128:Nat):Int) (pageF (x.S.getD (2 + half * roomF x.S.length / 128 + at_ / 128) .empty) s (at_ % 128))).2 ≠ 0 then ((x.write ((2 + half * roomF x.S.length / 128 + at_ / 128:Nat):Int) (pageF (x.S.getD (2 + half * roomF x.S.length / 128 + at_ / 128) .empty) s (at_ % 128))).1,false)
  else pagesF half (at_ + min (128 - at_ % 128) s.size) (s.extract (min (128 - at_ % 128) s.size) s.size) (x.write ((2 + half * roomF x.S.length / 128 + at_ / 128:Nat):Int) (pageF (x.S.getD (2 + half * roomF x.S.length / 128 + at_ / 128) .empty) s (at_ % 128))).1:=by rw [pagesF,dif_neg h,if_neg h2]
theorem readD_dead {S:List ByteArray} {i:Int}:readD S true i = (.empty,2):=rfl
theorem readD_out {S:List ByteArray} {i:Nat} (h:¬ i < S.length):readD S false (i:Int) = (.empty,40):=by
 unfold readD
 rw [if_neg (by simp),if_neg (by omega)]
theorem bv_zB (n:Nat):bv (zB n) = List.replicate n (.int .u8 0):=by simp [bv,zB]
theorem pageF_size {old s:ByteArray} {a:Nat} (h:old.size = 128) (ha:a < 128):(pageF old s a).size = 128:=by
 simp only [pageF,ByteArray.size_append,ByteArray.size_extract,zB_size]
 omega
theorem page_one {old:ByteArray} {a:Nat} (h:old.size = 128) (ha:a < 128):ins (List.replicate 128 (Value.int .u8 0)) 0 (bv ((old.extract 0 a).extract 0 (min (old.extract 0 a).size 128))) = bv (old.extract 0 a ++ zB (128 - a)):=by
 have h1:(old.extract 0 a).size = a:=by rw [ByteArray.size_extract];omega
 have h2:(old.extract 0 a).extract 0 (min (old.extract 0 a).size 128) = old.extract 0 a:=by
  rw [Nat.min_eq_left (by omega)]
  exact ByteArray.extract_zero_size
 rw [h2,bv_app,bv_zB]
 unfold ins
 rw [bv_len,h1,List.take_zero,List.nil_append,List.drop_replicate]
 congr 2
 omega
theorem page_two {old s:ByteArray} {a:Nat} (h:old.size = 128) (ha:a < 128):ins (bv (old.extract 0 a ++ zB (128 - a))) a (bv (s.extract 0 (min s.size (128 - a)))) = bv (pageF old s a):=by
 have h1:(bv (old.extract 0 a)).length = a:=by rw [bv_len,ByteArray.size_extract];omega
 rw [Nat.min_comm]
 unfold pageF ins
 rw [bv_app,bv_app,bv_app,bv_zB,bv_zB,List.take_append_of_le_length (by omega),List.take_of_length_le (by omega),List.append_assoc,List.drop_append,List.drop_of_length_le (by omega),List.nil_append,List.drop_replicate,bv_len,ByteArray.size_extract,h1]
 congr 3
 omega
structure PgS where
 at_:Nat
 s:ByteArray
 x:Dk
 k:Nat
 D:List Blk
def WrR (wb db:Nat) (w:Wl) (h:Hd) (r:Dk × Bool) (k:Nat) (v:Value) (A:List Blk):Prop :=
 ∃ D,DkA db r.1 k D ∧ ((r.2 = true ∧ v = .int .i64 0 ∧ A = WlB wb db { w with h:=h } :: D) ∨ (r.2 = false ∧ v = .int .i64 2 ∧ A = WlB wb db { w with dead:=true } :: D))
theorem write_spec (B0:Base) (wb db:Nat) (w:Wl) (x0:Dk) (k0:Nat) (D0:List Blk) (hD0:DkA db x0 k0 D0) (at0:Nat) (s0:ByteArray) (h:Hd) (ok:HdOk h) (hh:h.half ≤ 1) (hat:at0 ≤ 1000000) (hs0:s0.size ≤ 1000000) (hk:k0 ≤ 800000000000) :
  ConB prog B0 174 #[ptr wb,.int .i64 at0,.string s0,.agg h.row.toArray] (WlB wb db w :: D0) (WrR wb db w h (headF h (pagesF h.half at0 s0 x0)) (k0 + s0.size + 1)):=by
 refine ConX.calm (X:=fun _ _=>False) (ConX.intro (vs:=[_,_,_,_]) func174 rfl ntmps174 rfl (fun B hB=>?_)) (fun _ _ h=>h)
 repeat' (first|refine zs0 ?_|refine Ops.box rfl rfl rfl rfl (noPd rfl) (fun b=>?_)|refine Ops.alloc rfl rfl rfl (noPd rfl) (fun b=>?_))
 rename_i wx hx
 rename Nat=>eb
 refine Ops.dfr (fi:=[]) (ca:=[ptr eb,ptr wx,ptr hx]) (vs:=[]) rfl rfl rfl rfl ?_
 refine zg1 ?_
 refine Cd.loopK (σ:=PgS) (fun t=>DkA db t.x t.k t.D ∧ t.k + t.s.size ≤ k0 + s0.size ∧ t.s.size ≤ s0.size ∧ t.at_ + t.s.size ≤ at0 + s0.size ∧ pagesF h.half at0 s0 x0 = pagesF h.half t.at_ t.s t.x) (fun t=>[(1,.int .i64 t.at_),(2,.string t.s),(4,ptr wx),(7,ptr hx),(8,ptr eb)])
  (fun t=>(eb,cl [.int .i64 0] 29) :: (hx,cl h.row 212) :: (wx,cl [ptr wb] 118) :: WlB wb db w :: t.D) (fun t=>t.s.size) ⟨at0,s0,x0,k0,D0⟩ ⟨hD0,Nat.le_refl _,Nat.le_refl _,Nat.le_refl _,rfl⟩ ⟨rfl,rfl,rfl,rfl,rfl,trivial⟩ (fun w h=>h.split) (fun t ht=>?_)
 obtain ⟨at_,s,x,k,D⟩:=t
 obtain ⟨hD,hk2,hs2,ha2,hpg⟩:=ht
 dsimp only at hD hk2 hs2 ha2 hpg ⊢
 have hrl:=roomF_le x.S.length
 have hmul:∀ a b:Nat,(a:Int) * (b:Int) = ((a * b:Nat):Int):=fun a b=>by push_cast;rfl
 have hadd:∀ a b:Nat,(a:Int) + (b:Int) = ((a + b:Nat):Int):=fun a b=>by push_cast;rfl
 have hmod:(at_:Int).tmod 128 = ((at_ % 128:Nat):Int):=by rw [show (128:Int) = ((128:Nat):Int) from rfl,← Int.ofNat_tmod]
 have hhr:h.half * roomF x.S.length ≤ 65536:=by
  rcases Nat.le_one_iff_eq_zero_or_eq_one.1 hh with e|e <;> rw [e] <;> omega
 by_cases hlt:s.size = 0
 ·have hlt':¬ (0:Int) < s.size:=by omega
  rw [pagesF_end hlt] at hpg
  rw [hpg]
  have hwr:headF h (x,true) = ((x.write ((h.number % 2:Nat):Int) (sectorF h)).1,decide ((x.write ((h.number % 2:Nat):Int) (sectorF h)).2 = 0)):=if_pos rfl
  rw [hwr]
  have hnm:(h.number:Int).tmod 2 = ((h.number % 2:Nat):Int):=by rw [show (2:Int) = ((2:Nat):Int) from rfl,← Int.ofNat_tmod]
  refine zg2 ?_
  refine zdr [qy 0,qz 1,qz 2,qy 3,qz 4,qy 5,qz 6,qy 7,(8,2,[0,3,5]),(9,2,[]),qz 10] ?_
  refine zg5 ?_
  refine Ops.remI rfl rfl rfl rfl (by decide) rfl ?_
  rw [hnm]
  refine zg3 ?_
  refine Ops.call (sector_spec h ok) rfl zp1 rfl rfl rfl (fun v A' hR=>?_)
  obtain ⟨rfl,rfl⟩:=hR
  skip
  refine Ops.call (dwrite_k db x k D hD _ (sectorF h) (by omega)) rfl (noPd rfl) rfl rfl rfl (fun v A' hR=>?_)
  obtain ⟨rfl,hD2⟩:=hR
  have hD3:=hD2.more (k':=k0 + s0.size + 1) (by omega) (by omega)
  clear hD2
  generalize x.write ((h.number % 2:Nat):Int) (sectorF h) = r at hD3 ⊢
  obtain ⟨x2,er⟩:=r
  dsimp only at hD3 ⊢
  by_cases her:er = 0
  ·rw [decide_eq_true her]
   refine zg10 ?_
   refine Cd.ret (leaveD_ret (write1_ok B0 eb wx hx wb db 0 h w rfl) hB (fun u' A' hR=>?_))
   obtain ⟨rfl,rfl⟩:=hR
   exact .inl ⟨rfl,retX (ret1 (A':=WlB wb db { w with h:=h } :: _) rfl (Res.cell1 rfl rfl) (fun _ h=>h.split) ⟨_,hD3,.inl ⟨rfl,rfl,rfl⟩⟩)⟩
  ·rw [decide_eq_false her]
   refine zg10 ?_
   refine Cd.ret (leaveD_ret (write1_no B0 eb wx hx wb db 2 h w (by decide)) hB (fun u' A' hR=>?_))
   obtain ⟨rfl,rfl⟩:=hR
   exact .inl ⟨rfl,retX (ret1 (A':=WlB wb db { w with dead:=true } :: _) rfl (Res.cell1 rfl rfl) (fun _ h=>h.split) ⟨_,hD3,.inr ⟨rfl,rfl,rfl⟩⟩)⟩
 ·have hlt':(0:Int) < s.size:=by omega
  have hD9:=hD.more (k':=k0 + s0.size + 1) (by omega) (by omega)
  refine zg2 ?_
  refine zdr [qz 0,qy 1,qy 2,qz 3,qz 4,qy 5,qz 10,qz 11,(6,2,[1]),qz 7,qz 8,qz 9,qz 12,qz 13] ?_
  refine zg5 ?_
  refine Ops.quoI (b:=128) rfl rfl rfl rfl (by omega) (by decide) rfl ?_
  skip
  refine Ops.call (room_spec db x k D hD) rfl zp6 rfl rfl rfl (fun v A' hR=>?_)
  obtain ⟨rfl,e⟩:=hR
  subst A'
  refine zg17 ?_
  rw [hmul]
  refine Ops.quoI (b:=128) rfl rfl rfl rfl (by omega) (by decide) rfl ?_
  refine zg9 ?_
  rw [show (2:Int) + ((h.half * roomF x.S.length / 128:Nat):Int) + ((at_ / 128:Nat):Int) = ((2 + h.half * roomF x.S.length / 128 + at_ / 128:Nat):Int) from by push_cast;rfl]
  refine Ops.call (dread_spec db x.S x.ar x.bd x.de k D hD.a _) rfl (noPd rfl) rfl rfl rfl (fun v A' hR=>?_)
  obtain ⟨rfl,e⟩:=hR
  subst A'
  by_cases hbad:x.de = true ∨ ¬ 2 + h.half * roomF x.S.length / 128 + at_ / 128 < x.S.length
  ·rw [pagesF_bad hlt hbad] at hpg
   rw [hpg,show headF h (x,false) = (x,false) from if_neg (by simp)]
   obtain ⟨u,er,hrd,her⟩:∃ u er,readD x.S x.de ((2 + h.half * roomF x.S.length / 128 + at_ / 128:Nat):Int) = (u,er) ∧ er ≠ 0:=by
    rcases hb:x.de with _|_
    ·rcases hbad with h1|h1
     ·rw [hb] at h1;cases h1
     ·exact ⟨_,_,readD_out h1,by decide⟩
    ·exact ⟨_,_,readD_dead,by decide⟩
   rw [hrd]
   refine zg15 ?_
   refine Cd.ret (leaveD_ret (write1_no B0 eb wx hx wb db 2 h w (by decide)) hB (fun u' A' hR=>?_))
   obtain ⟨rfl,rfl⟩:=hR
   exact .inl ⟨rfl,retX (ret1 (A':=WlB wb db { w with dead:=true } :: D) rfl (Res.cell1 rfl rfl) (fun _ h=>h.split) ⟨_,hD9,.inr ⟨rfl,rfl,rfl⟩⟩)⟩
  have hgo:=pagesF_go hlt hbad
  obtain ⟨hde,hin⟩:x.de = false ∧ 2 + h.half * roomF x.S.length / 128 + at_ / 128 < x.S.length:=by
   refine ⟨?_,?_⟩
   ·cases hb:x.de with
    | false=>rfl
    | true=>exact absurd (.inl hb) hbad
   ·exact Decidable.byContradiction fun hc=>hbad (.inr hc)
  have hsec:(x.S.getD (2 + h.half * roomF x.S.length / 128 + at_ / 128) .empty).size = 128:=by
   obtain ⟨_,_,_,_,_,_,_,_,_,_,hs⟩:=hD.a
   rw [List.getD_eq_getElem?_getD,List.getElem?_eq_getElem hin]
   exact hs _ (List.getElem_mem _)
  rw [hde,readD_in1 hin,readD_in2 hin]
  generalize x.S.getD (2 + h.half * roomF x.S.length / 128 + at_ / 128) .empty = old at hsec hgo ⊢
  generalize 2 + h.half * roomF x.S.length / 128 + at_ / 128 = page at hgo hin ⊢
  have ham:at_ % 128 < 128:=Nat.mod_lt _ (by decide)
  refine zg4 ?_
  refine Ops.mk1 rfl rfl rfl rfl (by decide) (by decide) (by decide) rfl (noPd rfl) (fun g=>?_)
  rw [show ((128:Int)).toNat = 128 from rfl]
  refine zg0 ?_
  refine Ops.remI rfl rfl rfl rfl (by decide) rfl ?_
  rw [hmod]
  refine zg0 ?_
  refine Ops.slSHi rfl rfl rfl rfl (by omega) (by omega) rfl ?_
  rw [Int.toNat_natCast]
  refine Ops.cpS (L':=bv (old.extract 0 (at_ % 128) ++ zB (128 - at_ % 128))) rfl rfl rfl rfl (by simp only [List.length_replicate];omega) (page_one hsec ham) rfl (noPd rfl) ?_
  refine zg16 ?_
  have hsl:(if (128:Int).toNat = (((at_ % 128:Nat):Int)).toNat then some (⟨g,0,none⟩:Addr) else Option.map (fun x:Addr=>x.add ((((at_ % 128:Nat):Int)).toNat * 1)) (some (⟨g,0,none⟩:Addr))) = some ⟨g,at_ % 128,none⟩:=by
   rw [Int.toNat_natCast,if_neg (by show ¬ 128 = _;omega)]
   simp [Addr.add]
   omega
  rw [hsl,Int.toNat_natCast,show (128:Int).toNat = 128 from rfl]
  refine Ops.cpS (L':=bv (pageF old s (at_ % 128))) rfl rfl rfl rfl (by rw [bv_len,ByteArray.size_append,ByteArray.size_extract,zB_size];omega) (page_two hsec ham) rfl (noPd rfl) ?_
  refine zg0 ?_
  refine zdr [qy 0,qz 1,qz 2,qy 3,qz 4,qz 5,qy 6,(7,2,[]),qz 8] ?_
  refine zg5 ?_
  refine Ops.cvSp (bs:=pageF old s (at_ % 128)) rfl rfl rfl (pageF_size hsec ham) (fun j u hu=>by rw [Nat.zero_add];exact hu) rfl ?_
  refine Ops.call (dwrite_k db x k D hD _ (pageF old s (at_ % 128)) (by omega)) rfl (noPd rfl) rfl rfl rfl (fun v A' hR=>?_)
  obtain ⟨rfl,hD2⟩:=hR
  generalize x.write (page:Int) (pageF old s (at_ % 128)) = r at hD2 hgo ⊢
  obtain ⟨x2,er⟩:=r
  dsimp only at hD2 hgo ⊢
  by_cases her:er = 0
  ·rw [if_neg (by simpa using her)] at hgo
   have hmm:min s.size (128 - at_ % 128) = min (128 - at_ % 128) s.size:=Nat.min_comm _ _
   have hmle:min (128 - at_ % 128) s.size ≤ s.size:=Nat.min_le_right _ _
   have hmpos:0 < min (128 - at_ % 128) s.size:=by omega
   rw [hmm]
   generalize min (128 - at_ % 128) s.size = m at hmle hmpos hgo ⊢
   have hsz2:(s.extract m s.size).size = s.size - m:=by rw [ByteArray.size_extract];omega
   refine zg2 ?_
   refine Ops.slSLo rfl rfl rfl rfl (by omega) (by omega) rfl ?_
   rw [Int.toNat_natCast]
   refine zg9 ?_
   rw [hadd]
   exact Ops.nilN (inB (round_end (⟨at_ + m,s.extract m s.size,x2,k + 1,_⟩:PgS) ⟨hD2,by show k + 1 + (s.extract m s.size).size ≤ _;omega,by show (s.extract m s.size).size ≤ _;omega,by show at_ + m + (s.extract m s.size).size ≤ _;omega,by rw [hpg,hgo]⟩ (by show (s.extract m s.size).size < s.size;omega) ⟨rfl,rfl,rfl,rfl,rfl,trivial⟩ (fun w h=>h.split)))
  ·rw [if_pos (by simpa using her)] at hgo
   rw [hpg,hgo,show headF h (x2,false) = (x2,false) from if_neg (by simp)]
   have hD3:=hD2.more (k':=k0 + s0.size + 1) (by omega) (by omega)
   refine zg10 ?_
   refine Cd.ret (leaveD_ret (write1_no B0 eb wx hx wb db 2 h w (by decide)) hB (fun u' A' hR=>?_))
   obtain ⟨rfl,rfl⟩:=hR
   exact .inl ⟨rfl,retX (ret1 (A':=WlB wb db { w with dead:=true } :: _) rfl (Res.cell1 rfl rfl) (fun _ h=>h.split) ⟨_,hD3,.inr ⟨rfl,rfl,rfl⟩⟩)⟩
end Go.Proofs.YtkoelgkghijgiaaGreat
