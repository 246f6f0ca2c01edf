import Derived.Test.YtaecdnfkcebbeaaGreatA01
import Derived.Test.YtaecdnfkcebbeaaGreatA15
import Derived.Test.YtaecdnfkcebbeaaGreatA14
import Derived.Test.YtaecdnfkcebbeaaGreatA12
set_option linter.unusedVariables false
set_option linter.unusedSimpArgs false
namespace Go.Proofs.YtaecdnfkcebbeaaGreat
open Go Go.Sep Go.Proofs
set_option maxRecDepth 10000
set_option maxHeartbeats 40000000
set_option synthInstance.maxSize 2000
theorem slclone_spec (s:ByteArray) (hs:s.size ≤ 1000000):Con Tryz.prog 270 #[.string s] [] fun v A=>v = .string s ∧ A = []:=by
 refine Con.intro (vs:=[_]) Tryz.func270 rfl Tryz.ntmps270 rfl (fun B=>?_)
 by_cases h0:s.size = 0
 ·have h0':(s.size:Int) = 0:=by omega
  have he:s = .empty:=ByteArray.size_eq_zero_iff.1 h0
  refine zg29 ?_
  exact ze17
 ·have h0':¬ (s.size:Int) = 0:=by omega
  refine zg12 ?_
  refine Ops.mk1 rfl rfl rfl rfl (by omega) (by omega) (by decide) rfl (noPd rfl) (fun g=>?_)
  rw [show ((s.size:Nat):Int).toNat = s.size from by omega]
  refine zg0 ?_
  refine Ops.cpS (L':=bv s) rfl rfl rfl rfl (by simp) (by simp [ins,bv_len]) rfl (noPd rfl) ?_
  refine zg37 ?_
  refine Ops.us (s:=s) (G:=[(g,cl (bv s) 5)]) (.inr ⟨g,s.size,[],0,rfl,by rw [List.append_nil];rfl,Nat.zero_le _,by simp,by omega⟩) rfl rfl cells_u8 rfl rfl (by omega) rfl (noPd rfl) (fun G' hG'=>?_)
  refine zg1 ?_
  exact ze8
theorem sclone_spec (s:ByteArray) (hs:s.size ≤ 1000000):Con Tryz.prog 251 #[.string s] [] fun v A=>v = .string s ∧ A = []:=by
 refine Con.intro (vs:=[_]) Tryz.func251 rfl Tryz.ntmps251 rfl (fun B=>?_)
 refine zg0 ?_
 refine Ops.call (slclone_spec s hs) rfl (noPd rfl) rfl rfl rfl (fun v A' hR=>?_)
 obtain ⟨rfl,rfl⟩:=hR
 refine zg1 ?_
 exact ze8
def txR (b:ByteArray) (most p:Nat):Int ⊕ (ByteArray × Nat):=match numR b most 23 p with
 | .bad er=>.inl er
 | .good n q=>if q + n ≤ b.size then .inr (b.extract q (q + n),q + n) else .inl 20
theorem text1_spec (B0:Base) (rb xr mb:Nat) (bs:ByteArray) (p most:Nat) (hp:p ≤ bs.size) (hb:bs.size ≤ 1000000) (hm:most ≤ 1000000) :
  ConX Tryz.prog B0 250 #[ptr xr,ptr mb] (RdB rb bs p 0 :: [(xr,cl [ptr rb] 160),(mb,cl [.int .i64 most] 3)])
   (fun v A=>∃ u q,txR bs most p = .inr (u,q) ∧ v = .string u ∧ A = RdB rb bs (q:Nat) 0 :: [(xr,cl [ptr rb] 160),(mb,cl [.int .i64 most] 3)])
   (fun c A=>∃ er,txR bs most p = .inl er ∧ c = [gave er] ∧ ∃ q:Nat,A = RdB rb bs q 0 :: [(xr,cl [ptr rb] 160),(mb,cl [.int .i64 most] 3)]):=by
 refine ConX.intro (vs:=[_,_]) Tryz.func250 rfl Tryz.ntmps250 rfl (fun B hB=>?_)
 refine zg0 ?_
 refine Cd.draw [(0,1,[]),(1,1,[]),(2,1,[]),(3,2,[0]),(4,2,[]),(5,2,[]),(6,0,[])] (by kernel_rfl) (by kernel_rfl) (by simp only [picked,nth];exact rfl) ?_
 refine zg2 ?_
 refine Ops.callXD (list_spec B0 rb bs p most hp hb (by omega)) hB rfl (by intro v A' hR i hi;obtain ⟨A2,hR,rfl⟩:=hR;obtain ⟨u,q,_,_,rfl⟩:=hR;(repeat (rcases List.mem_cons.1 hi with rfl|hi;· (first|exact Still.ld1 rfl rfl rfl rfl rfl|exact Still.ldN rfl rfl rfl rfl|exact Still.len rfl rfl rfl rfl rfl|exact Still.skip rfl rfl rfl|exact Still.ldRow1 rfl rfl rfl (by assumption) (by assumption) rfl rfl|exact Still.ldR rfl rfl rfl (by apply_assumption) rfl)));cases hi) rfl rfl rfl (fun c A' hX=>?_) (fun v A' hR=>?_)
 ·obtain ⟨er,hr,rfl,q,rfl⟩:=hX
  have htx:txR bs most p = .inl er:=by
   unfold txR
   cases hn:numR bs most 23 p with
   | bad e2=>rw [hn] at hr;injection hr with hr;rw [hr]
   | good n2 q2=>rw [hn] at hr;cases hr
  exact panX (A':=RdB rb bs q 0 :: [(xr,cl [ptr rb] 160),(mb,cl [.int .i64 most] 3)]) (fun _ h=>h.split) ⟨er,htx,rfl,q,rfl⟩
 ·obtain ⟨n,q,hr,rfl,rfl⟩:=hR
  have hn:numR bs most 23 p = .good n q:=by
   cases hn:numR bs most 23 p with
   | bad e2=>rw [hn] at hr;cases hr
   | good n2 q2=>rw [hn] at hr;injection hr with hr;injection hr with h1 h2;rw [h1,h2]
  have hle:n ≤ most:=numGo_le _ _ _ _ hn
  have hq:q ≤ bs.size:=numGo_at _ _ _ _ hn hp
  skip
  refine Ops.callXD (take_spec B0 rb bs q 0 n hq hb (by omega)) hB rfl (noPd rfl) rfl rfl rfl (fun c A' hX=>?_) (fun v A' hR=>?_)
  ·obtain ⟨hlt,rfl,rfl⟩:=hX
   exact panX (A':=RdB rb bs q 0 :: [(xr,cl [ptr rb] 160),(mb,cl [.int .i64 most] 3)]) (fun _ h=>h.split) ⟨20,by unfold txR;rw [hn];exact if_neg hlt,rfl,q,rfl⟩
  ·obtain ⟨hlt,rfl,rfl⟩:=hR
   refine Ops.call (sclone_spec (bs.extract q (q + n)) (by rw [ByteArray.size_extract];omega)) rfl (noPd rfl) rfl rfl rfl (fun v A' hR=>?_)
   obtain ⟨rfl,rfl⟩:=hR
   refine zg1 ?_
   exact Cd.ret (retX (ret1 (A':=RdB rb bs ((q + n:Nat):Int) 0 :: [(xr,cl [ptr rb] 160),(mb,cl [.int .i64 most] 3)]) rfl (Res.tmp rfl) (fun _ h=>h.split) ⟨_,q + n,by unfold txR;rw [hn];exact if_pos hlt,rfl,rfl⟩))
def rdText (b:ByteArray) (most:Nat) (p:Nat) (e:Int):ByteArray × Nat × Int:=if e ≠ 0 then (.empty,p,e) else match txR b most p with
 | .inl er=>(.empty,p,er)
 | .inr (u,q)=>(u,q,0)
theorem rtext_spec (B0:Base) (rb:Nat) (bs:ByteArray) (p most:Nat) (e:Int) (hp:p ≤ bs.size) (hb:bs.size ≤ 1000000) (hm:most ≤ 1000000) :
  ConB Tryz.prog B0 197 #[ptr rb,.int .i64 most] [RdB rb bs p e] fun v A=>v = .string (rdText bs most p e).1 ∧ A = [RdB rb bs (((rdText bs most p e).2.1:Nat):Int) (rdText bs most p e).2.2]:=by
 refine ConB.intro (vs:=[_,_]) Tryz.func197 rfl Tryz.ntmps197 rfl (fun B hB=>?_)
 repeat' (first|refine Ops.mkF rfl rfl rfl rfl rfl ?_|refine Cd.seq ?_|refine Cd.reg ?_|refine Ops.asg rfl rfl rfl rfl ?_|refine Ops.ld1 rfl rfl rfl rfl rfl ?_|refine Ops.box rfl rfl rfl rfl (noPd rfl) (fun b=>?_))
 rename_i xr
 rename Nat=>mb
 by_cases he:e = 0
 ·subst he
  refine Ops.callB (facestring_new B0 rb bs p 250 [ptr xr,ptr mb] [(xr,cl [ptr rb] 160),(mb,cl [.int .i64 most] 3)] _ (text1_spec B0 rb xr mb bs p most hp hb hm)) hB rfl (noPd rfl) rfl rfl rfl (fun v A' hR=>?_)
  have hu:rdText bs most p 0 = match txR bs most p with
   | .inl er=>(.empty,p,er)
   | .inr (u,q)=>(u,q,0):=if_neg (by simp)
  rcases hR with ⟨u,q,hr,rfl,rfl⟩|⟨er,hr,rfl,rfl⟩
  ·rw [hr] at hu
   rw [hu]
   refine zg1 ?_
   exact Cd.ret (ret1 (A':=[RdB rb bs q 0]) rfl (Res.tmp rfl) (fun _ h=>h.split) ⟨rfl,rfl⟩)
  ·rw [hr] at hu
   rw [hu]
   refine zg1 ?_
   exact Cd.ret (ret1 (A':=[RdB rb bs p er]) rfl (Res.tmp rfl) (fun _ h=>h.split) ⟨rfl,rfl⟩)
 ·refine Ops.callB (facestring_old B0 rb bs p e 250 [ptr xr,ptr mb] he) hB rfl (noPd rfl) rfl rfl rfl (fun v A' hR=>?_)
  obtain ⟨rfl,rfl⟩:=hR
  rw [show rdText bs most p e = (.empty,p,e) from if_pos he]
  refine zg1 ?_
  exact ze18
structure Hd where
 number:Nat
 half:Nat
 snap:Nat
 log:Nat
def hiL (n:Nat):Nat → List Int
 | 0=>[]
 | k + 1=>((n / 256 ^ k % 256:Nat):Int) :: hiL n k
def hiB (n k:Nat):ByteArray:=bytesOf (hiL n k)
theorem hiL_len (n k:Nat):(hiL n k).length = k:=by induction k with|zero=>rfl|succ k ih=>simp [hiL,ih]
theorem hiB_size (n k:Nat):(hiB n k).size = k:=by rw [hiB,bytesOf_size,hiL_len]
def sectorF (h:Hd):ByteArray:=hiB h.number 8 ++ bytesOf [(h.half:Int)] ++ hiB h.snap 4 ++ hiB h.log 4 ++ zB 103 ++ hiB h.number 8
theorem sectorF_size (h:Hd):(sectorF h).size = 128:=by simp [sectorF,hiB_size,zB_size,bytesOf_size]
def bat (s:ByteArray) (i:Nat):Nat:=match s[i]? with|some b=>b.toNat|none=>0
theorem bat_lt (s:ByteArray) (i:Nat):bat s i < 256:=by
 unfold bat;split
 ·rename_i b _;exact UInt8.toNat_lt b
 ·decide
theorem bat_some {s:ByteArray} {i:Nat} {b:UInt8} (h:s[i]? = some b):bat s i = b.toNat:=by simp [bat,h]
def ofG (s:ByteArray):Nat → Int
 | 0=>0
 | i + 1=>orI .i64 (IntKind.wrap .i64 (ofG s i * 2 ^ 8)) (bat s i)
def ofF (s:ByteArray):Int:=ofG s s.size
theorem orI_i64 {a b:Nat} (ha:a < 9223372036854775808) (hb:b < 9223372036854775808):orI .i64 (a:Int) (b:Int) = ((a ||| b:Nat):Int):=by
 have h1:a ||| b < 2 ^ 63:=Nat.or_lt_two_pow (n:=63) ha hb
 unfold orI
 show IntKind.wrap .i64 ((BitVec.ofInt 64 a ||| BitVec.ofInt 64 b).toNat:Int) = _
 rw [BitVec.toNat_or,BitVec.ofInt_natCast,BitVec.ofInt_natCast,BitVec.toNat_ofNat,BitVec.toNat_ofNat,Nat.mod_eq_of_lt (by omega),Nat.mod_eq_of_lt (by omega)]
 simp [IntKind.wrap,IntKind.bits,IntKind.signed]
 omega
theorem ofG_step {a b:Nat} (ha:a < 36028797018963968) (hb:b < 256):orI .i64 (IntKind.wrap .i64 ((a:Int) * 2 ^ 8)) (b:Int) = ((a * 256 + b:Nat):Int):=by
 have e:IntKind.wrap .i64 ((a:Int) * 2 ^ 8) = ((a <<< 8:Nat):Int):=by
  rw [Nat.shiftLeft_eq]
  simp [IntKind.wrap,IntKind.bits,IntKind.signed]
  omega
 rw [e,orI_i64 (by rw [Nat.shiftLeft_eq];omega) (by omega),← Nat.shiftLeft_add_eq_or_of_lt (by simpa using hb),Nat.shiftLeft_eq]
theorem hiL_at {n k i:Nat} (hi:i < k):(hiL n k).getD i 0 = ((n / 256 ^ (k - 1 - i) % 256:Nat):Int):=by
 induction k generalizing i with
 | zero=>omega
 | succ k ih =>
  cases i with
  | zero=>rfl
  | succ i=>rw [hiL,List.getD_cons_succ,ih (by omega)];congr 4;omega
def ofn (s:ByteArray):Nat → Nat
 | 0=>0
 | i + 1=>ofn s i * 256 + bat s i
theorem ofn_lt (s:ByteArray):∀ i,ofn s i < 256 ^ i
 | 0=>by show 0 < 1;decide
 | i + 1=>by
  have h1:=ofn_lt s i
  have h2:=bat_lt s i
  rw [ofn,Nat.pow_succ]
  have:(ofn s i + 1) * 256 ≤ 256 ^ i * 256:=Nat.mul_le_mul_right _ h1
  omega
theorem ofG_ofn (s:ByteArray):∀ i,i ≤ 7 → ofG s i = (ofn s i:Nat)
 | 0,_=>rfl
 | i + 1,h=>by
  rw [ofG,ofG_ofn s i (by omega),ofG_step _ (bat_lt s i),ofn]
  have h1:=ofn_lt s i
  have h2:256 ^ i ≤ 256 ^ 6:=Nat.pow_le_pow_right (by decide) (by omega)
  omega
def rdN (s:ByteArray) (i j:Nat):Nat:=ofn (s.extract i j) (j - i)
theorem of_four {s:ByteArray} (h:s.size ≤ 7):ofF s = (ofn s s.size:Nat):=ofG_ofn s _ h
structure Dk where
 S:List ByteArray
 ar:Int
 bd:Int
 de:Bool
def roomF (n:Nat):Nat:=if n < 4 ∨ n % 2 = 1 ∨ 1026 < n then 0 else (n - 2) / 2 * 128
def catS (S:List ByteArray) (first:Nat):Nat → ByteArray
 | 0=>.empty
 | i + 1=>catS S first i ++ S.getD (first + i) .empty
theorem catS_size {S:List ByteArray} (hs:∀ s ∈ S,s.size = 128) {first:Nat}:∀ i,first + i ≤ S.length → (catS S first i).size = i * 128
 | 0,_=>rfl
 | i + 1,h=>by
  have h1:(S.getD (first + i) .empty).size = 128:=by
   rw [List.getD_eq_getElem?_getD,List.getElem?_eq_getElem (by omega)]
   exact hs _ (List.getElem_mem _)
  rw [catS,ByteArray.size_append,catS_size hs i (by omega),h1]
  omega
def bytesF (S:List ByteArray) (half n:Nat):ByteArray:=(catS S (2 + half * roomF S.length / 128) ((n + 127) / 128)).extract 0 n
theorem rdText_at {b:ByteArray} {most p:Nat} {e:Int} (hp:p ≤ b.size):(rdText b most p e).2.1 ≤ b.size:=by
 unfold rdText
 split
 ·exact hp
 ·split
  ·exact hp
  ·rename_i u q h
   unfold txR at h
   split at h
   ·cases h
   ·split at h
    ·injection h with h;injection h with h1 h2;dsimp only;omega
    ·cases h
def framesG (s:ByteArray) (p:Nat):Option (List ByteArray) :=
 if h:p < s.size then
  if (rdText s 2048 p 0).2.2 ≠ 0 ∨ (rdText s 2048 p 0).1.size = 0 then none
  else if h2:p < (rdText s 2048 p 0).2.1 then (framesG s (rdText s 2048 p 0).2.1).map ((rdText s 2048 p 0).1 :: ·) else none
 else some []
termination_by s.size - p
decreasing_by omega
def foundF (S:List ByteArray) (at_:Nat):Option (Hd × ByteArray × List ByteArray) :=
 let s:=S.getD at_ .empty
 let nm:=ofF (s.extract 0 8)
 let sn:=rdN s 9 13
 let lg:=rdN s 13 17
 if nm < 1 ∨ 1099511627776 < nm ∨ nm % 2 ≠ (at_:Int) ∨ 1 < bat s 8 then none
 else if sectorF ⟨nm.toNat,bat s 8,sn,lg⟩ ≠ s ∨ 17000 < sn ∨ roomF S.length < sn + lg then none
 else (framesG ((bytesF S (bat s 8) (sn + lg)).extract sn (sn + lg)) 0).map fun l=>(⟨nm.toNat,bat s 8,sn,lg⟩,(bytesF S (bat s 8) (sn + lg)).extract 0 sn,l)
def countsF (S:List ByteArray):Option (Hd × ByteArray × List ByteArray) :=
 match foundF S 0,foundF S 1 with
 | none,y=>y
 | some x,none=>some x
 | some x,some y=>if x.1.number < y.1.number then some y else some x
def Dk.put (x:Dk) (r:(List ByteArray × Int × Bool) × Int):Dk:={ x with S:=r.1.1,ar:=r.1.2.1,de:=r.1.2.2 }
def Dk.write (x:Dk) (i:Int) (s:ByteArray):Dk × Int:=(x.put (writeD x.S x.ar x.bd x.de i s),(writeD x.S x.ar x.bd x.de i s).2)
def formatF (x:Dk):Dk × Int :=
 if x.de then (x,2) else if roomF x.S.length = 0 then (x,91) else if (countsF x.S).isSome then (x,95)
 else x.write 1 (sectorF ⟨1,0,0,0⟩)
def pageF (old s:ByteArray) (a:Nat):ByteArray:=old.extract 0 a ++ (s.extract 0 (min (128 - a) s.size) ++ zB (128 - a - min (128 - a) s.size))
def pagesF (half at_:Nat) (s:ByteArray) (x:Dk):Dk × Bool :=
 if h:s.size = 0 then (x,true)
 else if x.de ∨ ¬ 2 + half * roomF x.S.length / 128 + at_ / 128 < x.S.length then (x,false)
 else
  let r:=x.write ((2 + half * roomF x.S.length / 128 + at_ / 128:Nat):Int) (pageF (x.S.getD (2 + half * roomF x.S.length / 128 + at_ / 128) .empty) s (at_ % 128))
  if r.2 ≠ 0 then (r.1,false) else pagesF half (at_ + min (128 - at_ % 128) s.size) (s.extract (min (128 - at_ % 128) s.size) s.size) r.1
termination_by s.size
decreasing_by
 have:at_ % 128 < 128:=Nat.mod_lt _ (by decide)
 rw [ByteArray.size_extract]
 omega
def headF (h:Hd) (r:Dk × Bool):Dk × Bool:=if r.2 then ((r.1.write ((h.number % 2:Nat):Int) (sectorF h)).1,decide ((r.1.write ((h.number % 2:Nat):Int) (sectorF h)).2 = 0)) else (r.1,false)
structure Wl where
 h:Hd
 recs:Int
 dead:Bool
def frameF (r:ByteArray):ByteArray:=numB r.size ++ r
def Wl.done (w:Wl) (h:Hd) (recs:Int) (r:Dk × Bool):(Wl × Dk) × Int:=if r.2 then ((⟨h,recs,w.dead⟩,r.1),0) else (({ w with dead:=true },r.1),2)
def appendF (w:Wl) (x:Dk) (r:ByteArray):(Wl × Dk) × Int :=
 if (w.dead || x.de) then (({ w with dead:=true },x),2)
 else if r.size = 0 ∨ 2048 < r.size then ((w,x),92)
 else if roomF x.S.length < w.h.snap + w.h.log + (frameF r).size then ((w,x),93)
 else if 1099511627776 ≤ w.h.number then ((w,x),94)
 else w.done ⟨w.h.number + 1,w.h.half,w.h.snap,w.h.log + (frameF r).size⟩ (w.recs + 1)
  (headF ⟨w.h.number + 1,w.h.half,w.h.snap,w.h.log + (frameF r).size⟩ (pagesF w.h.half (w.h.snap + w.h.log) (frameF r) x))
def snapF (w:Wl) (x:Dk) (s:ByteArray):(Wl × Dk) × Int :=
 if (w.dead || x.de) then (({ w with dead:=true },x),2)
 else if 17000 < s.size ∨ roomF x.S.length < s.size then ((w,x),92)
 else if 1099511627776 ≤ w.h.number then ((w,x),94)
 else w.done ⟨w.h.number + 1,1 - w.h.half,s.size,0⟩ 0 (headF ⟨w.h.number + 1,1 - w.h.half,s.size,0⟩ (pagesF (1 - w.h.half) 0 s x))
def fitN (left:Nat):Nat → Nat
 | 0=>0
 | n + 1=>if left < (numB (n + 1)).size + (n + 1) then fitN left n else n + 1
def roomW (w:Wl) (len:Nat):Nat:=fitN (roomF len - w.h.snap - w.h.log) (min 2048 (roomF len - w.h.snap - w.h.log))
def hiC (n k i:Nat):List Value:=List.replicate (k - i) (.int .u8 0) ++ (hiL n i).map (Value.int .u8)
theorem hiC_len {n k i:Nat} (h:i ≤ k):(hiC n k i).length = k:=by simp [hiC,hiL_len];omega
theorem hiC_set {n k i:Nat} (h:i < k):(hiC n k i).set (k - 1 - i) (.int .u8 ((n / 256 ^ i % 256:Nat):Int)) = hiC n k (i + 1):=by
 have e:k - i = (k - 1 - i) + 1:=by omega
 unfold hiC
 rw [e,List.replicate_succ',List.append_assoc,List.set_append_right _ _ (by simp),List.length_replicate,Nat.sub_self,show k - (i + 1) = k - 1 - i from by omega,hiL,List.map_cons]
 rfl
theorem hiL_byte (n:Nat):∀ k,∀ x ∈ hiL n k,0 ≤ x ∧ x < 256
 | 0,x,h=>by cases h
 | k + 1,x,h=>by
  rw [hiL] at h
  rcases List.mem_cons.1 h with rfl|h
  ·have:=Nat.mod_lt (n / 256 ^ k) (by decide:256 > 0)
   omega
  ·exact hiL_byte n k x h
theorem bv_bytes:∀ {xs:List Int},(∀ x ∈ xs,0 ≤ x ∧ x < 256) → bv (bytesOf xs) = xs.map (Value.int .u8):=by
 intro xs hx
 have key:∀ (xs:List Int) (s:ByteArray),(xs.foldl (fun r n=>r.push (UInt8.ofNat n.toNat)) s).data.toList = s.data.toList ++ xs.map fun n=>UInt8.ofNat n.toNat:=by
  intro xs
  induction xs with
  | nil=>intro s;simp
  | cons x xs ih=>intro s;rw [List.foldl_cons,ih];simp [ByteArray.push]
 have hk:=key xs .empty
 have hk:(bytesOf xs).data.toList = xs.map fun n=>UInt8.ofNat n.toNat:=by simpa [bytesOf] using hk
 unfold bv
 rw [hk,List.map_map]
 apply List.map_congr_left
 intro x h
 have:=hx x h
 simp only [Function.comp,UInt8.toNat_ofNat']
 congr 1
 omega
theorem bv_hi (n k:Nat):bv (hiB n k) = (hiL n k).map (Value.int .u8):=bv_bytes (hiL_byte n k)
theorem shr8 (n i:Nat) (hi:i ≤ 7):IntKind.wrap .u8 ((n:Int).fdiv (2 ^ (min (Int.toNat (8 * (i:Int))) (IntKind.bits .i64)))) = ((n / 256 ^ i % 256:Nat):Int):=by
 have e1:min (Int.toNat (8 * (i:Int))) (IntKind.bits .i64) = 8 * i:=by show min _ 64 = _;omega
 have e2:(2:Int) ^ (8 * i) = ((256 ^ i:Nat):Int):=by
  rw [show (256:Nat) = 2 ^ 8 from rfl,← Nat.pow_mul];push_cast;rfl
 rw [e1,e2,Int.fdiv_eq_ediv_of_nonneg _ (Int.natCast_nonneg _)]
 simp only [IntKind.wrap,IntKind.bits,IntKind.signed,Bool.false_and,Bool.false_eq_true,if_false]
 push_cast
 rfl
theorem high_spec (n k:Nat) (hk1:1 ≤ k) (hk:k ≤ 8) (hn:n < 9223372036854775808):Con Tryz.prog 120 #[.int .i64 n,.int .i64 k] [] fun v A=>v = .string (hiB n k) ∧ A = []:=by
 refine Con.intro (vs:=[_,_]) Tryz.func120 rfl Tryz.ntmps120 rfl (fun B=>?_)
 refine zg0 ?_
 refine Ops.mk1 rfl rfl rfl rfl (by omega) (by omega) (by decide) rfl (noPd rfl) (fun g=>?_)
 rw [show ((k:Nat):Int).toNat = k from by omega]
 refine zg3 ?_
 refine Cd.loopK (σ:=Nat) (fun i=>i ≤ k) (fun i=>[(0,.int .i64 n),(1,.int .i64 k),(5,.slice (some ⟨g,0,none⟩) k k),(10,.int .i64 k),(11,.int .i64 i)]) (fun i=>[(g,cl (hiC n k i) 5)]) (fun i=>k - i) 0 (Nat.zero_le _) ⟨rfl,rfl,rfl,rfl,rfl,trivial⟩ (fun w h=>by simpa [hiC,hiL] using h) (fun i hi=>?_)
 have hlen:=hiC_len (n:=n) hi
 by_cases hlt:i < k
 ·have hlt':(i:Int) < k:=by omega
  refine zg33 ?_
  refine Ops.shrI rfl rfl rfl rfl (by omega) rfl ?_
  refine Ops.cvI rfl rfl rfl rfl ?_
  rw [shr8 n i (by omega)]
  refine zg39 ?_
  rw [show ((k:Int) - 1 - i).toNat = k - 1 - i from by omega]
  refine Ops.st1 (L':=hiC n k (i + 1)) rfl rfl rfl rfl rfl (hs:=⟨by rw [Nat.mul_one,hiC_set hlt],by rw [Nat.mul_one];omega⟩) (noPd rfl) ?_
  refine zg18 ?_
  exact Ops.nilN (round_end (i + 1:Nat) (by show i + 1 ≤ k;omega) (by show k - (i + 1) < k - i;omega) ⟨rfl,rfl,rfl,rfl,rfl,trivial⟩ (fun w h=>h.split))
 ·have hlt':¬ (i:Int) < k:=by omega
  have he:i = k:=by omega
  subst he
  refine zg12 ?_
  refine Ops.cvSp (bs:=hiB n i) rfl rfl rfl (hiB_size n i) ?_ rfl ?_
  ·intro j u hu
   rw [bv_hi] at hu
   simpa [hiC] using hu
  refine zg1 ?_
  exact ze8
theorem of_spec (s:ByteArray) (hs:s.size ≤ 1000):Con Tryz.prog 192 #[.string s] [] fun v A=>v = .int .i64 (ofF s) ∧ A = []:=by
 refine Con.intro (vs:=[_]) Tryz.func192 rfl Tryz.ntmps192 rfl (fun B=>?_)
 refine zg3 ?_
 refine Cd.loopK (σ:=Nat) (fun i=>i ≤ s.size) (fun i=>[(0,.string s),(3,.int .i64 (ofG s i)),(6,.int .i64 s.size),(7,.int .i64 i)]) (fun i=>[]) (fun i=>s.size - i) 0 (Nat.zero_le _) ⟨rfl,rfl,rfl,rfl,trivial⟩ (fun w h=>h) (fun i hi=>?_)
 by_cases hlt:i < s.size
 ·have hlt':(i:Int) < s.size:=by omega
  have hb:s[((i:Nat):Int).toNat]? = some (s[i]'hlt):=by
   rw [show ((i:Nat):Int).toNat = i from by omega];exact getElem?_pos s i hlt
  have hb2:bat s i = (s[i]'hlt).toNat:=bat_some (getElem?_pos s i hlt)
  have hb3:=UInt8.toNat_lt (s[i]'hlt)
  refine zg14 ?_
  refine Ops.shlI rfl rfl rfl rfl (by decide) rfl ?_
  refine zg0 ?_
  refine Ops.ixS rfl rfl rfl rfl (by omega) hb rfl ?_
  refine Ops.cvI rfl rfl rfl rfl ?_
  rw [show IntKind.wrap .i64 (((s[i]'hlt).toNat:Nat):Int) = ((bat s i:Nat):Int) from by rw [hb2];simp [IntKind.wrap,IntKind.bits,IntKind.signed];omega]
  rw [show (2:Int) ^ min (Int.toNat 8) (IntKind.bits .i64) = 2 ^ 8 from rfl]
  refine zg23 ?_
  exact Ops.nilN (round_end (i + 1:Nat) (by show i + 1 ≤ s.size;omega) zp19 ⟨rfl,rfl,rfl,rfl,trivial⟩ (fun w h=>h))
 ·have hlt':¬ (i:Int) < s.size:=by omega
  have he:i = s.size:=by omega
  refine zg12 ?_
  exact ze17
end Go.Proofs.YtaecdnfkcebbeaaGreat
namespace Go.Sep
open Go
section
variable {P:Program} {N:Fi} {B:Base} {Q:Exit → Act → World → Prop} {T:Tm} {A:List Blk} {ops:Array Oper} {l:List Oper}
variable {d:Nat} {ty:TypeId} {pos:String} {af:Array Edge} {m:Md} {gd:Option (Nat × Bool)}
theorem Still.cvSp {i dd:Nat} {s t e:TypeId} {x:Operand} {b o n c:Nat} {bs:ByteArray} {L:List Value} {E:TypeId} (ho:ops[i]? = some ⟨some dd,.convert s t x,ty,pos,af,gd⟩) (hg:gst ops T gd = some true) [hs:TyD P s (.slice e)] [he:TyD P e (.int .u8)] [ht:TyD P t .string] (hx:ev T x = some (.slice (some ⟨b,o,none⟩) n c)) [hb:Has A b (cl L E)]
  (hn:bs.size = n) (h:∀ j u,(bv bs)[j]? = some u → L[o + j]? = some u) (hl:look T dd = some (.string bs)):Still P N B ops T A i :=
 ⟨_,dd,_,ho,rfl,hl,fun a w hF hS=>.inl ⟨gst_wanted (o:=⟨some dd,.convert s t x,ty,pos,af,gd⟩) hF hg,by
  have h1:=run_bytes (P:=P) hn (fun j u hu=>(cell_of (hS.here _ hb.mem) _).trans (h j u hu)) (w:=w) (c:=c)
  simp only [execOp,hF.eval hx]
  unfold convert
  simp [hs.run_und,ht.run_und,he.run_und,h1]⟩⟩
theorem Still.skipU {i dd j dj:Nat} {want:Bool} {op:Op} (ho:ops[i]? = some ⟨some dd,op,ty,pos,af,some (j,want)⟩) (hj:(ops[j]?).bind (·.dst) = some dj) (hu:look T dj = some undef) (hl:look T dd = some undef):Still P N B ops T A i :=
 ⟨_,dd,undef,ho,rfl,hl,fun a w hF hS=>.inr ⟨unwanted hF hj hu,rfl⟩⟩
end
section
variable {P:Program} {K:Nat} {N:Fi} {B:Base} {T:Tm} {A A':List Blk} {fn:Func} {R:Value → List Blk → Prop}
theorem ret4 {r s q p:ResultVar} {v u x y:Value} (hr:fn.results = #[r,s,q,p]) (h1:Res P ⟨K,[]⟩ B T A r v) (h2:Res P ⟨K,[]⟩ B T A s u) (h3:Res P ⟨K,[]⟩ B T A q x) (h4:Res P ⟨K,[]⟩ B T A p y) (hA:∀ w,Sat B A w → Sat B A' w) (hR:R (.tuple #[v,u,x,y]) A'):∀ a w,Fr ⟨K,[]⟩ T a → Sat B A w → post P fn B R .ret a w :=
 fun a w hF hS=>of_leaves hF ⟨.tuple #[v,u,x,y],by
  have e1:=h1 a w hF hS
  have e2:=h2 a w hF hS
  have e3:=h3 a w hF hS
  have e4:=h4 a w hF hS
  unfold results
  rw [hr]
  generalize hx:(fun x:ResultVar=>_:ResultVar → Sem Value) = f
  have e1':(f r).run P w = .ok v w:=by rw [← hx];exact e1
  have e2':(f s).run P w = .ok u w:=by rw [← hx];exact e2
  have e3':(f q).run P w = .ok x w:=by rw [← hx];exact e3
  have e4':(f p).run P w = .ok y w:=by rw [← hx];exact e4
  simp [e1',e2',e3',e4'],_,A',rfl,hR,hA w hS⟩
end
end Go.Sep
namespace Go.Proofs.YtaecdnfkcebbeaaGreat
open Go Go.Sep Go.Proofs
set_option maxRecDepth 10000
set_option maxHeartbeats 40000000
set_option synthInstance.maxSize 2000
@[reducible] def Hd.row (h:Hd):List Value:=[.int .i64 h.number,.int .i64 h.half,.int .i64 h.snap,.int .i64 h.log]
structure HdOk (h:Hd):Prop where
 n:h.number < 9223372036854775808
 f:h.half < 256
 s:h.snap < 9223372036854775808
 l:h.log < 9223372036854775808
def headB (h:Hd):ByteArray:=hiB h.number 8 ++ bytesOf [(h.half:Int)] ++ hiB h.snap 4 ++ hiB h.log 4
theorem headB_size (h:Hd):(headB h).size = 17:=by simp [headB,hiB_size,bytesOf_size]
theorem sector_spec (h:Hd) (ok:HdOk h):Con Tryz.prog 77 #[.agg h.row.toArray] [] fun v A=>v = .string (sectorF h) ∧ A = []:=by
 have hsz:=headB_size h
 obtain ⟨o1,o2,o3,o4⟩:=ok
 have hw:IntKind.wrap .u8 (h.half:Int) = (h.half:Int):=by
  simp only [IntKind.wrap,IntKind.bits,IntKind.signed,Bool.false_and,Bool.false_eq_true,if_false]
  omega
 have hb:bv (bytesOf [(h.half:Int)]) = [.int .u8 (h.half:Int)]:=bv_bytes (fun x hx=>by rw [List.mem_singleton] at hx;subst hx;omega)
 refine Con.intro (vs:=[_]) Tryz.func77 rfl Tryz.ntmps77 rfl (fun B=>?_)
 generalize hc2:Code.seq (Code.region 2 _ _) _ = c2
 repeat' (first|refine Cd.seq ?_|refine Cd.reg ?_|refine Ops.asg rfl rfl rfl rfl ?_|refine Ops.fa0 rfl rfl rfl rfl ?_|refine Ops.ld1 rfl rfl rfl rfl rfl ?_|refine Ops.box rfl rfl rfl rfl (noPd rfl) (fun b=>?_))
 rename Nat=>hb1
 refine Ops.call (high_spec h.number 8 (by decide) (by decide) o1) rfl (noPd rfl) rfl rfl rfl (fun v A' hR=>?_)
 obtain ⟨rfl,rfl⟩:=hR
 refine zg1 ?_
 subst hc2
 refine Cd.cut (σ:=Unit) (fun _=>True) (fun _=>[(3,.string (hiB h.number 8)),(4,.string (headB h))]) (fun _=>[]) ?_ (fun _ _=>?_)
 ·refine Cd.draw [(0,0,[]),(1,0,[]),(2,1,[]),(3,0,[]),(7,0,[]),(8,1,[]),(11,0,[]),(12,1,[]),(4,4,[8,12]),(5,1,[]),(6,0,[]),(9,2,[12,5]),(10,0,[]),(13,2,[5]),(14,0,[]),(15,0,[])] (by kernel_rfl) (by kernel_rfl) (by simp only [picked,nth];exact rfl) ?_
  refine zg2 ?_
  refine Ops.cvI rfl rfl rfl rfl ?_
  rw [hw]
  refine zg2 ?_
  refine Ops.fork' [(0,0,[]),(1,0,[]),(2,1,[]),(3,0,[]),(7,0,[]),(8,1,[]),(11,0,[]),(12,1,[]),(9,4,[2,12]),(4,4,[12]),(5,1,[]),(6,0,[]),(10,0,[]),(13,2,[5]),(14,0,[]),(15,0,[])] (by kernel_rfl) rfl (by simp only [picked,nth];exact rfl) ?_ ?_
  ·repeat' (first|refine Ops.bs1 rfl rfl rfl rfl rfl rfl rfl zp3 (fun b=>?_))
   refine Ops.cvSp (bs:=bytesOf [(h.half:Int)]) rfl rfl rfl (bytesOf_size _) (fun j u hu=>by rw [hb] at hu;rw [Nat.zero_add];exact hu) rfl ?_
   skip
   refine Ops.cat rfl rfl rfl rfl zp11 rfl ?_
   skip
   refine Ops.call (high_spec h.snap 4 (by decide) (by decide) o3) rfl zp8 rfl rfl rfl (fun v A' hR=>?_)
   obtain ⟨rfl,rfl⟩:=hR
   skip
   skip
   refine Ops.cat rfl rfl rfl rfl zp11 rfl ?_
   skip
   refine Ops.call (high_spec h.log 4 (by decide) (by decide) o4) rfl zp8 rfl rfl rfl (fun v A' hR=>?_)
   obtain ⟨rfl,rfl⟩:=hR
   skip
   skip
   refine Ops.cat rfl rfl rfl rfl zp11 rfl ?_
   refine zg1 ?_
   exact ze19
  ·skip
   refine Ops.call (high_spec h.snap 4 (by decide) (by decide) o3) rfl zp8 rfl rfl rfl (fun v A' hR=>?_)
   obtain ⟨rfl,rfl⟩:=hR
   refine Ops.fork' [(0,0,[]),(1,0,[]),(2,1,[]),(3,0,[]),(7,0,[]),(8,1,[]),(11,0,[]),(12,1,[]),(9,4,[2,12]),(13,4,[2]),(4,2,[]),(5,1,[]),(6,0,[]),(10,0,[]),(14,0,[]),(15,0,[])] (by kernel_rfl) rfl (by simp only [picked,nth];exact rfl) ?_ ?_
   ·repeat' (first|refine Ops.bs1 rfl rfl rfl rfl rfl rfl rfl zp3 (fun b=>?_))
    refine Ops.cvSp (bs:=bytesOf [(h.half:Int)]) rfl rfl rfl (bytesOf_size _) (fun j u hu=>by rw [hb] at hu;rw [Nat.zero_add];exact hu) rfl ?_
    skip
    refine Ops.cat rfl rfl rfl rfl zp11 rfl ?_
    skip
    refine Ops.cat rfl rfl rfl rfl zp11 rfl ?_
    skip
    refine Ops.call (high_spec h.log 4 (by decide) (by decide) o4) rfl zp8 rfl rfl rfl (fun v A' hR=>?_)
    obtain ⟨rfl,rfl⟩:=hR
    skip
    skip
    refine Ops.cat rfl rfl rfl rfl zp11 rfl ?_
    refine zg1 ?_
    exact ze19
   ·skip
    refine Ops.call (high_spec h.log 4 (by decide) (by decide) o4) rfl zp8 rfl rfl rfl (fun v A' hR=>?_)
    obtain ⟨rfl,rfl⟩:=hR
    repeat' (first|refine Ops.bs1 rfl rfl rfl rfl rfl rfl rfl zp3 (fun b=>?_))
    refine Ops.cvSp (bs:=bytesOf [(h.half:Int)]) rfl rfl rfl (bytesOf_size _) (fun j u hu=>by rw [hb] at hu;rw [Nat.zero_add];exact hu) rfl ?_
    skip
    refine Ops.cat rfl rfl rfl rfl zp11 rfl ?_
    skip
    refine Ops.cat rfl rfl rfl rfl zp11 rfl ?_
    skip
    refine Ops.cat rfl rfl rfl rfl zp11 rfl ?_
    refine zg1 ?_
    exact ze19
 ·refine zg32 ?_
  rw [show ((128:Int) - (((headB h).size:Nat):Int) - 8) = 103 from by omega]
  refine Ops.call noughts_spec rfl (noPd rfl) rfl rfl rfl (fun v A' hR=>?_)
  obtain ⟨rfl,rfl⟩:=hR
  refine Ops.cat rfl rfl rfl rfl ?_ rfl ?_
  ·rw [hsz,zB_size];decide
  refine zg0 ?_
  refine Ops.cat rfl rfl rfl rfl ?_ rfl ?_
  ·rw [ByteArray.size_append,hsz,zB_size,hiB_size];decide
  refine zg1 ?_
  exact ze8
structure DkA (db:Nat) (x:Dk) (k:Nat) (D:List Blk):Prop where
 a:DiskA db x.S x.ar x.bd x.de k D
 n:x.S.length ≤ 1026
 k:k ≤ 900000000000
 b0:0 ≤ x.bd
 b1:x.bd ≤ 128
 a0:0 ≤ x.ar
 a1:x.ar ≤ 9223372036854775807
theorem roomF_le (n:Nat):roomF n ≤ 65536:=by
 unfold roomF;split <;> omega
theorem room_spec (db:Nat) (x:Dk) (k:Nat) (D:List Blk) (hD:DkA db x k D):Con Tryz.prog 74 #[ptr db] D fun v A=>v = .int .i64 (roomF x.S.length:Nat) ∧ A = D:=by
 have hn:=hD.n
 refine Con.intro (vs:=[_]) Tryz.func74 rfl Tryz.ntmps74 rfl (fun B=>?_)
 refine zg0 ?_
 refine Ops.call (dsize_spec db x.S x.ar x.bd x.de k D hD.a) rfl (noPd rfl) rfl rfl rfl (fun v A' hR=>?_)
 obtain ⟨rfl,rfl⟩:=hR
 generalize x.S.length = n at hn ⊢
 have h2:(2:Int) ≠ 0:=by decide
 unfold roomF
 by_cases c1:n < 4
 ·have c1':(n:Int) - 2 < 2:=by omega
  rw [if_pos (.inl c1)]
  refine zg30 ?_
  exact ze20
 ·have c1':¬ (n:Int) - 2 < 2:=by omega
  have em:((n:Int) - 2).tmod 2 = ((n % 2:Nat):Int):=by
   rw [show (n:Int) - 2 = ((n - 2:Nat):Int) from by omega,show (2:Int) = ((2:Nat):Int) from rfl,← Int.ofNat_tmod];omega
  by_cases c2:n % 2 = 1
  ·rw [if_pos (.inr (.inl c2))]
   refine zg30 ?_
   refine Ops.remI rfl rfl rfl rfl h2 rfl ?_
   rw [em,c2]
   refine zg20 ?_
   exact ze20
  ·rw [if_neg (by omega)]
   have c2':¬ (((n % 2:Nat):Int) = 1):=by omega
   have c3':¬ (1024:Int) < (n:Int) - 2:=by omega
   refine zg30 ?_
   refine Ops.remI rfl rfl rfl rfl h2 rfl ?_
   rw [em]
   refine zg21 ?_
   rw [show (n:Int) - 2 = ((n - 2:Nat):Int) from by omega]
   refine Ops.quoI (a:=n - 2) (b:=2) rfl rfl rfl rfl (by omega) (by decide) rfl ?_
   refine zg39 ?_
   exact Cd.ret (ret1 (A':=A') rfl (Res.tmp rfl) (fun _ h=>h.split) ⟨by push_cast;rfl,rfl⟩)
end Go.Proofs.YtaecdnfkcebbeaaGreat
