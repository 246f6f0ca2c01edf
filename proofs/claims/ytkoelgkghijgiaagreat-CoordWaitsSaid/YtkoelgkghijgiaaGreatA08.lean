import Derived.Test.YtkoelgkghijgiaaGreatA01
import Derived.Test.YtkoelgkghijgiaaGreatA04
import Derived.Test.YtkoelgkghijgiaaGreatA07
import Derived.Lib.Bytealg
import Derived.Test.YtkoelgkghijgiaaGreatA05
set_option linter.unusedVariables false
set_option linter.unusedSimpArgs false
namespace Go.Proofs.YtkoelgkghijgiaaGreat
open Go Go.Sep Go.Proofs Go.Proofs.Tryz
set_option maxRecDepth 10000
set_option maxHeartbeats 40000000
set_option synthInstance.maxSize 2000
structure WlOk (w:Wl) (len:Nat):Prop where
 n:w.h.number ≤ 1099511627776
 f:w.h.half ≤ 1
 fit:w.h.snap + w.h.log ≤ roomF len
 r0:0 ≤ w.recs
 r1:w.recs ≤ 4000000000000000000
theorem frameF_size (r:ByteArray) (h:r.size ≤ 1000000):(frameF r).size ≤ r.size + 10:=by
 have:=numB_size (n:=r.size) (by omega)
 rw [frameF,ByteArray.size_append];omega
def LogR (wb db:Nat) (r:(Wl × Dk) × Int) (k:Nat) (v:Value) (A:List Blk):Prop:=v = .int .i64 r.2 ∧ ∃ D,A = WlB wb db r.1.1 :: D ∧ DkA db r.1.2 k D
theorem append_spec (B0:Base) (wb db:Nat) (w:Wl) (x:Dk) (k:Nat) (D:List Blk) (hD:DkA db x k D) (r:ByteArray) (ok:WlOk w x.S.length) (hr:r.size ≤ 900000) (hk:k ≤ 800000000000) :
  ConB prog B0 110 #[ptr wb,.string r] (WlB wb db w :: D) (LogR wb db (appendF w x r) (k + r.size + 20)):=by
 have hrl:=roomF_le x.S.length
 have hfz:=frameF_size r (by omega)
 have hadd:∀ a b:Nat,(a:Int) + (b:Int) = ((a + b:Nat):Int):=fun a b=>by push_cast;rfl
 have hD9:=hD.more (k':=k + r.size + 20) (by omega) (by omega)
 obtain ⟨⟨hn,half,snap,log⟩,recs,dead⟩:=w
 obtain ⟨o1,o2,o3,o4,o5⟩:=ok
 dsimp only at o1 o2 o3 o4 o5
 refine zqJ (vs:=[_,_]) func110 ntmps110 fun B hB=>?_
 dsimp only [WlB]
 have hap:appendF ⟨⟨hn,half,snap,log⟩,recs,dead⟩ x r = if (dead || x.de) then ((⟨⟨hn,half,snap,log⟩,recs,true⟩,x),2)
  else if r.size = 0 ∨ 2048 < r.size then ((⟨⟨hn,half,snap,log⟩,recs,dead⟩,x),92)
  else if roomF x.S.length < snap + log + (frameF r).size then ((⟨⟨hn,half,snap,log⟩,recs,dead⟩,x),93)
  else if 1099511627776 ≤ hn then ((⟨⟨hn,half,snap,log⟩,recs,dead⟩,x),(94:Int))
  else Wl.done ⟨⟨hn,half,snap,log⟩,recs,dead⟩ ⟨hn + 1,half,snap,log + (frameF r).size⟩ (recs + 1) (headF ⟨hn + 1,half,snap,log + (frameF r).size⟩ (pagesF half (snap + log) (frameF r) x)):=rfl
 refine zg0 ?_
 refine zdr [qz 0,qz 1,qz 2,qz 3,qy 4,qz 5,qz 6,qz 7,qz 8,qy 9,qz 10,qz 11] ?_
 refine zg9 ?_
 rw [hadd]
 refine zqA (text_spec r (by omega)) fun v A' hR=>?_
 obtain ⟨rfl,rfl⟩:=hR
 rw [show numB r.size ++ r = frameF r from rfl]
 refine zg1 ?_
 refine zqA (gone_spec wb db ⟨⟨hn,half,snap,log⟩,recs,dead⟩ x k D hD) fun v A' hR=>?_
 obtain ⟨rfl,rfl⟩:=hR
 dsimp only [WlB]
 by_cases hg:(dead || x.de) = true
 ·rw [if_pos hg] at hap
  rw [hap,hg]
  refine zg6 ?_
  exact ze43
 have hg:(dead || x.de) = false:=by simpa using hg
 obtain ⟨rfl,hde⟩:dead = false ∧ x.de = false:=by simpa using hg
 rw [if_neg (by rw [hde];simp)] at hap
 rw [hde,show (false || false) = false from rfl]
 by_cases h1:r.size = 0
 ·have h1':(r.size:Int) = 0:=by omega
  rw [if_pos (.inl h1)] at hap
  rw [hap]
  refine zg7 ?_
  exact ze44
 have h1':¬ (r.size:Int) = 0:=by omega
 by_cases h2:2048 < r.size
 ·have h2':(2048:Int) < r.size:=by omega
  rw [if_pos (.inr h2)] at hap
  rw [hap]
  refine zg8 ?_
  exact ze44
 have h2':¬ (2048:Int) < r.size:=by omega
 rw [if_neg (by omega)] at hap
 by_cases h3:roomF x.S.length < snap + log + (frameF r).size
 ·have h3':((roomF x.S.length:Nat):Int) < ((snap + log:Nat):Int) + ((frameF r).size:Nat):=by omega
  rw [if_pos h3] at hap
  rw [hap]
  refine zg10 ?_
  refine zqA (room_spec db x k D hD) fun v A' hR=>?_
  obtain ⟨rfl,e⟩:=hR
  subst A'
  refine zg2 ?_
  exact ze44
 have h3':¬ ((roomF x.S.length:Nat):Int) < ((snap + log:Nat):Int) + ((frameF r).size:Nat):=by omega
 rw [if_neg h3] at hap
 refine zg10 ?_
 refine zqA (room_spec db x k D hD) fun v A' hR=>?_
 obtain ⟨rfl,e⟩:=hR
 subst A'
 by_cases h4:1099511627776 ≤ hn
 ·have h4':(1099511627776:Int) ≤ hn:=by omega
  rw [if_pos h4] at hap
  rw [hap]
  refine zg8 ?_
  exact ze44
 have h4':¬ (1099511627776:Int) ≤ hn:=by omega
 rw [if_neg h4] at hap
 rw [hap]
 have hl1:(hn:Int) + 1 = ((hn + 1:Nat):Int):=by push_cast;rfl
 repeat' (first|refine zs7 ?_|refine Ops.alloc rfl rfl rfl (noPd rfl) (fun b=>?_))
 rw [hadd,hl1]
 refine Ops.callB (write_spec B0 wb db ⟨⟨hn,half,snap,log⟩,recs,false⟩ x k D hD (snap + log) (frameF r) ⟨hn + 1,half,snap,log + (frameF r).size⟩ ⟨by show hn + 1 < _;omega,by show half < _;omega,by show snap < _;omega,by show log + (frameF r).size < _;omega⟩ o2 (by omega) (by omega) hk) hB rfl (noPd rfl) rfl rfl rfl (fun v A' hR=>?_)
 obtain ⟨D2,hD2,hR⟩:=hR
 have hD3:=hD2.more (k':=k + r.size + 20) (by omega) (by omega)
 clear hD2
 generalize headF ⟨hn + 1,half,snap,log + (frameF r).size⟩ (pagesF half (snap + log) (frameF r) x) = q at hR hD3 ⊢
 obtain ⟨x2,b⟩:=q
 dsimp only at hR hD3 ⊢
 rcases hR with ⟨rfl,rfl,rfl⟩|⟨rfl,rfl,rfl⟩
 ·dsimp only [WlB]
  refine zg16 ?_
  exact Cd.ret (ret1 (A':=WlB wb db ⟨⟨hn + 1,half,snap,log + (frameF r).size⟩,recs + 1,false⟩ :: D2) rfl (Res.tmp rfl) (fun _ h=>h.split) ⟨rfl,D2,rfl,hD3⟩)
 ·refine zg6 ?_
  exact ze45
theorem snapshot_spec (B0:Base) (wb db:Nat) (w:Wl) (x:Dk) (k:Nat) (D:List Blk) (hD:DkA db x k D) (s:ByteArray) (ok:WlOk w x.S.length) (hs:s.size ≤ 900000) (hk:k ≤ 800000000000) :
  ConB prog B0 108 #[ptr wb,.string s] (WlB wb db w :: D) (LogR wb db (snapF w x s) (k + s.size + 20)):=by
 have hrl:=roomF_le x.S.length
 have hD9:=hD.more (k':=k + s.size + 20) (by omega) (by omega)
 obtain ⟨⟨hn,half,snap,log⟩,recs,dead⟩:=w
 obtain ⟨o1,o2,o3,o4,o5⟩:=ok
 dsimp only at o1 o2 o3 o4 o5
 refine zqJ (vs:=[_,_]) func108 ntmps108 fun B hB=>?_
 dsimp only [WlB]
 have hap:snapF ⟨⟨hn,half,snap,log⟩,recs,dead⟩ x s = if (dead || x.de) then ((⟨⟨hn,half,snap,log⟩,recs,true⟩,x),2)
  else if 17000 < s.size ∨ roomF x.S.length < s.size then ((⟨⟨hn,half,snap,log⟩,recs,dead⟩,x),92)
  else if 1099511627776 ≤ hn then ((⟨⟨hn,half,snap,log⟩,recs,dead⟩,x),(94:Int))
  else Wl.done ⟨⟨hn,half,snap,log⟩,recs,dead⟩ ⟨hn + 1,1 - half,s.size,0⟩ 0 (headF ⟨hn + 1,1 - half,s.size,0⟩ (pagesF (1 - half) 0 s x)):=rfl
 refine zg1 ?_
 refine zqA (gone_spec wb db ⟨⟨hn,half,snap,log⟩,recs,dead⟩ x k D hD) fun v A' hR=>?_
 obtain ⟨rfl,rfl⟩:=hR
 dsimp only [WlB]
 by_cases hg:(dead || x.de) = true
 ·rw [if_pos hg] at hap
  rw [hap,hg]
  refine zg6 ?_
  exact ze43
 have hg:(dead || x.de) = false:=by simpa using hg
 obtain ⟨rfl,hde⟩:dead = false ∧ x.de = false:=by simpa using hg
 rw [if_neg (by rw [hde];simp)] at hap
 rw [hde,show (false || false) = false from rfl]
 by_cases h1:17000 < s.size
 ·have h1':(17000:Int) < s.size:=by omega
  rw [if_pos (.inl h1)] at hap
  rw [hap]
  refine zg7 ?_
  exact ze44
 have h1':¬ (17000:Int) < s.size:=by omega
 refine zg8 ?_
 refine zqA (room_spec db x k D hD) fun v A' hR=>?_
 obtain ⟨rfl,e⟩:=hR
 subst A'
 by_cases h2:roomF x.S.length < s.size
 ·have h2':((roomF x.S.length:Nat):Int) < s.size:=by omega
  rw [if_pos (.inr h2)] at hap
  rw [hap]
  refine zg8 ?_
  exact ze44
 have h2':¬ ((roomF x.S.length:Nat):Int) < s.size:=by omega
 rw [if_neg (by omega)] at hap
 by_cases h4:1099511627776 ≤ hn
 ·have h4':(1099511627776:Int) ≤ hn:=by omega
  rw [if_pos h4] at hap
  rw [hap]
  refine zg8 ?_
  exact ze44
 have h4':¬ (1099511627776:Int) ≤ hn:=by omega
 rw [if_neg h4] at hap
 rw [hap]
 have hl1:(hn:Int) + 1 = ((hn + 1:Nat):Int):=by push_cast;rfl
 have hl2:(1:Int) - (half:Int) = ((1 - half:Nat):Int):=by omega
 refine zg8 ?_
 refine zdr [qz 0,qz 1,qz 2,qz 3,qz 4,qz 5,qy 6,qz 7,qz 8,qz 9,qz 10,qz 11,qy 12,qz 13,qz 14,qz 15,qz 16,(17,2,[]),qz 18] ?_
 refine zg16 ?_
 rw [hl1,hl2]
 refine Ops.callB (write_spec B0 wb db ⟨⟨hn,half,snap,log⟩,recs,false⟩ x k D hD 0 s ⟨hn + 1,1 - half,s.size,0⟩ ⟨by show hn + 1 < _;omega,by show 1 - half < _;omega,by show s.size < _;omega,by show 0 < _;omega⟩ (by show 1 - half ≤ 1;omega) (by omega) (by omega) hk) hB rfl (noPd rfl) rfl rfl rfl (fun v A' hR=>?_)
 obtain ⟨D2,hD2,hR⟩:=hR
 have hD3:=hD2.more (k':=k + s.size + 20) (by omega) (by omega)
 clear hD2
 dsimp only at hR hD3
 generalize headF ⟨hn + 1,1 - half,s.size,0⟩ (pagesF (1 - half) 0 s x) = q at hR hD3 ⊢
 obtain ⟨x2,b⟩:=q
 dsimp only at hR hD3 ⊢
 rcases hR with ⟨rfl,rfl,rfl⟩|⟨rfl,rfl,rfl⟩
 ·dsimp only [WlB]
  refine zg17 ?_
  exact Cd.ret (ret1 (A':=WlB wb db ⟨⟨hn + 1,1 - half,s.size,0⟩,0,false⟩ :: D2) rfl (Res.tmp rfl) (fun _ h=>h.split) ⟨rfl,D2,rfl,hD3⟩)
 ·refine zg6 ?_
  exact ze45
theorem fitN_stop {left n:Nat} (h:¬ left < (numB n).size + n):fitN left n = n:=by
 cases n with
 | zero=>rfl
 | succ n=>rw [fitN,if_neg h]
theorem fitN_down {left n:Nat} (h0:n ≠ 0) (h:left < (numB n).size + n):fitN left n = fitN left (n - 1):=by
 cases n with
 | zero=>exact absurd rfl h0
 | succ n=>rw [fitN,if_pos h,Nat.add_sub_cancel]
theorem roomw_spec (B0:Base) (wb db:Nat) (w:Wl) (x:Dk) (k:Nat) (D:List Blk) (hD:DkA db x k D) (ok:WlOk w x.S.length) :
  ConB prog B0 107 #[ptr wb] (WlB wb db w :: D) fun v A=>v = .int .i64 (roomW w x.S.length:Nat) ∧ A = WlB wb db w :: D:=by
 have hrl:=roomF_le x.S.length
 obtain ⟨⟨hn,half,snap,log⟩,recs,dead⟩:=w
 obtain ⟨o1,o2,o3,o4,o5⟩:=ok
 dsimp only at o1 o2 o3 o4 o5
 refine zqJ (vs:=[_]) func107 ntmps107 fun B hB=>?_
 dsimp only [WlB]
 have hrw:roomW ⟨⟨hn,half,snap,log⟩,recs,dead⟩ x.S.length = fitN (roomF x.S.length - snap - log) (min 2048 (roomF x.S.length - snap - log)):=rfl
 refine zg0 ?_
 refine zdr [qz 0,qz 1,qz 2,qy 3,qz 5,qz 6,qz 7,qz 8,qy 9,qz 11,qz 12,qz 13,qz 14,qy 15,(4,2,[9,15]),qz 10,qz 16,qz 17] ?_
 refine zg5 ?_
 refine Ops.call (room_spec db x k D hD) rfl zp6 rfl rfl rfl (fun v A' hR=>?_)
 obtain ⟨rfl,e⟩:=hR
 subst A'
 refine zg11 ?_
 rw [show ((roomF x.S.length:Nat):Int) - snap - log = ((roomF x.S.length - snap - log:Nat):Int) from by omega]
 generalize roomF x.S.length - snap - log = left at hrw ⊢
 rw [show min (2048:Int) ((left:Nat):Int) = ((min 2048 left:Nat):Int) from by omega]
 refine Cd.loopK (σ:=Nat) (fun n=>n ≤ 2048 ∧ fitN left (min 2048 left) = fitN left n) (fun n=>[(3,.int .i64 left),(4,.int .i64 n)]) (fun n=>WlB wb db ⟨⟨hn,half,snap,log⟩,recs,dead⟩ :: D) (fun n=>n) (min 2048 left) ⟨Nat.min_le_left _ _,rfl⟩ ⟨rfl,rfl,trivial⟩ (fun w h=>h.split) (fun n hn2=>?_)
 obtain ⟨hn2,hft⟩:=hn2
 have hexit:fitN left n = n → roomW ⟨⟨hn,half,snap,log⟩,recs,dead⟩ x.S.length = n:=fun h=>by rw [hrw,hft,h]
 by_cases h0:n = 0
 ·subst h0
  rw [hexit rfl]
  refine zg7 ?_
  exact Cd.ret (ret1 (A':=WlB wb db ⟨⟨hn,half,snap,log⟩,recs,dead⟩ :: D) rfl (Res.tmp rfl) (fun _ h=>h.split) ⟨by congr 1,rfl⟩)
 have h0':(0:Int) < n:=by omega
 have hnz:(numB n).size ≤ 10:=numB_size (by omega)
 by_cases hlt:left < (numB n).size + n
 ·have hlt':((left:Nat):Int) < ((numB n).size:Nat) + (n:Int):=by omega
  refine zg7 ?_
  refine Ops.cvI rfl rfl rfl rfl ?_
  rw [wrap_u64 (by omega)]
  refine zqA (num_spec n (by omega)) fun v A' hR=>?_
  obtain ⟨rfl,rfl⟩:=hR
  refine zg10 ?_
  rw [show (n:Int) - 1 = ((n - 1:Nat):Int) from by omega]
  exact Ops.nilN (inB (round_end (n - 1:Nat) ⟨by show n - 1 ≤ 2048;omega,by rw [hft,fitN_down h0 hlt]⟩ (by show n - 1 < n;omega) ⟨rfl,rfl,trivial⟩ (fun w h=>h.split)))
 ·have hlt':¬ ((left:Nat):Int) < ((numB n).size:Nat) + (n:Int):=by omega
  rw [hexit (fitN_stop hlt)]
  refine zg7 ?_
  refine Ops.cvI rfl rfl rfl rfl ?_
  rw [wrap_u64 (by omega)]
  refine zqA (num_spec n (by omega)) fun v A' hR=>?_
  obtain ⟨rfl,rfl⟩:=hR
  refine zg13 ?_
  exact Cd.ret (ret1 (A':=WlB wb db ⟨⟨hn,half,snap,log⟩,recs,dead⟩ :: D) rfl (Res.tmp rfl) (fun _ h=>h.split) ⟨by congr 1 <;> omega,rfl⟩)
theorem rin_spec (a l h:Int):Con prog 169 #[.int .i64 a,.int .i64 l,.int .i64 h] [] fun v A=>v = .bool (decide (l ≤ a ∧ a ≤ h)) ∧ A = []:=by
 refine zqI (vs:=[_,_,_]) func169 ntmps169 fun B=>?_
 by_cases h1:l ≤ a
 ·by_cases h2:a ≤ h
  ·rw [decide_eq_true (⟨h1,h2⟩:l ≤ a ∧ a ≤ h)]
   refine zg7 ?_
   exact ze46
  ·rw [decide_eq_false (fun q:l ≤ a ∧ a ≤ h=>h2 q.2)]
   refine zg7 ?_
   exact ze47
 ·rw [decide_eq_false (fun q:l ≤ a ∧ a ≤ h=>h1 q.1)]
  refine zg11 ?_
  exact ze9
theorem right_spec (h z m:Bool):Con prog 231 #[.bool h,.bool z,.bool m] [] fun v A=>v = .bool (if h then m else z) ∧ A = []:=by
 refine zqI (vs:=[_,_,_]) func231 ntmps231 fun B=>?_
 cases h with
 | true =>
  refine zg6 ?_
  exact ze9
 | false =>
  refine zg4 ?_
  exact ze9
def hasS (kind:Int):ByteArray:=if kind = 1 then ⟨#[110]⟩ else if kind = 2 then ⟨#[106,112]⟩ else if kind = 3 then ⟨#[106,98,115]⟩ else if kind = 4 then ⟨#[98,116]⟩ else if kind = 5 then ⟨#[98]⟩ else if kind = 6 then ⟨#[98,114]⟩ else ⟨#[]⟩
theorem has_spec (kind:Int):Con prog 230 #[.int .i64 kind] [] fun v A=>v = .string (hasS kind) ∧ A = []:=by
 refine zqI (vs:=[_]) func230 ntmps230 fun B=>?_
 unfold hasS
 by_cases h1:kind = 1
 ·rw [if_pos h1]
  refine zg2 ?_
  exact ze9
 rw [if_neg h1]
 by_cases h2:kind = 2
 ·rw [if_pos h2]
  refine zg2 ?_
  exact ze9
 rw [if_neg h2]
 by_cases h3:kind = 3
 ·rw [if_pos h3]
  refine zg2 ?_
  exact ze9
 rw [if_neg h3]
 by_cases h4:kind = 4
 ·rw [if_pos h4]
  refine zg2 ?_
  exact ze9
 rw [if_neg h4]
 by_cases h5:kind = 5
 ·rw [if_pos h5]
  refine zg2 ?_
  exact ze9
 rw [if_neg h5]
 by_cases h6:kind = 6
 ·rw [if_pos h6]
  refine zg2 ?_
  exact ze9
 rw [if_neg h6]
 refine zg2 ?_
 exact ze9
def idx1 (s:ByteArray) (c:UInt8):Int:=Lib.indexByte s.data.toList c
instance :ExtOk prog 323 Extern.BytealgIndexByte.indexByte:=⟨⟨_,func323,by kernel_rfl,by kernel_rfl,by kernel_rfl,by kernel_rfl⟩⟩
theorem slbyte_spec (s:ByteArray) (c:UInt8):Con prog 317 #[.string s,.int .u8 c.toNat] [] fun v A=>v = .int .i64 (idx1 s c) ∧ A = []:=by
 refine zqI (vs:=[_,_]) func317 ntmps317 fun B=>?_
 have hr:∀ w:World,(Extern.BytealgIndexByte.indexByte #[.string s,.int .u8 c.toNat]).run prog w = .ok (.int .i64 (idx1 s c)) w:=fun w=>by
  rw [Lib.run_indexByteString,Int.toNat_natCast,show c.toNat.toUInt8 = c from by simp,idx1]
 refine zg0 ?_
 refine Ops.extR (vs:=[.string s,.int .u8 c.toNat]) rfl rfl rfl hr rfl (noPd rfl) ?_
 refine zg0 ?_
 exact ze9
theorem slindex_spec (s u:ByteArray) (c:UInt8) (hu:u = ⟨#[c]⟩):Con prog 305 #[.string s,.string u] [] fun v A=>v = .int .i64 (idx1 s c) ∧ A = []:=by
 have hsz:u.size = 1:=by rw [hu];rfl
 have hsz':(u.size:Int) = 1:=by omega
 have hg:u[(0:Int).toNat]? = some c:=by subst hu;rfl
 refine zqI (vs:=[_,_]) func305 ntmps305 fun B=>?_
 by_cases he:u = s
 ·have h0:idx1 s c = 0:=by rw [← he,hu];simp [idx1,Lib.indexByte]
  rw [h0]
  clear hu
  refine zg8 ?_
  rw [hsz]
  exact ze9
 ·clear hu
  refine zg10 ?_
  rw [hsz]
  refine Ops.ixS rfl rfl rfl rfl (by decide) hg rfl ?_
  refine zqA (slbyte_spec s c) fun v A' hR=>?_
  obtain ⟨rfl,rfl⟩:=hR
  refine zg0 ?_
  exact ze9
theorem sindex_spec (s u:ByteArray) (c:UInt8) (hu:u = ⟨#[c]⟩):Con prog 279 #[.string s,.string u] [] fun v A=>v = .int .i64 (idx1 s c) ∧ A = []:=by
 refine zqI (vs:=[_,_]) func279 ntmps279 fun B=>?_
 refine zg0 ?_
 refine zqA (slindex_spec s u c hu) fun v A' hR=>?_
 obtain ⟨rfl,rfl⟩:=hR
 refine zg0 ?_
 exact ze9
def hasC (s:ByteArray) (c:UInt8):Bool:=decide (0 ≤ idx1 s c)
theorem scontains_spec (s u:ByteArray) (c:UInt8) (hu:u = ⟨#[c]⟩):Con prog 229 #[.string s,.string u] [] fun v A=>v = .bool (hasC s c) ∧ A = []:=by
 refine zqI (vs:=[_,_]) func229 ntmps229 fun B=>?_
 refine zg0 ?_
 refine zqA (sindex_spec s u c hu) fun v A' hR=>?_
 obtain ⟨rfl,rfl⟩:=hR
 refine zg3 ?_
 exact ze9
def SIn (B:Base) (a:Option Addr) (l:List ByteArray):Prop:=∀ (i:Nat) (s:ByteArray),l[i]? = some s → ∃ b off,a = some ⟨b,off,none⟩ ∧ ∀ A,Rd B A b (off + i * 1) (.string s)
theorem SIn.ext {B B2:Base} {a:Option Addr} {l:List ByteArray} (e:Ext B B2) (h:SIn B a l):SIn B2 a l:=fun i s hs=>by
 obtain ⟨b,off,ha,hr⟩:=h i s hs
 exact ⟨b,off,ha,fun A=>(hr A).ext e⟩
theorem SIn.nil {B:Base} {a:Option Addr}:SIn B a []:=fun i s hs=>by cases hs
def longT (t:ByteArray):Bool:=decide (32 < t.size)
theorem texts1_spec (t:ByteArray):Con prog 281 #[.string t] [] fun v A=>v = .bool (longT t) ∧ A = []:=by
 refine zqI (vs:=[_]) func281 ntmps281 fun B=>?_
 refine zg3 ?_
 exact Cd.ret (ret1 (A':=[]) rfl (Res.tmp rfl) (fun _ h=>h.split) ⟨by unfold longT;congr 1;simp;omega,rfl⟩)
theorem findT_spec (B0:Base) (a:Option Addr) (c:Nat) (l:List ByteArray) (hS:SIn B0 a l) (hl:l.length ≤ 2000000) :
  ConB prog B0 306 #[.slice a l.length c,.func (.func 281) #[] #[]] [] fun v A=>(∃ k:Int,v = .int .i64 k ∧ (l.any longT = true → 0 ≤ k) ∧ (l.any longT = false → k < 0)) ∧ A = []:=by
 refine ConB.intro (vs:=[_,_]) func306 rfl ntmps306 rfl (fun B hx=>?_)
 have hS:=hS.ext hx
 generalize B.plain = B1 at hS ⊢
 clear hx
 refine zg1 ?_
 refine Cd.loopK (fun i:Nat=>i ≤ l.length ∧ l.any longT = (l.drop i).any longT) (fun i=>[(0,.slice a l.length c),(1,.func (.func 281) #[] #[]),(7,.int .i64 l.length),(8,.int .i64 i)])
  (fun _=>[]) (fun i=>l.length - i) 0 ⟨Nat.zero_le _,by simp⟩ ⟨rfl,rfl,rfl,rfl,trivial⟩ (fun w h=>h) (fun i hI=>?_)
 obtain ⟨hi,hem⟩:=hI
 by_cases hil:i < l.length
 ·have hil':(i:Int) < l.length:=by omega
  obtain ⟨x,hx⟩:∃ x,l[i]? = some x:=⟨_,List.getElem?_eq_getElem hil⟩
  obtain ⟨b,off,rfl,hrd⟩:=hS i x hx
  have hrw:∀ A,Rd B1 A b (off + (i:Int).toNat * 1) (.string x):=fun A=>by rw [Int.toNat_natCast];exact hrd A
  have hdr:l.drop i = x :: l.drop (i + 1):=by
   obtain ⟨h1,rfl⟩:=List.getElem?_eq_some_iff.1 hx
   exact List.drop_eq_getElem_cons h1
  rw [hdr,List.any_cons] at hem
  refine zg15 ?_
  refine Ops.ldR rfl rfl rfl (hrw _) rfl ?_
  refine Ops.callV (fi:=[]) (ca:=[]) (vs:=[_]) (texts1_spec x) rfl (noPd rfl) rfl rfl rfl rfl (fun v A' hR=>?_)
  obtain ⟨rfl,rfl⟩:=hR
  cases hq:longT x with
  | true =>
   rw [hq] at hem
   refine zg6 ?_
   exact Cd.ret (ret1 (A':=[]) rfl (Res.tmp rfl) (fun _ h=>h.split) ⟨⟨i,rfl,(fun _=>Int.natCast_nonneg _),(fun h=>by rw [hem] at h;cases h)⟩,rfl⟩)
  | false =>
   rw [hq] at hem
   refine zg13 ?_
   exact Ops.nilN (round_end (i + 1) ⟨by show i + 1 ≤ l.length;omega,by rw [hem,Bool.false_or]⟩ zp15 ⟨rfl,rfl,rfl,rfl,trivial⟩ (fun w h=>h.split))
 ·obtain rfl:i = l.length:=by omega
  rw [List.drop_length] at hem
  have hil':¬ ((l.length:Nat):Int) < l.length:=by omega
  refine zg2 ?_
  exact Cd.ret (ret1 (A':=[]) rfl (Res.tmp rfl) (fun _ h=>h.split) ⟨⟨-1,rfl,(fun h=>by rw [hem] at h;cases h),(fun _=>by decide)⟩,rfl⟩)
theorem hasT_spec (B0:Base) (a:Option Addr) (c:Nat) (l:List ByteArray) (hS:SIn B0 a l) (hl:l.length ≤ 2000000) :
  ConB prog B0 280 #[.slice a l.length c,.func (.func 281) #[] #[]] [] fun v A=>v = .bool (l.any longT) ∧ A = []:=by
 refine ConB.intro (vs:=[_,_]) func280 rfl ntmps280 rfl (fun B hx=>?_)
 refine zg0 ?_
 refine Ops.callB (findT_spec B0 a c l hS hl) hx rfl (noPd rfl) rfl rfl rfl (fun v A' hR=>?_)
 obtain ⟨⟨k,rfl,h1,h2⟩,rfl⟩:=hR
 cases hp:l.any longT with
 | true =>
  have:=h1 hp
  refine zg3 ?_
  exact Cd.ret (ret1 (A':=[]) rfl (Res.tmp rfl) (fun _ h=>h.split) ⟨by simp [this],rfl⟩)
 | false =>
  have:=h2 hp
  refine zg3 ?_
  exact Cd.ret (ret1 (A':=[]) rfl (Res.tmp rfl) (fun _ h=>h.split) ⟨by congr 1;simp;omega,rfl⟩)
def textsF (l:List ByteArray):Bool:=decide (1 ≤ l.length ∧ l.length ≤ 8) && !l.any longT
theorem texts_spec (B0:Base) (a:Option Addr) (c:Nat) (l:List ByteArray) (hS:SIn B0 a l) (hl:l.length ≤ 2000000) :
  ConB prog B0 232 #[.slice a l.length c] [] fun v A=>v = .bool (textsF l) ∧ A = []:=by
 refine ConB.intro (vs:=[_]) func232 rfl ntmps232 rfl (fun B hx=>?_)
 unfold textsF
 refine zg1 ?_
 refine zqA (rin_spec l.length 1 8) fun v A' hR=>?_
 obtain ⟨rfl,rfl⟩:=hR
 by_cases h:1 ≤ l.length ∧ l.length ≤ 8
 ·rw [decide_eq_true h,decide_eq_true (⟨by omega,by omega⟩:(1:Int) ≤ (l.length:Nat) ∧ ((l.length:Nat):Int) ≤ 8)]
  refine zg0 ?_
  refine Ops.callB (hasT_spec B0 a c l hS hl) hx rfl (noPd rfl) rfl rfl rfl (fun v A' hR=>?_)
  obtain ⟨rfl,rfl⟩:=hR
  refine zg3 ?_
  exact ze9
 ·rw [decide_eq_false h,decide_eq_false (by omega:¬ ((1:Int) ≤ (l.length:Nat) ∧ ((l.length:Nat):Int) ≤ 8))]
  refine zg6 ?_
  exact ze9
structure Ch where
 kind:Int
 n:Int
 job:Int
 badge:Int
 slot:Int
 life:Int
 rcode:Int
 rbits:Int
 prog:ByteArray
 txs:List ByteArray
@[reducible] def Ch.row (c:Ch) (a:Option Addr) (k:Nat):List Value:=[.int .i64 c.kind,.int .i64 c.n,.int .i64 c.job,.int .i64 c.badge,.int .i64 c.slot,.int .i64 c.life,.int .i64 c.rcode,.int .u64 c.rbits,.string c.prog,.slice a c.txs.length k]
theorem check1_spec (cb:Nat) (c:Ch) (a:Option Addr) (k:Nat) (u:ByteArray) (l:UInt8) (hu:u = ⟨#[l]⟩):Con prog 228 #[.string u,ptr cb] [(cb,cl (c.row a k) 103)] fun v A=>v = .bool (hasC (hasS c.kind) l) ∧ A = [(cb,cl (c.row a k) 103)]:=by
 refine zqI (vs:=[_,_]) func228 ntmps228 fun B=>?_
 refine zg1 ?_
 refine zqA (has_spec c.kind) fun v A' hR=>?_
 obtain ⟨rfl,rfl⟩:=hR
 refine zg0 ?_
 refine zqA (scontains_spec (hasS c.kind) u l hu) fun v A' hR=>?_
 obtain ⟨rfl,rfl⟩:=hR
 refine zg0 ?_
 exact Cd.ret (ret1 (A':=[(cb,cl (c.row a k) 103)]) rfl (Res.tmp rfl) (fun _ h=>h.split) ⟨rfl,rfl⟩)
def rgt (h z m:Bool):Bool:=if h then m else z
theorem zk {p q:Prop} (k:q) (h:Hid q → p:=by intro kk;(repeat' (first|refine Cd.seq ?_|refine Cd.reg ?_|refine Ops.nil ?_|refine Ops.mv rfl rfl rfl rfl ?_|refine Ops.asg rfl rfl rfl rfl ?_|refine Ops.nilP rfl rfl rfl rfl ?_|refine Ops.fa0 rfl rfl rfl rfl ?_|refine Ops.fa rfl rfl rfl rfl ?_|refine Ops.ld1 rfl rfl rfl rfl rfl ?_|refine Ops.lenS rfl rfl rfl rfl ?_|refine Ops.bin rfl rfl rfl rfl rfl ?_|refine Ops.un rfl rfl rfl rfl ?_|refine Ops.pickT rfl rfl rfl rfl rfl ?_|refine Ops.pickF rfl rfl rfl rfl rfl ?_|refine Ops.st1 rfl rfl rfl rfl rfl (noPd rfl) ?_|refine Ops.gSkip rfl rfl rfl ?_|refine Ops.gSkipE rfl zp11 rfl rfl ?_|refine Ops.gSkipU rfl rfl rfl rfl ?_|refine Ops.gSkipUE rfl zp11 rfl rfl rfl ?_|refine Ops.gSkipE rfl (noPd rfl) rfl rfl ?_|refine Cd.condT rfl rfl ?_|refine Cd.condF rfl rfl ?_|refine Cd.block ?_|refine Cd.skip (Cd.next ?_)|refine Cd.exit (Cd.next (Q':=fun _ _ _=>True) ?_)|((fail_if_success refine Ops.probe rfl ?_);refine Ops.gT rfl rfl zp0 ?_)|((fail_if_success refine Ops.probe rfl ?_);refine Ops.gF rfl rfl zp0 ?_)|fail));exact kk.get):p:=h ⟨k⟩
theorem rgt_spec (h z m:Bool):Con prog 231 #[.bool h,.bool z,.bool m] [] fun v A=>v = .bool (rgt h z m) ∧ A = []:=right_spec h z m
def rg1 (c:Ch):Bool:=rgt (hasC (hasS c.kind) 110) (decide (c.n = 0)) (decide (1 ≤ c.n ∧ c.n ≤ 1099511627776))
def rg2 (c:Ch):Bool:=rgt (hasC (hasS c.kind) 106) (decide (c.job = 0)) (decide (1 ≤ c.job ∧ c.job ≤ 8))
def rg3 (c:Ch):Bool:=rgt (hasC (hasS c.kind) 112) (decide (c.prog = ⟨#[]⟩)) (decide ((1:Int) ≤ (c.prog.size:Nat) ∧ ((c.prog.size:Nat):Int) ≤ 1024))
def rg4 (c:Ch):Bool:=rgt (hasC (hasS c.kind) 98) (decide (c.badge = 0)) (decide (1 ≤ c.badge ∧ c.badge ≤ 1099511627776))
def rg5 (c:Ch):Bool:=rgt (hasC (hasS c.kind) 115) (decide (c.slot = 0) && decide (c.life = 0)) (decide (0 ≤ c.slot ∧ c.slot ≤ 7) && decide (1 ≤ c.life ∧ c.life ≤ 1099511627776))
def rg6 (c:Ch):Bool:=rgt (hasC (hasS c.kind) 116) (decide (((c.txs.length:Nat):Int) = 0)) (textsF c.txs)
def rg7 (c:Ch):Bool:=rgt (hasC (hasS c.kind) 114) (decide (c.rcode = 0) && (decide (c.rbits = 0) && true)) (decide (0 ≤ c.rcode ∧ c.rcode ≤ 7) && (decide (c.rcode = 0) || decide (c.rbits = 0)))
def checkF (c:Ch):Int:=if ¬ (1 ≤ c.kind ∧ c.kind ≤ 6) then 80 else if rg1 c && (rg2 c && (rg3 c && (rg4 c && (rg5 c && (rg6 c && rg7 c))))) then 0 else 81
theorem rcheck_spec (B0:Base) (c:Ch) (a:Option Addr) (k:Nat) (hS:SIn B0 a c.txs) (hl:c.txs.length ≤ 2000000) :
  ConB prog B0 171 #[.agg (c.row a k).toArray] [] fun v A=>v = .int .i64 (checkF c) ∧ A = []:=by
 refine ConB.intro (vs:=[_]) func171 rfl ntmps171 rfl (fun B hx=>?_)
 repeat' (first|refine zs0 ?_|refine Ops.box rfl rfl rfl rfl (noPd rfl) (fun b=>?_))
 rename Nat=>cb
 refine zqA (rin_spec c.kind 1 6) fun v A' hR=>?_
 obtain ⟨rfl,rfl⟩:=hR
 by_cases hk:1 ≤ c.kind ∧ c.kind ≤ 6
 case neg =>
  rw [decide_eq_false hk,show checkF c = 80 from if_pos hk]
  refine zg6 ?_
  exact ze9
 rw [decide_eq_true hk]
 have hck:checkF c = if rg1 c && (rg2 c && (rg3 c && (rg4 c && (rg5 c && (rg6 c && rg7 c))))) then 0 else 81:=if_neg (not_not_intro hk)
 rw [hck]
 clear hck
 repeat' (first|refine zs4 ?_|refine Ops.alloc rfl rfl rfl (noPd rfl) (fun b=>?_))
 rename Nat=>xb
 dsimp only [List.append]
 refine zdr [qz 0,qz 2,qy 3,qz 4,qz 5,qy 6,(1,2,[3,6]),(7,2,[3]),(8,2,[]),qz 9,qz 10,qz 12,qy 13,qz 14,qz 15,qy 16,(11,2,[13,16]),(17,2,[13]),(18,2,[]),qz 19,qz 20,qz 21,qz 23,qy 24,qz 25,qz 26,qy 27,qz 28,(22,2,[24,27]),(29,2,[24]),(30,2,[]),qz 31,qz 32,qz 33,qz 35,qy 36,qz 37,qz 38,qy 39,(34,2,[36,39]),(40,2,[36]),(41,2,[]),qz 42,qz 43,qz 44,qz 46,qy 47,qz 48,qz 54,qy 55,(45,2,[47,55]),qz 49,qz 50,qy 51,qz 52,qz 53,(56,2,[51]),qz 57,qz 58,qy 59,(60,2,[51]),qz 61,(62,2,[]),qz 63,qz 64,qz 65,qz 67,qy 68,qy 69,qz 70,qz 71,qy 72,(66,2,[68,69,72]),(73,2,[68,69]),(74,2,[]),qz 75,qz 76,qz 77,qy 79,qz 80,qz 81,qz 82,qy 83,(78,2,[79,83]),(84,2,[79]),qz 85,qz 86,qy 87,qz 88,qz 89,qz 90,qy 91,qz 92,qz 93,qz 94,(95,2,[]),qz 96] ?_
 refine zg3 ?_
 refine Ops.callV (fi:=[]) (ca:=[ptr cb]) (vs:=[_]) (check1_spec cb c a k _ 110 rfl) rfl zp2 rfl rfl rfl rfl (fun v A' hR=>?_)
 obtain ⟨rfl,rfl⟩:=hR
 refine Ops.call (rin_spec c.n 1 1099511627776) rfl zp2 rfl rfl rfl (fun v A' hR=>?_)
 obtain ⟨rfl,rfl⟩:=hR
 refine Ops.call (rgt_spec _ _ _) rfl (noPd rfl) rfl rfl rfl (fun v A' hR=>?_)
 obtain ⟨rfl,rfl⟩:=hR
 rw [show rgt (hasC (hasS c.kind) 110) (decide (c.n = 0)) (decide (1 ≤ c.n ∧ c.n ≤ 1099511627776)) = rg1 c from rfl]
 cases hr1:rg1 c with
 | false =>
  simp only [hr1,Bool.true_and,Bool.false_and,Bool.and_false,Bool.and_true,Bool.false_eq_true,if_false,if_true]
  refine zk ?_
  exact ze9
 | true =>
  refine zg3 ?_
  refine Ops.callV (fi:=[]) (ca:=[ptr cb]) (vs:=[_]) (check1_spec cb c a k _ 106 rfl) rfl zp2 rfl rfl rfl rfl (fun v A' hR=>?_)
  obtain ⟨rfl,rfl⟩:=hR
  refine Ops.call (rin_spec c.job 1 8) rfl zp2 rfl rfl rfl (fun v A' hR=>?_)
  obtain ⟨rfl,rfl⟩:=hR
  refine Ops.call (rgt_spec _ _ _) rfl (noPd rfl) rfl rfl rfl (fun v A' hR=>?_)
  obtain ⟨rfl,rfl⟩:=hR
  rw [show rgt (hasC (hasS c.kind) 106) (decide (c.job = 0)) (decide (1 ≤ c.job ∧ c.job ≤ 8)) = rg2 c from rfl]
  cases hr2:rg2 c with
  | false =>
   simp only [hr1,hr2,Bool.true_and,Bool.false_and,Bool.and_false,Bool.and_true,Bool.false_eq_true,if_false,if_true]
   refine zk ?_
   exact ze9
  | true =>
   refine zg3 ?_
   refine Ops.callV (fi:=[]) (ca:=[ptr cb]) (vs:=[_]) (check1_spec cb c a k _ 112 rfl) rfl zp2 rfl rfl rfl rfl (fun v A' hR=>?_)
   obtain ⟨rfl,rfl⟩:=hR
   refine Ops.call (rin_spec (c.prog.size:Nat) 1 1024) rfl zp2 rfl rfl rfl (fun v A' hR=>?_)
   obtain ⟨rfl,rfl⟩:=hR
   refine Ops.call (rgt_spec _ _ _) rfl (noPd rfl) rfl rfl rfl (fun v A' hR=>?_)
   obtain ⟨rfl,rfl⟩:=hR
   rw [show rgt (hasC (hasS c.kind) 112) (decide (c.prog = ⟨#[]⟩)) (decide ((1:Int) ≤ (c.prog.size:Nat) ∧ ((c.prog.size:Nat):Int) ≤ 1024)) = rg3 c from rfl]
   cases hr3:rg3 c with
   | false =>
    simp only [hr1,hr2,hr3,Bool.true_and,Bool.false_and,Bool.and_false,Bool.and_true,Bool.false_eq_true,if_false,if_true]
    refine zk ?_
    exact ze9
   | true =>
    refine zg3 ?_
    refine Ops.callV (fi:=[]) (ca:=[ptr cb]) (vs:=[_]) (check1_spec cb c a k _ 98 rfl) rfl zp2 rfl rfl rfl rfl (fun v A' hR=>?_)
    obtain ⟨rfl,rfl⟩:=hR
    refine Ops.call (rin_spec c.badge 1 1099511627776) rfl zp2 rfl rfl rfl (fun v A' hR=>?_)
    obtain ⟨rfl,rfl⟩:=hR
    refine Ops.call (rgt_spec _ _ _) rfl (noPd rfl) rfl rfl rfl (fun v A' hR=>?_)
    obtain ⟨rfl,rfl⟩:=hR
    rw [show rgt (hasC (hasS c.kind) 98) (decide (c.badge = 0)) (decide (1 ≤ c.badge ∧ c.badge ≤ 1099511627776)) = rg4 c from rfl]
    cases hr4:rg4 c with
    | false =>
     simp only [hr1,hr2,hr3,hr4,Bool.true_and,Bool.false_and,Bool.and_false,Bool.and_true,Bool.false_eq_true,if_false,if_true]
     refine zk ?_
     exact ze9
    | true =>
     refine zg3 ?_
     refine Ops.callV (fi:=[]) (ca:=[ptr cb]) (vs:=[_]) (check1_spec cb c a k _ 115 rfl) rfl zp2 rfl rfl rfl rfl (fun v A' hR=>?_)
     obtain ⟨rfl,rfl⟩:=hR
     by_cases hs0:c.slot = 0
     ·skip
      refine zg7 ?_
      refine Ops.call (rin_spec c.slot 0 7) rfl zp2 rfl rfl rfl (fun v A' hR=>?_)
      obtain ⟨rfl,rfl⟩:=hR
      by_cases hs7:0 ≤ c.slot ∧ c.slot ≤ 7
      ·skip
       rw [decide_eq_true hs7]
       refine zg5 ?_
       refine Ops.call (rin_spec c.life 1 1099511627776) rfl zp2 rfl rfl rfl (fun v A' hR=>?_)
       obtain ⟨rfl,rfl⟩:=hR
       refine zg6 ?_
       refine Ops.call (rgt_spec _ _ _) rfl (noPd rfl) rfl rfl rfl (fun v A' hR=>?_)
       obtain ⟨rfl,rfl⟩:=hR
       rw [show rgt (hasC (hasS c.kind) 115) (decide (c.life = 0)) (decide (1 ≤ c.life ∧ c.life ≤ 1099511627776)) = rg5 c from by simp [rg5,hs0,hs7]]
       cases hr5:rg5 c with
       | false =>
        simp only [hr1,hr2,hr3,hr4,hr5,Bool.true_and,Bool.false_and,Bool.and_false,Bool.and_true,Bool.false_eq_true,if_false,if_true]
        refine zk ?_
        exact ze9
       | true =>
        refine zg3 ?_
        refine Ops.callV (fi:=[]) (ca:=[ptr cb]) (vs:=[_]) (check1_spec cb c a k _ 116 rfl) rfl zp2 rfl rfl rfl rfl (fun v A' hR=>?_)
        obtain ⟨rfl,rfl⟩:=hR
        refine Ops.callB (texts_spec B0 a k c.txs hS hl) hx rfl zp2 rfl rfl rfl (fun v A' hR=>?_)
        obtain ⟨rfl,rfl⟩:=hR
        refine Ops.call (rgt_spec _ _ _) rfl (noPd rfl) rfl rfl rfl (fun v A' hR=>?_)
        obtain ⟨rfl,rfl⟩:=hR
        rw [show rgt (hasC (hasS c.kind) 116) (decide (((c.txs.length:Nat):Int) = 0)) (textsF c.txs) = rg6 c from rfl]
        cases hr6:rg6 c with
        | false =>
         simp only [hr1,hr2,hr3,hr4,hr5,hr6,Bool.true_and,Bool.false_and,Bool.and_false,Bool.and_true,Bool.false_eq_true,if_false,if_true]
         refine zk ?_
         exact ze9
        | true =>
         refine zg3 ?_
         refine Ops.callV (fi:=[]) (ca:=[ptr cb]) (vs:=[_]) (check1_spec cb c a k _ 114 rfl) rfl zp2 rfl rfl rfl rfl (fun v A' hR=>?_)
         obtain ⟨rfl,rfl⟩:=hR
         refine Ops.call (rin_spec c.rcode 0 7) rfl zp2 rfl rfl rfl (fun v A' hR=>?_)
         obtain ⟨rfl,rfl⟩:=hR
         by_cases h7:0 ≤ c.rcode ∧ c.rcode ≤ 7
         ·rw [decide_eq_true h7]
          by_cases h0:c.rcode = 0
          ·skip
           refine zg7 ?_
           refine Ops.call (rgt_spec _ _ _) rfl (noPd rfl) rfl rfl rfl (fun v A' hR=>?_)
           obtain ⟨rfl,rfl⟩:=hR
           rw [show rgt (hasC (hasS c.kind) 114) (decide (c.rcode = 0) && (decide (c.rbits = 0) && true)) (true) = rg7 c from by simp [rg7,h7,h0]]
           cases hr7:rg7 c with
           | false =>
            simp only [hr1,hr2,hr3,hr4,hr5,hr6,hr7,Bool.true_and,Bool.false_and,Bool.and_false,Bool.and_true,Bool.false_eq_true,if_false,if_true]
            refine zg6 ?_
            exact ze9
           | true =>
            simp only [hr1,hr2,hr3,hr4,hr5,hr6,hr7,Bool.true_and,Bool.false_and,Bool.and_false,Bool.and_true,Bool.false_eq_true,if_false,if_true]
            refine zg6 ?_
            exact ze9
          ·skip
           refine zg11 ?_
           refine Ops.call (rgt_spec _ _ _) rfl (noPd rfl) rfl rfl rfl (fun v A' hR=>?_)
           obtain ⟨rfl,rfl⟩:=hR
           rw [show rgt (hasC (hasS c.kind) 114) (decide (c.rcode = 0) && (decide (c.rbits = 0) && true)) (decide (c.rbits = 0)) = rg7 c from by simp [rg7,h7,h0]]
           cases hr7:rg7 c with
           | false =>
            simp only [hr1,hr2,hr3,hr4,hr5,hr6,hr7,Bool.true_and,Bool.false_and,Bool.and_false,Bool.and_true,Bool.false_eq_true,if_false,if_true]
            refine zg6 ?_
            exact ze9
           | true =>
            simp only [hr1,hr2,hr3,hr4,hr5,hr6,hr7,Bool.true_and,Bool.false_and,Bool.and_false,Bool.and_true,Bool.false_eq_true,if_false,if_true]
            refine zg6 ?_
            exact ze9
         ·rw [decide_eq_false h7]
          refine zg6 ?_
          refine Ops.call (rgt_spec _ _ _) rfl (noPd rfl) rfl rfl rfl (fun v A' hR=>?_)
          obtain ⟨rfl,rfl⟩:=hR
          rw [show rgt (hasC (hasS c.kind) 114) (decide (c.rcode = 0) && (decide (c.rbits = 0) && true)) (false) = rg7 c from by simp [rg7,h7]]
          cases hr7:rg7 c with
          | false =>
           simp only [hr1,hr2,hr3,hr4,hr5,hr6,hr7,Bool.true_and,Bool.false_and,Bool.and_false,Bool.and_true,Bool.false_eq_true,if_false,if_true]
           refine zg6 ?_
           exact ze9
          | true =>
           simp only [hr1,hr2,hr3,hr4,hr5,hr6,hr7,Bool.true_and,Bool.false_and,Bool.and_false,Bool.and_true,Bool.false_eq_true,if_false,if_true]
           refine zg6 ?_
           exact ze9
      ·exact absurd hs0 (by omega)
     ·skip
      refine zg11 ?_
      refine Ops.call (rin_spec c.slot 0 7) rfl zp2 rfl rfl rfl (fun v A' hR=>?_)
      obtain ⟨rfl,rfl⟩:=hR
      by_cases hs7:0 ≤ c.slot ∧ c.slot ≤ 7
      ·skip
       rw [decide_eq_true hs7]
       refine zg5 ?_
       refine Ops.call (rin_spec c.life 1 1099511627776) rfl zp2 rfl rfl rfl (fun v A' hR=>?_)
       obtain ⟨rfl,rfl⟩:=hR
       refine zg6 ?_
       refine Ops.call (rgt_spec _ _ _) rfl (noPd rfl) rfl rfl rfl (fun v A' hR=>?_)
       obtain ⟨rfl,rfl⟩:=hR
       rw [show rgt (hasC (hasS c.kind) 115) (false) (decide (1 ≤ c.life ∧ c.life ≤ 1099511627776)) = rg5 c from by simp [rg5,hs0,hs7]]
       cases hr5:rg5 c with
       | false =>
        simp only [hr1,hr2,hr3,hr4,hr5,Bool.true_and,Bool.false_and,Bool.and_false,Bool.and_true,Bool.false_eq_true,if_false,if_true]
        refine zk ?_
        exact ze9
       | true =>
        refine zg3 ?_
        refine Ops.callV (fi:=[]) (ca:=[ptr cb]) (vs:=[_]) (check1_spec cb c a k _ 116 rfl) rfl zp2 rfl rfl rfl rfl (fun v A' hR=>?_)
        obtain ⟨rfl,rfl⟩:=hR
        refine Ops.callB (texts_spec B0 a k c.txs hS hl) hx rfl zp2 rfl rfl rfl (fun v A' hR=>?_)
        obtain ⟨rfl,rfl⟩:=hR
        refine Ops.call (rgt_spec _ _ _) rfl (noPd rfl) rfl rfl rfl (fun v A' hR=>?_)
        obtain ⟨rfl,rfl⟩:=hR
        rw [show rgt (hasC (hasS c.kind) 116) (decide (((c.txs.length:Nat):Int) = 0)) (textsF c.txs) = rg6 c from rfl]
        cases hr6:rg6 c with
        | false =>
         simp only [hr1,hr2,hr3,hr4,hr5,hr6,Bool.true_and,Bool.false_and,Bool.and_false,Bool.and_true,Bool.false_eq_true,if_false,if_true]
         refine zk ?_
         exact ze9
        | true =>
         refine zg3 ?_
         refine Ops.callV (fi:=[]) (ca:=[ptr cb]) (vs:=[_]) (check1_spec cb c a k _ 114 rfl) rfl zp2 rfl rfl rfl rfl (fun v A' hR=>?_)
         obtain ⟨rfl,rfl⟩:=hR
         refine Ops.call (rin_spec c.rcode 0 7) rfl zp2 rfl rfl rfl (fun v A' hR=>?_)
         obtain ⟨rfl,rfl⟩:=hR
         by_cases h7:0 ≤ c.rcode ∧ c.rcode ≤ 7
         ·rw [decide_eq_true h7]
          by_cases h0:c.rcode = 0
          ·skip
           refine zg7 ?_
           refine Ops.call (rgt_spec _ _ _) rfl (noPd rfl) rfl rfl rfl (fun v A' hR=>?_)
           obtain ⟨rfl,rfl⟩:=hR
           rw [show rgt (hasC (hasS c.kind) 114) (decide (c.rcode = 0) && (decide (c.rbits = 0) && true)) (true) = rg7 c from by simp [rg7,h7,h0]]
           cases hr7:rg7 c with
           | false =>
            simp only [hr1,hr2,hr3,hr4,hr5,hr6,hr7,Bool.true_and,Bool.false_and,Bool.and_false,Bool.and_true,Bool.false_eq_true,if_false,if_true]
            refine zg6 ?_
            exact ze9
           | true =>
            simp only [hr1,hr2,hr3,hr4,hr5,hr6,hr7,Bool.true_and,Bool.false_and,Bool.and_false,Bool.and_true,Bool.false_eq_true,if_false,if_true]
            refine zg6 ?_
            exact ze9
          ·skip
           refine zg11 ?_
           refine Ops.call (rgt_spec _ _ _) rfl (noPd rfl) rfl rfl rfl (fun v A' hR=>?_)
           obtain ⟨rfl,rfl⟩:=hR
           rw [show rgt (hasC (hasS c.kind) 114) (decide (c.rcode = 0) && (decide (c.rbits = 0) && true)) (decide (c.rbits = 0)) = rg7 c from by simp [rg7,h7,h0]]
           cases hr7:rg7 c with
           | false =>
            simp only [hr1,hr2,hr3,hr4,hr5,hr6,hr7,Bool.true_and,Bool.false_and,Bool.and_false,Bool.and_true,Bool.false_eq_true,if_false,if_true]
            refine zg6 ?_
            exact ze9
           | true =>
            simp only [hr1,hr2,hr3,hr4,hr5,hr6,hr7,Bool.true_and,Bool.false_and,Bool.and_false,Bool.and_true,Bool.false_eq_true,if_false,if_true]
            refine zg6 ?_
            exact ze9
         ·rw [decide_eq_false h7]
          refine zg6 ?_
          refine Ops.call (rgt_spec _ _ _) rfl (noPd rfl) rfl rfl rfl (fun v A' hR=>?_)
          obtain ⟨rfl,rfl⟩:=hR
          rw [show rgt (hasC (hasS c.kind) 114) (decide (c.rcode = 0) && (decide (c.rbits = 0) && true)) (false) = rg7 c from by simp [rg7,h7]]
          cases hr7:rg7 c with
          | false =>
           simp only [hr1,hr2,hr3,hr4,hr5,hr6,hr7,Bool.true_and,Bool.false_and,Bool.and_false,Bool.and_true,Bool.false_eq_true,if_false,if_true]
           refine zg6 ?_
           exact ze9
          | true =>
           simp only [hr1,hr2,hr3,hr4,hr5,hr6,hr7,Bool.true_and,Bool.false_and,Bool.and_false,Bool.and_true,Bool.false_eq_true,if_false,if_true]
           refine zg6 ?_
           exact ze9
      ·have hr5:rg5 c = false:=by
        unfold rg5 rgt
        split
        ·rw [decide_eq_false hs7,Bool.false_and]
        ·rw [decide_eq_false (by omega:¬ c.slot = 0),Bool.false_and]
       rw [decide_eq_false hs7]
       refine zk ?_
       refine Ops.call (rgt_spec _ _ _) rfl (noPd rfl) rfl rfl rfl (fun v A' hR=>?_)
       obtain ⟨rfl,rfl⟩:=hR
       rw [show rgt (hasC (hasS c.kind) 115) (false) (false) = rg5 c from by simp [rg5,hs0,hs7],hr5]
       simp only [hr1,hr2,hr3,hr4,hr5,Bool.true_and,Bool.false_and,Bool.and_false,Bool.and_true,Bool.false_eq_true,if_false,if_true]
       refine zk ?_
       exact ze9
end Go.Proofs.YtkoelgkghijgiaaGreat
namespace Go.Sep
open Go
def RIn (sz:Nat) (B:Base) (a:Option Addr) (rows:List (List Value)):Prop :=
 ∀ (i:Nat) (r:List Value),rows[i]? = some r → ∃ b off,a = some ⟨b,off,none⟩ ∧ ∀ A j u,r[j]? = some u → Rd B A b (off + i * sz + j) u
theorem Holds.sub {B:Base} {G G':List Blk} (h:Holds B G) (hs:∀ p ∈ G',p ∈ G):Holds B G':=fun p hp=>h p (hs p hp)
theorem RIn.ext {sz:Nat} {B B2:Base} {a:Option Addr} {rows:List (List Value)} (e:Ext B B2) (h:RIn sz B a rows):RIn sz B2 a rows:=fun i r hr=>by
 obtain ⟨b,off,ha,h⟩:=h i r hr
 exact ⟨b,off,ha,fun A j u hu=>(h A j u hu).ext e⟩
theorem Own.rin {E sz n c:Nat} {a:Option Addr} {rows:List (List Value)} {G:List Blk} (h:Own E sz (.slice a n c) rows G) {B:Base} (hG:Holds B G):RIn sz B a rows:=fun i r hr=>by
 have hlt:=(List.getElem?_eq_some_iff.1 hr).1
 obtain ⟨g,c',spare,h1,h2,h3,h4⟩:=Own.some_ h (by omega)
 injection h1 with e1 e2 e3
 refine ⟨g,0,e1,fun A j u hu=>?_⟩
 have hj:j < sz:=by rw [← (h.1 r (List.mem_of_getElem? hr)).1];exact (List.getElem?_eq_some_iff.1 hu).1
 have h5:=h.1.at_ hr hj
 rw [Nat.zero_add]
 exact hG.cell (l:=rows.flatten ++ spare) (by rw [h2];exact List.mem_singleton.2 rfl) (by rw [List.getElem?_append_left (List.getElem?_eq_some_iff.1 (h5.trans hu)).1,h5,hu]) A
theorem RIn.reads {P:Program} {sz:Nat} {B:Base} {a:Option Addr} {rows:List (List Value)} (h:RIn sz B a rows) (hok:RowsOk sz rows) (hsz:0 < sz) (c:Nat) (A:List Blk):Reads P B A sz (.slice a rows.length c) rows:=by
 refine ⟨hok,⟨a,c,rfl⟩,fun w hS=>?_⟩
 cases rows with
 | nil=>exact (Reads.none (P:=P) (B:=B) (A:=A) (sz:=sz) (a:=a) (c:=c)).2.2 w hS
 | cons r0 rows =>
  obtain ⟨b,off,rfl,_⟩:=h 0 r0 rfl
  have hlen:=hok.len
  have hcell:∀ j u,(r0 :: rows).flatten[j]? = some u → w.cell? ⟨b,off + j,none⟩ = some u:=fun j u hu=>by
   have hj:j < (r0 :: rows).length * sz:=by rw [← hlen];exact (List.getElem?_eq_some_iff.1 hu).1
   have hi:j / sz < (r0 :: rows).length:=by rw [Nat.div_lt_iff_lt_mul hsz];exact hj
   obtain ⟨r,hr⟩:∃ r,(r0 :: rows)[j / sz]? = some r:=⟨_,List.getElem?_eq_getElem hi⟩
   have h5:=hok.at_ hr (Nat.mod_lt j hsz)
   have e1:j / sz * sz + j % sz = j:=by rw [Nat.mul_comm];exact Nat.div_add_mod j sz
   rw [e1,hu] at h5
   obtain ⟨b',off',e2,hrd⟩:=h _ r hr
   injection e2 with e2
   injection e2 with e2 e3
   subst e2;subst e3
   have:=hrd A _ u h5.symm w hS
   rwa [Nat.add_assoc,e1] at this
  exact run_loadCells hlen hcell
end Go.Sep
namespace Go.Proofs.YtkoelgkghijgiaaGreat
open Go Go.Sep Go.Proofs Go.Proofs.Tryz
set_option maxRecDepth 10000
set_option maxHeartbeats 40000000
set_option synthInstance.maxSize 2000
theorem cloneT_spec (B0:Base) (a:Option Addr) (n c:Nat) (rows:List (List Value)) (hn:n = rows.length) (hok:RowsOk 1 rows) (hS:RIn 1 B0 a rows) (hl:rows.length ≤ 2000000) :
  ConB prog B0 77 #[.slice a n c] [] fun v A=>Own 9 1 v rows A:=by
 subst hn
 refine ConB.intro (vs:=[_]) func77 rfl ntmps77 rfl (fun B hx=>?_)
 have hS:=hS.ext hx
 generalize B.plain = B1 at hS ⊢
 clear hx
 cases a with
 | none =>
  obtain rfl:rows = []:=by
   cases rows with
   | nil=>rfl
   | cons x l=>obtain ⟨b,off,h,_⟩:=hS 0 x rfl;cases h
  refine zg6 ?_
  exact ze48
 | some ad =>
  repeat' (first|refine zs2 ?_|refine Ops.bs0 rfl rfl rfl (noPd rfl) (fun b=>?_))
  refine Ops.appS (rows:=[]) (news:=rows) Own.empty (hS.reads hok (by decide) c _) (by rw [List.length_nil];omega) (by rw [List.length_nil];omega) rfl rfl rfl rfl rfl (noPd rfl) rfl (fun v G' hG'=>?_)
  rw [List.nil_append] at hG'
  obtain ⟨a',c',rfl⟩:=hG'.form
  refine zg0 ?_
  exact ze49
theorem cloneL_spec (B0:Base) (a:Option Addr) (n c:Nat) (rows:List (List Value)) (hn:n = rows.length) (hok:RowsOk 1 rows) (hS:RIn 1 B0 a rows) (hl:rows.length ≤ 2000000) :
  ConB prog B0 237 #[.slice a n c] [] fun v A=>Own 60 1 v rows A:=by
 subst hn
 refine ConB.intro (vs:=[_]) func237 rfl ntmps237 rfl (fun B hx=>?_)
 have hS:=hS.ext hx
 generalize B.plain = B1 at hS ⊢
 clear hx
 cases a with
 | none =>
  obtain rfl:rows = []:=by
   cases rows with
   | nil=>rfl
   | cons x l=>obtain ⟨b,off,h,_⟩:=hS 0 x rfl;cases h
  refine zg6 ?_
  exact ze48
 | some ad =>
  repeat' (first|refine zs2 ?_|refine Ops.bs0 rfl rfl rfl (noPd rfl) (fun b=>?_))
  refine Ops.appS (rows:=[]) (news:=rows) Own.empty (hS.reads hok (by decide) c _) (by rw [List.length_nil];omega) (by rw [List.length_nil];omega) rfl rfl rfl rfl rfl (noPd rfl) rfl (fun v G' hG'=>?_)
  rw [List.nil_append] at hG'
  obtain ⟨a',c',rfl⟩:=hG'.form
  refine zg0 ?_
  exact ze49
theorem cloneR_spec (B0:Base) (a:Option Addr) (n c:Nat) (rows:List (List Value)) (hn:n = rows.length) (hok:RowsOk 8 rows) (hS:RIn 8 B0 a rows) (hl:rows.length ≤ 2000000) :
  ConB prog B0 156 #[.slice a n c] [] fun v A=>Own 62 8 v rows A:=by
 subst hn
 refine ConB.intro (vs:=[_]) func156 rfl ntmps156 rfl (fun B hx=>?_)
 have hS:=hS.ext hx
 generalize B.plain = B1 at hS ⊢
 clear hx
 cases a with
 | none =>
  obtain rfl:rows = []:=by
   cases rows with
   | nil=>rfl
   | cons x l=>obtain ⟨b,off,h,_⟩:=hS 0 x rfl;cases h
  refine zg6 ?_
  exact ze48
 | some ad =>
  repeat' (first|refine zs2 ?_|refine Ops.bs0 rfl rfl rfl (noPd rfl) (fun b=>?_))
  refine Ops.appS (rows:=[]) (news:=rows) Own.empty (hS.reads hok (by decide) c _) (by rw [List.length_nil];omega) (by rw [List.length_nil];omega) rfl rfl rfl rfl rfl (noPd rfl) rfl (fun v G' hG'=>?_)
  rw [List.nil_append] at hG'
  obtain ⟨a',c',rfl⟩:=hG'.form
  refine zg0 ?_
  exact ze49
structure Rw where
 job:Int
 status:Int
 att:Int
 badge:Int
 node:Int
 life:Int
 rcode:Int
 rbits:Int
@[reducible] def Rw.row (r:Rw):List Value:=[.int .i64 r.job,.int .i64 r.status,.int .i64 r.att,.int .i64 r.badge,.int .i64 r.node,.int .i64 r.life,.int .i64 r.rcode,.int .u64 r.rbits]
theorem rws_ok (l:List Rw):RowsOk 8 (l.map Rw.row):=rows_map (f:=Rw.row) (fun _=>⟨rfl,rfl⟩) l
def OwnQ (sv:Value) (l:List Rw) (G:List Blk):Prop:=Own 62 8 sv (l.map Rw.row) G
theorem OwnQ.form {sv:Value} {l:List Rw} {G:List Blk} (h:OwnQ sv l G):∃ a c,sv = .slice a l.length c:=by
 obtain ⟨a,c,h⟩:=Own.form h
 exact ⟨a,c,by rw [h,List.length_map]⟩
@[reducible] def QuB (qb:Nat) (att:Int) (rv:Value):Blk:=(qb,cl [.int .i64 att,rv] 250)
@[reducible] def StB (sb qb:Nat) (res:Int) (pv lv:Value):Blk:=(sb,cl [ptr qb,.int .i64 res,pv,lv] 176)
theorem qnew_yes (n:Int) (h1:1 ≤ n) (h2:n ≤ 8):Con prog 248 #[.int .i64 n] [] fun v A=>∃ qb,v = .tuple #[ptr qb,.int .i64 0] ∧ A = [QuB qb n (.slice none 0 0)]:=by
 refine zqI (vs:=[_]) func248 ntmps248 fun B=>?_
 have g1:¬ n < 1:=by omega
 have g2:¬ 8 < n:=by omega
 repeat' (first|refine Cd.seq ?_|refine Cd.reg ?_|refine Ops.nil ?_|refine Ops.mv rfl rfl rfl rfl ?_|refine Ops.asg rfl rfl rfl rfl ?_|refine Ops.bin rfl rfl rfl rfl rfl ?_|refine Ops.pickF rfl rfl rfl rfl rfl ?_|refine Ops.bld rfl rfl rfl rfl ?_|refine Ops.box rfl rfl rfl rfl (noPd rfl) (fun b=>?_)|refine Cd.skip (Cd.next ?_)|refine Cd.condF rfl zp0 ?_|((fail_if_success refine Ops.probe rfl ?_);refine Ops.gF rfl rfl zp0 ?_))
 rename Nat=>qb
 exact Cd.ret (ret2 (A':=[QuB qb n (.slice none 0 0)]) rfl (Res.tmp rfl) (Res.tmp rfl) (fun _ h=>h.split) ⟨qb,rfl,rfl⟩)
theorem snew_yes (n:Int) (h1:1 ≤ n) (h2:n ≤ 8):Con prog 186 #[.int .i64 n] [] fun v A=>∃ sb qb,v = .tuple #[ptr sb,.int .i64 0] ∧ A = [StB sb qb 0 (.slice none 0 0) (.slice none 0 0),QuB qb n (.slice none 0 0)]:=by
 refine zqI (vs:=[_]) func186 ntmps186 fun B=>?_
 refine zg0 ?_
 refine zqA (qnew_yes n h1 h2) fun v A' hR=>?_
 obtain ⟨qb,rfl,rfl⟩:=hR
 repeat' (first|refine zs2 ?_|refine Ops.box rfl rfl rfl rfl (noPd rfl) (fun b=>?_))
 rename Nat=>sb
 exact Cd.ret (ret2 (A':=[StB sb qb 0 (.slice none 0 0) (.slice none 0 0),QuB qb n (.slice none 0 0)]) rfl (Res.tmp rfl) (Res.tmp rfl) (fun _ h=>h.split) ⟨sb,qb,rfl,rfl⟩)
theorem reserved_spec (sb qb:Nat) (res:Int) (pv lv:Value):Con prog 122 #[ptr sb] [StB sb qb res pv lv] fun v A=>v = .int .i64 res ∧ A = [StB sb qb res pv lv]:=by
 refine zqI (vs:=[_]) func122 ntmps122 fun B=>?_
 refine zg1 ?_
 exact ze50
theorem qclone_spec (B0:Base) (qb:Nat) (att:Int) (a:Option Addr) (c:Nat) (l:List Rw) (hQ:Holds B0 [QuB qb att (.slice a l.length c)]) (hR:RIn 8 B0 a (l.map Rw.row)) (hl:l.length ≤ 2000000) :
  ConB prog B0 236 #[ptr qb] [] fun v A=>∃ q2 rv G,v = ptr q2 ∧ A = QuB q2 att rv :: G ∧ OwnQ rv l G:=by
 refine zqJ (vs:=[_]) func236 ntmps236 fun B hB=>?_
 have hQ:=hB.holds hQ
 have hc0:∀ A,Rd B.plain A qb 0 (.int .i64 att):=hQ.cell (List.mem_singleton.2 rfl) rfl
 have hc1:∀ A,Rd B.plain A qb 1 (.slice a l.length c):=hQ.cell (List.mem_singleton.2 rfl) rfl
 refine zg0 ?_
 refine zdr [qz 0,qz 1,qz 2,qy 3,qz 4,qz 5,qz 6,qy 7,(8,2,[3]),qz 9,(10,2,[]),qz 11] ?_
 refine zg5 ?_
 refine Ops.ldR rfl rfl rfl (hc0 _) rfl ?_
 refine zg5 ?_
 refine Ops.ldR rfl rfl rfl (hc1 _) rfl ?_
 refine Ops.callB (cloneR_spec B0 a l.length c (l.map Rw.row) (by simp) (rws_ok l) hR (by simpa using hl)) hB rfl zp7 rfl rfl rfl (fun v A' hR=>?_)
 obtain ⟨a2,c2,rfl⟩:=Own.form hR
 repeat' (first|refine zs0 ?_|refine Ops.box rfl rfl rfl rfl (noPd rfl) (fun b=>?_))
 rename Nat=>q2
 exact Cd.ret (ret1 (A':=QuB q2 att _ :: A') rfl (Res.tmp rfl) (fun _ h=>h.split) ⟨q2,_,A',rfl,rfl,hR⟩)
structure Lg where
 a:Option Addr
 c:Nat
 txs:List ByteArray
 G:List Blk
@[reducible] def Lg.row (x:Lg):List Value:=[.slice x.a x.txs.length x.c]
theorem lgs_ok (l:List Lg):RowsOk 1 (l.map Lg.row):=rows_map (f:=Lg.row) (fun _=>⟨rfl,rfl⟩) l
structure StP where
 att:Int
 rows:List Rw
 res:Int
 progs:List ByteArray
 logs:List (List ByteArray)
def StA (sb:Nat) (s:StP) (D:List Blk):Prop :=
 ∃ qb rv RG pv PG lv LG,∃ ls:List Lg,D = StB sb qb s.res pv lv :: QuB qb s.att rv :: (RG ++ (PG ++ (LG ++ ls.flatMap Lg.G))) ∧ OwnQ rv s.rows RG ∧ OwnT pv s.progs PG ∧ Own 60 1 lv (ls.map Lg.row) LG ∧ (∀ x ∈ ls,OwnT (.slice x.a x.txs.length x.c) x.txs x.G) ∧ ls.map Lg.txs = s.logs
def StIn (B:Base) (sb:Nat) (s:StP):Prop :=
 ∃ qb ra rc pa pc la lc,∃ ls:List Lg,Holds B [StB sb qb s.res (.slice pa s.progs.length pc) (.slice la s.logs.length lc),QuB qb s.att (.slice ra s.rows.length rc)] ∧ RIn 8 B ra (s.rows.map Rw.row) ∧ RIn 1 B pa (s.progs.map trow) ∧ RIn 1 B la (ls.map Lg.row) ∧ (∀ x ∈ ls,RIn 1 B x.a (x.txs.map trow)) ∧ ls.map Lg.txs = s.logs
theorem StA.in_ {sb:Nat} {s:StP} {D:List Blk} (h:StA sb s D) {B:Base} (hB:Holds B D):StIn B sb s:=by
 obtain ⟨qb,rv,RG,pv,PG,lv,LG,ls,rfl,hR,hP,hL,hT,hl⟩:=h
 obtain ⟨ra,rc,rfl⟩:=hR.form
 obtain ⟨pa,pc,rfl⟩:=hP.form
 obtain ⟨la,lc,rfl⟩:=Own.form hL
 have hlen:(ls.map Lg.row).length = s.logs.length:=by rw [← hl,List.length_map,List.length_map]
 rw [hlen] at hB hL
 refine ⟨qb,ra,rc,pa,pc,la,lc,ls,hB.sub (fun p hp=>?_),Own.rin hR (hB.sub fun p hp=>?_),Own.rin hP (hB.sub fun p hp=>?_),Own.rin hL (hB.sub fun p hp=>?_),fun x hx=>Own.rin (hT x hx) (hB.sub fun p hp=>?_),hl⟩
 ·rcases List.mem_cons.1 hp with rfl|hp
  ·exact List.mem_cons_self ..
  ·rw [List.mem_singleton] at hp
   subst hp
   exact List.mem_cons_of_mem _ (List.mem_cons_self ..)
 ·simp [hp]
 ·simp [hp]
 ·simp [hp]
 ·have:p ∈ ls.flatMap Lg.G:=List.mem_flatMap.2 ⟨x,hx,hp⟩
  simp only [List.mem_cons,List.mem_append]
  exact .inr (.inr (.inr (.inr (.inr this))))
structure StOk (s:StP):Prop where
 a1:1 ≤ s.att
 a8:s.att ≤ 8
 nr:s.rows.length ≤ 8
 np:s.progs.length = s.rows.length
 nl:s.logs.length = s.rows.length
 lg:∀ l ∈ s.logs,l.length ≤ 32
 jb:∀ (i:Nat) (r:Rw),s.rows[i]? = some r → r.job = (i:Int) + 1
 am:∀ r ∈ s.rows,0 ≤ r.att ∧ r.att ≤ s.att ∧ (r.status = 1 → r.att < s.att)
structure ScS where
 cs:List Lg
 LG:List Blk
theorem sclone_state (B0:Base) (sb:Nat) (s:StP) (hS:StIn B0 sb s) (ok:StOk s):ConB prog B0 179 #[ptr sb] [] fun v A=>∃ s2,v = ptr s2 ∧ StA s2 s A:=by
 obtain ⟨qb,ra,rc,pa,pc,la,lc,ls,h1,h2,h3,h4,h5,h6⟩:=hS
 obtain ⟨o1,o2,o3,o4,o5,o6,_⟩:=ok
 have hlen:ls.length = s.logs.length:=by rw [← h6,List.length_map]
 have hlenr:(ls.map Lg.row).length = s.logs.length:=by rw [List.length_map,hlen]
 refine zqJ (vs:=[_]) func179 ntmps179 fun B hB=>?_
 have hQ:=hB.holds h1
 have hc0:∀ A,Rd B.plain A sb 0 (ptr qb):=hQ.cell (List.mem_cons_self ..) rfl
 have hc1:∀ A,Rd B.plain A sb 1 (.int .i64 s.res):=hQ.cell (List.mem_cons_self ..) rfl
 have hc2:∀ A,Rd B.plain A sb 2 (.slice pa s.progs.length pc):=hQ.cell (List.mem_cons_self ..) rfl
 have hc3:∀ A,Rd B.plain A sb 3 (.slice la s.logs.length lc):=hQ.cell (List.mem_cons_self ..) rfl
 have hq2:Holds B0 [QuB qb s.att (.slice ra s.rows.length rc)]:=h1.sub fun p hp=>List.mem_cons_of_mem _ hp
 refine zg0 ?_
 refine zdr [qz 0,qz 1,qz 2,qz 3,qy 4,qz 7,qz 8,qz 9,qy 10,qz 11,qz 12,qz 13,qy 14,qz 16,qz 17,qz 18,qy 19,(5,2,[10,14,19]),qz 6,(15,2,[10,19]),(20,2,[10]),qz 21,(22,2,[]),qz 23] ?_
 refine zg5 ?_
 refine Ops.ldR rfl rfl rfl (hc0 _) rfl ?_
 refine zg5 ?_
 refine Ops.ldR rfl rfl rfl (hc1 _) rfl ?_
 refine zg5 ?_
 refine Ops.ldR rfl rfl rfl (hc2 _) rfl ?_
 refine zg5 ?_
 refine Ops.ldR rfl rfl rfl (hc3 _) rfl ?_
 refine Ops.callB (qclone_spec B0 qb s.att ra rc s.rows hq2 h2 (by omega)) hB rfl (by intro v A' hR i hi;obtain ⟨A2,hR,rfl⟩:=hR;obtain ⟨q2,rv,G,rfl,rfl,_⟩:=hR;(repeat (rcases List.mem_cons.1 hi with rfl|hi;· (first|exact Still.ld1 rfl rfl rfl rfl rfl|exact Still.ldN rfl rfl rfl rfl|exact Still.len rfl rfl rfl rfl rfl|exact Still.skip rfl rfl rfl|exact Still.ldRow1 rfl rfl rfl (by assumption) (by assumption) rfl rfl|exact Still.ldR rfl rfl rfl (by apply_assumption) rfl)));cases hi) rfl rfl rfl (fun v A' hR=>?_)
 obtain ⟨q2,rv,RG,rfl,rfl,hRG⟩:=hR
 refine zg3 ?_
 refine Ops.callB (cloneT_spec B0 pa s.progs.length pc (s.progs.map trow) (by simp) (trows_ok _) h3 (by simp;omega)) hB rfl zp7 rfl rfl rfl (fun v A' hR=>?_)
 have hPG:OwnT v s.progs A':=hR
 clear hR
 rename List Blk=>PG
 obtain ⟨p2,pc2,rfl⟩:=hPG.form
 refine Ops.callB (cloneL_spec B0 la s.logs.length lc (ls.map Lg.row) hlenr.symm (lgs_ok _) h4 (by rw [hlenr];omega)) hB rfl zp7 rfl rfl rfl (fun v A' hR=>?_)
 rename List Blk=>LG
 obtain ⟨l2,lc2,rfl⟩:=Own.form hR
 rw [hlenr] at hR ⊢
 repeat' (first|refine zs3 ?_|refine Ops.box rfl rfl rfl rfl (noPd rfl) (fun b=>?_))
 rename Nat=>s2
 refine Cd.loopK (σ:=ScS) (fun t=>t.cs.length ≤ s.logs.length ∧ Own 60 1 (.slice l2 s.logs.length lc2) (t.cs.map Lg.row ++ (ls.drop t.cs.length).map Lg.row) t.LG ∧ (∀ x ∈ t.cs,OwnT (.slice x.a x.txs.length x.c) x.txs x.G) ∧ t.cs.map Lg.txs = s.logs.take t.cs.length) (fun t=>[(3,ptr s2),(32,.int .i64 s.logs.length),(33,.int .i64 t.cs.length)])
  (fun t=>StB s2 q2 s.res (.slice p2 s.progs.length pc2) (.slice l2 s.logs.length lc2) :: QuB q2 s.att rv :: (RG ++ (PG ++ (t.LG ++ t.cs.flatMap Lg.G)))) (fun t=>s.logs.length - t.cs.length) ⟨[],LG⟩ ⟨Nat.zero_le _,by simpa using hR,fun x hx=>(by cases hx),rfl⟩ ⟨rfl,rfl,rfl,trivial⟩ (fun w h=>by have h2:Sat _ (StB s2 q2 s.res (.slice p2 s.progs.length pc2) (.slice l2 s.logs.length lc2) :: QuB q2 s.att rv :: (RG ++ (PG ++ LG))) w:=h.split;simpa using h2) (fun t ht=>?_)
 obtain ⟨cs,LG2⟩:=t
 obtain ⟨hi,hO,hT,hl⟩:=ht
 dsimp only at hi hO hT hl ⊢
 by_cases hlt:cs.length < s.logs.length
 ·have hlt':(cs.length:Int) < s.logs.length:=by omega
  obtain ⟨x,hx⟩:∃ x,ls[cs.length]? = some x:=⟨_,List.getElem?_eq_getElem (by omega)⟩
  have hdr:ls.drop cs.length = x :: ls.drop (cs.length + 1):=by
   obtain ⟨h1,rfl⟩:=List.getElem?_eq_some_iff.1 hx
   exact List.drop_eq_getElem_cons h1
  rw [hdr,List.map_cons] at hO
  have hrow:(cs.map Lg.row ++ (x.row :: (ls.drop (cs.length + 1)).map Lg.row))[cs.length]? = some x.row:=by simp
  have hxm:=h5 x (List.mem_of_getElem? hx)
  have hxs:s.logs[cs.length]? = some x.txs:=by rw [← h6,List.getElem?_map,hx];rfl
  have hxl:=o6 _ (List.mem_of_getElem? hxs)
  have hok:=hO.1
  obtain ⟨g,c',sp,hsv,rfl,hsp,hle⟩:=Own.some_ hO (by simp only [List.length_append,List.length_cons];omega)
  injection hsv with e1 e2 e3
  subst e1
  refine zg2 ?_
  refine zdr [qz 0,qz 1,qz 2,qy 3,qz 4,qz 5,qz 6,qz 7,qy 8,qz 9,qz 10,qy 11,(12,2,[3]),qz 13,(14,2,[])] ?_
  refine zg14 ?_
  refine Ops.callB (cloneT_spec B0 x.a x.txs.length x.c (x.txs.map trow) (by simp) (trows_ok _) hxm (by simp;omega)) hB rfl zp7 rfl rfl rfl (fun v A' hX=>?_)
  have hX:OwnT v x.txs A':=hX
  obtain ⟨xa,xc,rfl⟩:=hX.form
  have hset:(cs.map Lg.row ++ x.row :: (ls.drop (cs.length + 1)).map Lg.row).set cs.length (x.row.set 0 (.slice xa x.txs.length xc)) = (cs ++ [(⟨xa,xc,x.txs,A'⟩:Lg)]).map Lg.row ++ (ls.drop (cs.length + 1)).map Lg.row:=by
   rw [List.set_append_right _ _ (by simp),List.length_map,Nat.sub_self]
   simp
  have hok2:RowsOk 1 ((cs ++ [(⟨xa,xc,x.txs,A'⟩:Lg)]).map Lg.row ++ (ls.drop (cs.length + 1)).map Lg.row):=(lgs_ok _).app (lgs_ok _)
  refine zg14 ?_
  refine Ops.stRow1 (i:=cs.length) (o:=0) (r:=x.row) rfl rfl rfl rfl rfl hok hrow rfl (noPd rfl) ?_
  rw [hset]
  refine zg9 ?_
  rw [hok.len] at hsp
  simp only [List.length_append,List.length_cons,List.length_map,List.length_drop] at hsp hle e2
  rw [show (cs.length:Int) + 1 = (((cs ++ [(⟨xa,xc,x.txs,A'⟩:Lg)]).length:Nat):Int) from by simp]
  refine Ops.nilN (round_end (⟨cs ++ [(⟨xa,xc,x.txs,A'⟩:Lg)],[(g,cl (((cs ++ [(⟨xa,xc,x.txs,A'⟩:Lg)]).map Lg.row ++ (ls.drop (cs.length + 1)).map Lg.row).flatten ++ sp) 60)]⟩:ScS) ⟨by simp;omega,?_,?_,?_⟩ (by simp;omega) ⟨rfl,rfl,rfl,trivial⟩ (fun w h=>?_))
  ·show Own _ _ _ ((cs ++ [(⟨xa,xc,x.txs,A'⟩:Lg)]).map Lg.row ++ (ls.drop (cs ++ [(⟨xa,xc,x.txs,A'⟩:Lg)]).length).map Lg.row) _
   rw [show (cs ++ [(⟨xa,xc,x.txs,A'⟩:Lg)]).length = cs.length + 1 from by simp]
   refine ⟨hok2,.inr ⟨g,lc2,sp,?_,rfl,?_,?_⟩⟩
   ·congr 1
    simp only [List.length_append,List.length_cons,List.length_map,List.length_drop,List.length_nil]
    omega
   ·rw [hok2.len]
    simp only [List.length_append,List.length_cons,List.length_map,List.length_drop,List.length_nil]
    omega
   ·simp only [List.length_append,List.length_cons,List.length_map,List.length_drop,List.length_nil]
    omega
  ·intro y hy
   rcases List.mem_append.1 hy with hy|hy
   ·exact hT y hy
   ·rw [List.mem_singleton] at hy
    subst hy
    exact hX
  ·show (cs ++ [(⟨xa,xc,x.txs,A'⟩:Lg)]).map Lg.txs = s.logs.take (cs ++ [(⟨xa,xc,x.txs,A'⟩:Lg)]).length
   rw [show (cs ++ [(⟨xa,xc,x.txs,A'⟩:Lg)]).length = cs.length + 1 from by simp,List.map_append,hl,List.take_add_one,hxs]
   rfl
  ·have h2:Sat _ (StB s2 q2 s.res (.slice p2 s.progs.length pc2) (.slice (some ⟨g,0,none⟩) s.logs.length lc2) :: QuB q2 s.att rv :: (RG ++ (PG ++ ([(g,cl (((cs ++ [(⟨xa,xc,x.txs,A'⟩:Lg)]).map Lg.row ++ (ls.drop (cs.length + 1)).map Lg.row).flatten ++ sp) 60)] ++ (cs.flatMap Lg.G ++ A'))))) w:=h.split
   simpa using h2
 ·have hlt':¬ (cs.length:Int) < s.logs.length:=by omega
  refine zg2 ?_
  have he:cs.length = s.logs.length:=by omega
  have hO2:Own 60 1 (.slice l2 s.logs.length lc2) (cs.map Lg.row) LG2:=by
   rw [he,List.drop_of_length_le (by omega)] at hO
   simpa using hO
  exact Cd.ret (ret1 (A':=StB s2 q2 s.res (.slice p2 s.progs.length pc2) (.slice l2 s.logs.length lc2) :: QuB q2 s.att rv :: (RG ++ (PG ++ (LG2 ++ cs.flatMap Lg.G)))) rfl (Res.tmp rfl) (fun _ h=>h.split) ⟨s2,rfl,q2,rv,RG,_,PG,_,LG2,cs,rfl,hRG,hPG,hO2,hT,by rw [hl,he,List.take_length]⟩)
end Go.Proofs.YtkoelgkghijgiaaGreat
namespace Go.Sep
open Go
section
variable {P:Program} {N:Fi} {B:Base} {Q:Exit → Act → World → Prop} {T:Tm} {A:List Blk} {ops:Array Oper} {l:List Oper}
variable {d:Nat} {ty:TypeId} {pos:String} {af:Array Edge} {m:Md} {gd:Option (Nat × Bool)}
theorem Ops.bldA {t e n:TypeId} {ge:Bool} {parts:List (Nat × Operand)} {ps:List (Nat × Value)} {sz bs bs':Nat} {zc:List Value} {z:Value} (L:List Value) (hm:m.rd true = true) (hg:gst ops T gd = some true) (hp:evp T parts = some ps) [ht:Ty P t true sz bs zc] [hd':TyD P t (.array n e)] [he:Ty P e ge 1 bs' [z]]
  (hf:Instr.fill (fun i=>some (i * 1,1)) zc.toArray ps = some L.toArray) (hd:Nat.blt d N.n = true) (k:Ops P N B Q ops m.tl l ((d,.agg L.toArray) :: T) A) :
  Ops P N B Q ops m (⟨some d,.build t parts.toArray,ty,pos,af,gd⟩ :: l) T A :=
 Ops.pureV hm hg hd (fun a w hF=>by
  obtain ⟨z,hz,hzc⟩:=ht.run_zero (w:=w)
  have h4:(parts.toArray.map fun (i,x)=>(i,a.eval x)).toList = ps:=by simpa using hF.evalp hp
  simp only [execOp,Instr.build,Sem.run_bind,hz,Result.andThen_ok,hd'.run_und,he.run_size,h4,hzc,hf]
  simp) k
theorem Ops.ixV {t e n:TypeId} {x y:Operand} {bs:Nat} {z v:Value} {L:List Value} {k1:IntKind} {i:Int} (hm:m.rd true = true) (hg:gst ops T gd = some true) [hd':TyD P t (.array n e)] [he:Ty P e false 1 bs [z]] (hx:ev T x = some (.agg L.toArray)) (hy:ev T y = some (.int k1 i)) (h0:0 ≤ i) (h1:i < n) (hv:L[i.toNat]? = some v) (hd:Nat.blt d N.n = true)
  (k:Ops P N B Q ops m.tl l ((d,v) :: T) A):Ops P N B Q ops m (⟨some d,.index t x y,ty,pos,af,gd⟩ :: l) T A :=
 Ops.pureV hm hg hd (fun a w hF=>by
  simp [execOp,hF.eval hx,hF.eval hy,Instr.index,asIntOf,hd'.run_und,he.run_size,he.run_isAgg,part,h0,h1,hv]) k
end
end Go.Sep
namespace Go.Proofs.YtkoelgkghijgiaaGreat
open Go Go.Sep Go.Proofs Go.Proofs.Tryz
set_option maxRecDepth 10000
set_option maxHeartbeats 40000000
set_option synthInstance.maxSize 2000
def doesN (kind:Int):Nat:=if kind = 1 then 238 else if kind = 2 then 239 else if kind = 3 then 240 else if kind = 4 then 241 else if kind = 5 then 242 else 243
theorem kind6 {k:Int} (h:1 ≤ k ∧ k ≤ 6):k = 1 ∨ k = 2 ∨ k = 3 ∨ k = 4 ∨ k = 5 ∨ k = 6:=by omega
theorem sdoes_spec (kind:Int) (h:1 ≤ kind ∧ kind ≤ 6):Con prog 180 #[.int .i64 kind] [] fun v A=>v = .func (.func (doesN kind)) #[] #[] ∧ A = []:=by
 refine zqI (vs:=[_]) func180 ntmps180 fun B=>?_
 have h7:kind < 7:=by omega
 refine zg0 ?_
 refine Ops.bldA [.nilFunc,.func (.func 238) #[] #[],.func (.func 239) #[] #[],.func (.func 240) #[] #[],.func (.func 241) #[] #[],.func (.func 242) #[] #[],.func (.func 243) #[] #[]] rfl rfl rfl (by rfl) rfl ?_
 refine zg0 ?_
 refine Ops.ixV (v:=.func (.func (doesN kind)) #[] #[]) rfl rfl rfl rfl (by omega) (by show kind < ((7:Nat):Int);omega) (by rcases kind6 h with rfl|rfl|rfl|rfl|rfl|rfl <;> rfl) rfl ?_
 refine zg0 ?_
 exact ze9
theorem reserve_spec (sb qb:Nat) (res:Int) (pv lv:Value) (c:Ch) (a:Option Addr) (k:Nat):Con prog 238 #[ptr sb,.agg (c.row a k).toArray] [StB sb qb res pv lv] fun v A=>v = .bool (decide (res < c.n)) ∧ A = [StB sb qb (if res < c.n then c.n else res) pv lv]:=by
 refine zqI (vs:=[_,_]) func238 ntmps238 fun B=>?_
 by_cases h:res < c.n
 ·have h':¬ c.n ≤ res:=by omega
  rw [if_pos h,decide_eq_true h]
  repeat' (first|refine zs1 ?_|refine Ops.box rfl rfl rfl rfl (noPd rfl) (fun b=>?_))
  refine zdr [qz 0,qy 1,qz 2,qz 3,qz 4,qy 5,qz 6] ?_
  refine zg8 ?_
  exact Cd.ret (ret1 (A':=[StB sb qb c.n pv lv]) rfl (Res.tmp rfl) (fun _ h=>h.split) ⟨rfl,rfl⟩)
 ·have h':c.n ≤ res:=by omega
  rw [if_neg h,decide_eq_false h]
  repeat' (first|refine zs1 ?_|refine Ops.box rfl rfl rfl rfl (noPd rfl) (fun b=>?_))
  refine zdr [qz 0,qy 1,qz 2,qz 3,qz 4,qy 5,qz 6] ?_
  refine zg15 ?_
  exact ze50
theorem clipT_spec (a:Option Addr) (n c:Nat) (h:n ≤ c):Con prog 76 #[.slice a n c] [] fun v A=>v = .slice a n n ∧ A = []:=by
 refine zqI (vs:=[_]) func76 ntmps76 fun B=>?_
 refine zg1 ?_
 refine Ops.slHM rfl rfl rfl rfl rfl (by omega) (by omega) (by omega) rfl ?_
 rw [Int.toNat_natCast]
 refine zg0 ?_
 exact ze9
theorem clipR_spec (a:Option Addr) (n c:Nat) (h:n ≤ c):Con prog 155 #[.slice a n c] [] fun v A=>v = .slice a n n ∧ A = []:=by
 refine zqI (vs:=[_]) func155 ntmps155 fun B=>?_
 refine zg1 ?_
 refine Ops.slHM rfl rfl rfl rfl rfl (by omega) (by omega) (by omega) rfl ?_
 rw [Int.toNat_natCast]
 refine zg0 ?_
 exact ze9
theorem clipP_spec (a:Option Addr) (n c:Nat) (h:n ≤ c):Con prog 90 #[.slice a n c] [] fun v A=>v = .slice a n n ∧ A = []:=by
 refine zqI (vs:=[_]) func90 ntmps90 fun B=>?_
 refine zg1 ?_
 refine Ops.slHM rfl rfl rfl rfl rfl (by omega) (by omega) (by omega) rfl ?_
 rw [Int.toNat_natCast]
 refine zg0 ?_
 exact ze9
theorem own_cut {E sz n c:Nat} {a:Option Addr} {rows:List (List Value)} {G:List Blk} (h:Own E sz (.slice a n c) rows G):n ≤ c ∧ Rs E sz (.slice a n n) rows G:=by
 rcases h.2 with ⟨h1,h2,h3⟩|⟨g,c',sp,h1,h2,h3,h4⟩
 ·injection h1 with h1 h4 h5
  subst h1;subst h4;subst h5
  exact ⟨Nat.le_refl _,h.1,.inl ⟨rfl,h2,h3⟩⟩
 ·injection h1 with h1 h5 h6
  subst h1;subst h5;subst h6
  exact ⟨h4,h.1,.inr ⟨g,rows.length,sp,rfl,h2⟩⟩
structure Pl where
 r:Rw
 prog:ByteArray
 l:Lg
@[reducible] def Pl.row (p:Pl):List Value:=[.int .i64 p.r.job,.int .i64 p.r.status,.int .i64 p.r.att,.int .i64 p.r.badge,.int .i64 p.r.node,.int .i64 p.r.life,.int .i64 p.r.rcode,.int .u64 p.r.rbits,.string p.prog,.slice p.l.a p.l.txs.length p.l.c]
@[reducible] def Pl.pure (p:Pl):Rw × ByteArray × List ByteArray:=(p.r,p.prog,p.l.txs)
theorem pls_ok (l:List Pl):RowsOk 10 (l.map Pl.row):=rows_map (f:=Pl.row) (fun _=>⟨rfl,rfl⟩) l
theorem place_spec (B0:Base) (sb:Nat) (s:StP) (hS:StIn B0 sb s) (ok:StOk s) (i:Nat) (r:Rw) (p:ByteArray) (t:List ByteArray) (hr:s.rows[i]? = some r) (hp:s.progs[i]? = some p) (ht:s.logs[i]? = some t) :
  ConB prog B0 89 #[ptr sb,.agg r.row.toArray] [] fun v A=>∃ x:Lg,v = .agg (Pl.row ⟨r,p,x⟩).toArray ∧ A = x.G ∧ x.txs = t ∧ RsT (.slice x.a x.txs.length x.c) x.txs x.G:=by
 obtain ⟨qb,ra,rc,pa,pc,la,lc,ls,h1,h2,h3,h4,h5,h6⟩:=hS
 obtain ⟨o1,o2,o3,o4,o5,o6,o7⟩:=ok
 have hj:=o7 i r hr
 have hil:=(List.getElem?_eq_some_iff.1 hr).1
 refine zqJ (vs:=[_,_]) func89 ntmps89 fun B hB=>?_
 have hQ:=hB.holds h1
 have h3:=h3.ext hB
 have h4:=h4.ext hB
 have hc2:∀ A,Rd B.plain A sb 2 (.slice pa s.progs.length pc):=hQ.cell (List.mem_cons_self ..) rfl
 have hc3:∀ A,Rd B.plain A sb 3 (.slice la s.logs.length lc):=hQ.cell (List.mem_cons_self ..) rfl
 obtain ⟨pb,po,rfl,hpr⟩:=h3 i (trow p) (by rw [List.getElem?_map,hp];rfl)
 obtain ⟨x,hx,rfl⟩:∃ x,ls[i]? = some x ∧ x.txs = t:=by
  rw [← h6,List.getElem?_map] at ht
  cases hl:ls[i]? with
  | none=>rw [hl] at ht;cases ht
  | some x=>rw [hl] at ht;injection ht with ht;exact ⟨x,rfl,ht⟩
 obtain ⟨lb,lo,rfl,hlr⟩:=h4 i x.row (by rw [List.getElem?_map,hx];rfl)
 have hxm:=h5 x (List.mem_of_getElem? hx)
 have hxl:=o6 x.txs (by rw [← h6];exact List.mem_map_of_mem (List.mem_of_getElem? hx))
 have hcp:∀ A,Rd B.plain A pb (po + (r.job - 1).toNat * 1) (.string p):=fun A=>by rw [hj,show ((i:Int) + 1 - 1).toNat = i from by omega];exact hpr A 0 _ rfl
 have hcl:∀ A,Rd B.plain A lb (lo + (r.job - 1).toNat * 1) (.slice x.a x.txs.length x.c):=fun A=>by rw [hj,show ((i:Int) + 1 - 1).toNat = i from by omega];exact hlr A 0 _ rfl
 clear hpr hlr
 repeat' (first|refine zs1 ?_|refine Ops.box rfl rfl rfl rfl (noPd rfl) (fun b=>?_)|refine Ops.alloc rfl rfl rfl (noPd rfl) (fun b=>?_))
 refine zdr [qy 0,qz 1,qz 2,qz 3,qy 4,qz 5,qy 6,qz 7,qz 8,qy 9,qz 10,qz 11,qz 12,qy 13,qz 14,qy 15,qz 16,qz 17,qy 18,(19,2,[0,4,6,9]),(20,2,[0,4,6,9]),qz 21,(22,2,[])] ?_
 refine zg3 ?_
 rename_i bx
 rename Nat=>rz
 refine Ops.ldR rfl rfl rfl (hc2 _) rfl ?_
 refine zg16 ?_
 refine Ops.ldR rfl rfl rfl (hcp _) rfl ?_
 refine zg5 ?_
 refine Ops.ldR rfl rfl rfl (hc3 _) rfl ?_
 refine zg16 ?_
 refine Ops.ldR rfl rfl rfl (hcl _) rfl ?_
 refine Ops.callB (cloneT_spec B0 x.a x.txs.length x.c (x.txs.map trow) (by simp) (trows_ok _) hxm (by simp;omega)) hB rfl zp7 rfl rfl rfl (fun v A' hX=>?_)
 have hX:OwnT v x.txs A':=hX
 obtain ⟨xa,xc,rfl⟩:=hX.form
 obtain ⟨hcut,hrs⟩:=hX.cut rfl
 refine Ops.call (clipT_spec xa x.txs.length xc hcut) rfl zp1 rfl rfl rfl (fun v A2 hR=>?_)
 obtain ⟨rfl,rfl⟩:=hR
 refine zg19 ?_
 exact Cd.ret (ret1 (A':=A') rfl (Res.cellN rfl) (fun _ h=>h.split) ⟨⟨xa,x.txs.length,x.txs,A'⟩,rfl,rfl,rfl,hrs⟩)
theorem rows_spec (B0:Base) (qb:Nat) (att:Int) (a:Option Addr) (c:Nat) (l:List Rw) (hQ:Holds B0 [QuB qb att (.slice a l.length c)]) (hR:RIn 8 B0 a (l.map Rw.row)) (hl:l.length ≤ 2000000) :
  ConB prog B0 88 #[ptr qb] [] fun v A=>∃ a2,v = .slice a2 l.length l.length ∧ Rs 62 8 v (l.map Rw.row) A:=by
 refine zqJ (vs:=[_]) func88 ntmps88 fun B hB=>?_
 have hQ:=hB.holds hQ
 have hc1:∀ A,Rd B.plain A qb 1 (.slice a l.length c):=hQ.cell (List.mem_singleton.2 rfl) rfl
 refine zg1 ?_
 refine Ops.ldR rfl rfl rfl (hc1 _) rfl ?_
 refine zqB (cloneR_spec B0 a l.length c (l.map Rw.row) (by simp) (rws_ok l) hR (by simpa using hl)) hB fun v A' hR=>?_
 obtain ⟨a2,c2,rfl⟩:=Own.form hR
 rw [List.length_map] at hR ⊢
 obtain ⟨hcut,hrs⟩:=own_cut hR
 refine Ops.call (clipR_spec a2 l.length c2 hcut) rfl (noPd rfl) rfl rfl rfl (fun v A2 hR=>?_)
 obtain ⟨rfl,rfl⟩:=hR
 refine zg0 ?_
 exact Cd.ret (ret1 (A':=A') rfl (Res.tmp rfl) (fun _ h=>h.split) ⟨a2,rfl,hrs⟩)
def viewL (s:StP):List (Rw × ByteArray × List ByteArray):=s.rows.zip (s.progs.zip s.logs)
def ViewA (v:Value) (s:StP) (A:List Blk):Prop :=
 ∃ (a:Option Addr) (ps:List Pl) (JG:List Blk),v = .agg [.int .i64 s.res,.slice a s.rows.length s.rows.length].toArray ∧ A = JG ++ ps.flatMap (fun p:Pl=>p.l.G) ∧ Rs 64 10 (.slice a s.rows.length s.rows.length) (ps.map Pl.row) JG ∧ (∀ p ∈ ps,RsT (.slice p.l.a p.l.txs.length p.l.c) p.l.txs p.l.G) ∧ ps.map Pl.pure = viewL s
structure VwS where
 ps:List Pl
 jv:Value
 JG:List Blk
theorem view_spec (B0:Base) (sb:Nat) (s:StP) (hS:StIn B0 sb s) (ok:StOk s):ConB prog B0 49 #[ptr sb] [] fun v A=>ViewA v s A:=by
 have hS0:=hS
 obtain ⟨qb,ra,rc,pa,pc,la,lc,ls,h1,h2,h3,h4,h5,h6⟩:=hS
 have ok0:=ok
 obtain ⟨o1,o2,o3,o4,o5,o6,o7⟩:=ok
 have hq2:Holds B0 [QuB qb s.att (.slice ra s.rows.length rc)]:=h1.sub fun p hp=>List.mem_cons_of_mem _ hp
 have hvl:(viewL s).length = s.rows.length:=by simp [viewL];omega
 refine zqJ (vs:=[_]) func49 ntmps49 fun B hB=>?_
 have hQ:=hB.holds h1
 have hc0:∀ A,Rd B.plain A sb 0 (ptr qb):=hQ.cell (List.mem_cons_self ..) rfl
 have hc1:∀ A,Rd B.plain A sb 1 (.int .i64 s.res):=hQ.cell (List.mem_cons_self ..) rfl
 repeat' (first|refine zs0 ?_|refine Ops.alloc rfl rfl rfl (noPd rfl) (fun b=>?_))
 refine Ops.ldR rfl rfl rfl (hc1 _) rfl ?_
 repeat' (first|refine zs3 ?_|refine Ops.alloc rfl rfl rfl (noPd rfl) (fun b=>?_))
 rename_i v2
 rename Nat=>v3
 refine Ops.ldR rfl rfl rfl (hc0 _) rfl ?_
 refine zqB (rows_spec B0 qb s.att ra rc s.rows hq2 h2 (by omega)) hB fun v A' hR=>?_
 obtain ⟨r2,rfl,hrs⟩:=hR
 rename List Blk=>RG
 refine zg1 ?_
 refine Cd.loopK (σ:=VwS) (fun t=>t.ps.length ≤ s.rows.length ∧ Own 64 10 t.jv (t.ps.map Pl.row) t.JG ∧ (∀ p ∈ t.ps,RsT (.slice p.l.a p.l.txs.length p.l.c) p.l.txs p.l.G) ∧ t.ps.map Pl.pure = (viewL s).take t.ps.length) (fun t=>[(0,ptr sb),(2,ptr v2),(3,ptr v3),(16,.slice r2 s.rows.length s.rows.length),(17,.int .i64 s.rows.length),(18,.int .i64 t.ps.length)])
  (fun t=>(v2,cl [.int .i64 0,.slice none 0 0] 49) :: (v3,cl [.int .i64 s.res,t.jv] 49) :: (RG ++ (t.JG ++ t.ps.flatMap (fun p=>p.l.G)))) (fun t=>s.rows.length - t.ps.length) ⟨[],.slice none 0 0,[]⟩ ⟨Nat.zero_le _,Own.none,fun p hp=>(by cases hp),rfl⟩ ⟨rfl,rfl,rfl,rfl,rfl,rfl,trivial⟩ (fun w h=>by have h2:Sat _ ((v2,cl [.int .i64 0,.slice none 0 0] 49) :: (v3,cl [.int .i64 s.res,.slice none 0 0] 49) :: RG) w:=h.split;simpa using h2) (fun t ht=>?_)
 obtain ⟨ps,jv,JG⟩:=t
 obtain ⟨hi,hO,hT,hl⟩:=ht
 dsimp only at hi hO hT hl ⊢
 obtain ⟨ja,jc,rfl⟩:=Own.form hO
 rw [List.length_map] at hO ⊢
 by_cases hlt:ps.length < s.rows.length
 ·have hlt':(ps.length:Int) < s.rows.length:=by omega
  obtain ⟨r,hr⟩:∃ r,s.rows[ps.length]? = some r:=⟨_,List.getElem?_eq_getElem hlt⟩
  obtain ⟨p,hp⟩:∃ p,s.progs[ps.length]? = some p:=⟨_,List.getElem?_eq_getElem (by omega)⟩
  obtain ⟨t,ht⟩:∃ t,s.logs[ps.length]? = some t:=⟨_,List.getElem?_eq_getElem (by omega)⟩
  have hvx:(viewL s)[ps.length]? = some (r,p,t):=by simp [viewL,List.getElem?_zip_eq_some,hr,hp,ht]
  have hrow:(s.rows.map Rw.row)[ps.length]? = some r.row:=by rw [List.getElem?_map,hr];rfl
  have hrok:=rws_ok s.rows
  obtain ⟨g,c',sp,hsv,rfl⟩:=Rs.some_ hrs (by rw [List.length_map];omega)
  injection hsv with e1 e2 e3
  subst e1
  repeat' (first|refine zs8 ?_|refine Ops.alloc rfl rfl rfl (noPd rfl) (fun b=>?_))
  rename Nat=>b5
  refine zdr [qz 0,qy 1,qz 2,qy 3,(4,2,[1]),(5,2,[1]),(6,2,[]),qz 7,(8,2,[])] ?_
  refine zg3 ?_
  refine Ops.callB (place_spec B0 sb s hS0 ok0 ps.length r p t hr hp ht) hB rfl (by intro v A' hR i hi;obtain ⟨A2,hR,rfl⟩:=hR;obtain ⟨x,rfl,rfl,_,_⟩:=hR;(repeat (rcases List.mem_cons.1 hi with rfl|hi;· (first|exact Still.ld1 rfl rfl rfl rfl rfl|exact Still.ldN rfl rfl rfl rfl|exact Still.len rfl rfl rfl rfl rfl|exact Still.skip rfl rfl rfl|exact Still.ldRow1 rfl rfl rfl (by assumption) (by assumption) rfl rfl|exact Still.ldR rfl rfl rfl (by apply_assumption) rfl)));cases hi) rfl rfl rfl (fun v A' hX=>?_)
  obtain ⟨x,rfl,e,hxt,hxr⟩:=hX
  subst A'
  repeat' (first|refine Ops.bs1 rfl rfl rfl rfl rfl rfl rfl zp3 (fun b=>?_))
  have hll:(ps.map Pl.row).length = ps.length:=List.length_map _
  refine Ops.app1 (rows:=ps.map Pl.row) hO (by rw [hll];omega) (by rw [hll];omega) rfl rfl rfl rfl (by rfl) (by rfl) rfl (noPd rfl) rfl (fun v G' hG'=>?_)
  have hG2:Own 64 10 v ((ps ++ [(⟨r,p,x⟩:Pl)]).map Pl.row) G':=by rw [List.map_append];exact hG'
  clear hG'
  obtain ⟨ja2,jc2,rfl⟩:=Own.form hG2
  refine zg9 ?_
  have hpl:(ps ++ [(⟨r,p,x⟩:Pl)]).length = ps.length + 1:=by simp
  rw [show (ps.length:Int) + 1 = (((ps ++ [(⟨r,p,x⟩:Pl)]).length:Nat):Int) from by rw [hpl];push_cast;rfl]
  refine Ops.nilN (round_end (⟨ps ++ [(⟨r,p,x⟩:Pl)],_,G'⟩:VwS) ⟨by show (ps ++ [(⟨r,p,x⟩:Pl)]).length ≤ _;omega,hG2,?_,?_⟩ (by show s.rows.length - (ps ++ [(⟨r,p,x⟩:Pl)]).length < s.rows.length - ps.length;omega) ⟨rfl,rfl,rfl,rfl,rfl,rfl,trivial⟩ (fun w h=>?_))
  ·intro y hy
   rcases List.mem_append.1 hy with hy|hy
   ·exact hT y hy
   ·rw [List.mem_singleton] at hy
    subst hy
    exact hxr
  ·show (ps ++ [(⟨r,p,x⟩:Pl)]).map Pl.pure = (viewL s).take (ps ++ [(⟨r,p,x⟩:Pl)]).length
   rw [hpl,List.map_append,hl,List.take_add_one,hvx,← hxt]
   rfl
  ·have h2:Sat _ ((v2,cl [.int .i64 0,.slice none 0 0] 49) :: (v3,cl [.int .i64 s.res,.slice ja2 ((ps ++ [(⟨r,p,x⟩:Pl)]).map Pl.row).length jc2] 49) :: ([(g,cl ((s.rows.map Rw.row).flatten ++ sp) 62)] ++ (G' ++ (ps.flatMap (fun p=>p.l.G) ++ x.G)))) w:=h.split
   simpa using h2
 ·have hlt':¬ (ps.length:Int) < s.rows.length:=by omega
  have he:ps.length = s.rows.length:=by omega
  obtain ⟨hcut,hjs⟩:=own_cut hO
  refine zg13 ?_
  refine Ops.call (clipP_spec ja ps.length jc hcut) rfl (noPd rfl) rfl rfl rfl (fun v A2 hR=>?_)
  obtain ⟨rfl,rfl⟩:=hR
  refine zg4 ?_
  exact Cd.ret (ret1 (A':=JG ++ ps.flatMap (fun p:Pl=>p.l.G)) rfl (Res.cellN rfl) (fun _ h=>h.split) ⟨ja,ps,JG,by rw [he],rfl,by rw [← he];exact hjs,hT,by rw [hl,he,← hvl,List.take_length]⟩)
end Go.Proofs.YtkoelgkghijgiaaGreat
namespace Go.Sep
open Go
def sit (s:ByteArray) (pos:Nat):Obj:=.stringIter s pos
section
variable {P:Program} {N:Fi} {B:Base} {Q:Exit → Act → World → Prop} {T:Tm} {A:List Blk} {ops:Array Oper} {l:List Oper}
variable {d:Nat} {ty:TypeId} {pos:String} {af:Array Edge} {m:Md} {gd:Option (Nat × Bool)}
theorem Ops.rngS {t:TypeId} {x:Operand} {s:ByteArray} (hm:m.eff = true) (hg:gst ops T gd = some true) [ht:TyD P t .string] (hx:ev T x = some (.string s)) (hd:Nat.blt d N.n = true)
  (hp:Pd P N B ops m T (some d) (NewR (fun r=>.pointer (some ⟨r,0,none⟩)) (sit s 0) A)) (k:∀ r,Ops P N B Q ops m.tl l ((d,.pointer (some ⟨r,0,none⟩)) :: T) ((r,sit s 0) :: A)) :
  Ops P N B Q ops m (⟨some d,.range t x,ty,pos,af,gd⟩ :: l) T A :=
 Ops.new (v:=fun r=>.pointer (some ⟨r,0,none⟩)) hm hp hg hd (fun a w hF hS=>by
  simp [execOp,hF.eval hx,Instr.range,ht.run_und,sit]) k
theorem Ops.nxS {x:Operand} {r p:Nat} {s:ByteArray} (c wd:Nat) {A':List Blk} (hm:m.eff = true) (hg:gst ops T gd = some true) (hx:ev T x = some (.pointer (some ⟨r,0,none⟩))) [hr:Has A r (sit s p)] (hlt:p < s.size) (hdec:Utf8.decode s p = (c,wd)) [hu:Upd A r (sit s p) (sit s (p + wd)) A'] (hd:Nat.blt d N.n = true)
  (hp:Pd P N B ops m T (some d) (fun v X=>v = .tuple #[.bool true,.int .i64 p,.int .i32 c] ∧ X = A')) (k:Ops P N B Q ops m.tl l ((d,.tuple #[.bool true,.int .i64 p,.int .i32 c]) :: T) A') :
  Ops P N B Q ops m (⟨some d,.next x true,ty,pos,af,gd⟩ :: l) T A :=
 Ops.effV hm hp hg hd (fun a w hF hS=>by
  have h0:=hS.here _ hr.mem
  simp only [sit] at h0
  have hi:(getObj r).run P w = .ok (.stringIter s p) w:=by simp only [getObj,Sem.run,h0]
  have hset:(setObj r (.stringIter s (p + wd))).run P w = .ok () (w.putObj r (.stringIter s (p + wd))):=by simp [setObj,Sem.run,h0,World.putObj]
  obtain ⟨A1,A2,e1,rfl⟩:=hu.put
  have hn:(Instr.next (.pointer (some ⟨r,0,none⟩)) true ty).run P w = .ok (.tuple #[.bool true,.int .i64 p,.int .i32 c]) (w.putObj r (.stringIter s (p + wd))):=by
   simp [Instr.next,hi,hlt,hdec,hset,goInt]
  simp only [execOp,hF.eval hx,Sem.run_bind,hn,Result.andThen_ok,Sem.run_pure,effPost]
  refine ⟨_,⟨trivial,rfl⟩,?_⟩
  subst e1
  have hrlt:=lt_of_get h0
  refine hS.put rfl rfl rfl ?_ ?_
  ·simp [World.putObj,sit,hrlt]
  ·intro n hne
   simp [World.putObj,Array.getElem?_setIfInBounds_ne (Ne.symm hne)]) fun v X ⟨h1,h2⟩=>by rw [h1,h2];exact k
theorem Ops.nxE {x:Operand} {r p:Nat} {s:ByteArray} (hm:m.eff = true) (hg:gst ops T gd = some true) (hx:ev T x = some (.pointer (some ⟨r,0,none⟩))) [hr:Has A r (sit s p)] (hlt:¬ p < s.size) (hd:Nat.blt d N.n = true)
  (hp:Pd P N B ops m T (some d) (fun v X=>v = .tuple #[.bool false] ∧ X = A)) (k:Ops P N B Q ops m.tl l ((d,.tuple #[.bool false]) :: T) A) :
  Ops P N B Q ops m (⟨some d,.next x true,ty,pos,af,gd⟩ :: l) T A :=
 Ops.effV hm hp hg hd (fun a w hF hS=>by
  have h0:=hS.here _ hr.mem
  simp only [sit] at h0
  have hi:(getObj r).run P w = .ok (.stringIter s p) w:=by simp only [getObj,Sem.run,h0]
  have hn:(Instr.next (.pointer (some ⟨r,0,none⟩)) true ty).run P w = .ok (.tuple #[.bool false]) w:=by
   simp [Instr.next,hi,hlt]
  simp only [execOp,hF.eval hx,Sem.run_bind,hn,Result.andThen_ok,Sem.run_pure,effPost]
  exact ⟨_,⟨trivial,rfl⟩,hS⟩) fun v X ⟨h1,h2⟩=>by rw [h1,h2];exact k
end
end Go.Sep
