import Derived.Test.YtaecdnfkcebbeaaGreatA01
import Derived.Test.YtaecdnfkcebbeaaGreatA18
import Derived.Lib.Bytealg
import Derived.Test.YtaecdnfkcebbeaaGreatA16
import Derived.Test.YtaecdnfkcebbeaaGreatA11
set_option linter.unusedVariables false
set_option linter.unusedSimpArgs false
namespace Go.Proofs.YtaecdnfkcebbeaaGreat
open Go Go.Sep Go.Proofs
set_option maxRecDepth 10000
set_option maxHeartbeats 40000000
set_option synthInstance.maxSize 2000
structure WlOk (w:Wl) (len:Nat):Prop where
 n:w.h.number ≤ 1099511627776
 f:w.h.half ≤ 1
 fit:w.h.snap + w.h.log ≤ roomF len
 r0:0 ≤ w.recs
 r1:w.recs ≤ 4000000000000000000
theorem frameF_size (r:ByteArray) (h:r.size ≤ 1000000):(frameF r).size ≤ r.size + 10:=by
 have:=numB_size (n:=r.size) (by omega)
 rw [frameF,ByteArray.size_append];omega
def LogR (wb db:Nat) (r:(Wl × Dk) × Int) (k:Nat) (v:Value) (A:List Blk):Prop:=v = .int .i64 r.2 ∧ ∃ D,A = WlB wb db r.1.1 :: D ∧ DkA db r.1.2 k D
theorem append_spec (B0:Base) (wb db:Nat) (w:Wl) (x:Dk) (k:Nat) (D:List Blk) (hD:DkA db x k D) (r:ByteArray) (ok:WlOk w x.S.length) (hr:r.size ≤ 900000) (hk:k ≤ 800000000000) :
  ConB Tryz.prog B0 100 #[ptr wb,.string r] (WlB wb db w :: D) (LogR wb db (appendF w x r) (k + r.size + 20)):=by
 have hrl:=roomF_le x.S.length
 have hfz:=frameF_size r (by omega)
 have hadd:∀ a b:Nat,(a:Int) + (b:Int) = ((a + b:Nat):Int):=fun a b=>by push_cast;rfl
 have hD9:=hD.more (k':=k + r.size + 20) (by omega) (by omega)
 obtain ⟨⟨hn,half,snap,log⟩,recs,dead⟩:=w
 obtain ⟨o1,o2,o3,o4,o5⟩:=ok
 dsimp only at o1 o2 o3 o4 o5
 refine ConB.intro (vs:=[_,_]) Tryz.func100 rfl Tryz.ntmps100 rfl (fun B hB=>?_)
 dsimp only [WlB]
 have hap:appendF ⟨⟨hn,half,snap,log⟩,recs,dead⟩ x r = if (dead || x.de) then ((⟨⟨hn,half,snap,log⟩,recs,true⟩,x),2)
  else if r.size = 0 ∨ 2048 < r.size then ((⟨⟨hn,half,snap,log⟩,recs,dead⟩,x),92)
  else if roomF x.S.length < snap + log + (frameF r).size then ((⟨⟨hn,half,snap,log⟩,recs,dead⟩,x),93)
  else if 1099511627776 ≤ hn then ((⟨⟨hn,half,snap,log⟩,recs,dead⟩,x),(94:Int))
  else Wl.done ⟨⟨hn,half,snap,log⟩,recs,dead⟩ ⟨hn + 1,half,snap,log + (frameF r).size⟩ (recs + 1) (headF ⟨hn + 1,half,snap,log + (frameF r).size⟩ (pagesF half (snap + log) (frameF r) x)):=rfl
 refine zg0 ?_
 refine Cd.draw [(0,0,[]),(1,0,[]),(2,0,[]),(3,0,[]),(4,1,[]),(5,0,[]),(6,0,[]),(7,0,[]),(8,0,[]),(9,1,[]),(10,0,[]),(11,0,[])] (by kernel_rfl) (by kernel_rfl) (by simp only [picked,nth];exact rfl) ?_
 refine zg23 ?_
 rw [hadd]
 refine Ops.call (text_spec r (by omega)) rfl (noPd rfl) rfl rfl rfl (fun v A' hR=>?_)
 obtain ⟨rfl,rfl⟩:=hR
 rw [show numB r.size ++ r = frameF r from rfl]
 refine zg3 ?_
 refine Ops.call (gone_spec wb db ⟨⟨hn,half,snap,log⟩,recs,dead⟩ x k D hD) rfl (noPd rfl) rfl rfl rfl (fun v A' hR=>?_)
 obtain ⟨rfl,rfl⟩:=hR
 dsimp only [WlB]
 by_cases hg:(dead || x.de) = true
 ·rw [if_pos hg] at hap
  rw [hap,hg]
  refine zg15 ?_
  exact ze26
 have hg:(dead || x.de) = false:=by simpa using hg
 obtain ⟨rfl,hde⟩:dead = false ∧ x.de = false:=by simpa using hg
 rw [if_neg (by rw [hde];simp)] at hap
 rw [hde,show (false || false) = false from rfl]
 by_cases h1:r.size = 0
 ·have h1':(r.size:Int) = 0:=by omega
  rw [if_pos (.inl h1)] at hap
  rw [hap]
  refine zg20 ?_
  exact ze27
 have h1':¬ (r.size:Int) = 0:=by omega
 by_cases h2:2048 < r.size
 ·have h2':(2048:Int) < r.size:=by omega
  rw [if_pos (.inr h2)] at hap
  rw [hap]
  refine zg36 ?_
  exact ze27
 have h2':¬ (2048:Int) < r.size:=by omega
 rw [if_neg (by omega)] at hap
 by_cases h3:roomF x.S.length < snap + log + (frameF r).size
 ·have h3':((roomF x.S.length:Nat):Int) < ((snap + log:Nat):Int) + ((frameF r).size:Nat):=by omega
  rw [if_pos h3] at hap
  rw [hap]
  refine zg27 ?_
  refine Ops.call (room_spec db x k D hD) rfl (noPd rfl) rfl rfl rfl (fun v A' hR=>?_)
  obtain ⟨rfl,e⟩:=hR
  subst A'
  refine zg14 ?_
  exact ze27
 have h3':¬ ((roomF x.S.length:Nat):Int) < ((snap + log:Nat):Int) + ((frameF r).size:Nat):=by omega
 rw [if_neg h3] at hap
 refine zg27 ?_
 refine Ops.call (room_spec db x k D hD) rfl (noPd rfl) rfl rfl rfl (fun v A' hR=>?_)
 obtain ⟨rfl,e⟩:=hR
 subst A'
 by_cases h4:1099511627776 ≤ hn
 ·have h4':(1099511627776:Int) ≤ hn:=by omega
  rw [if_pos h4] at hap
  rw [hap]
  refine zg43 ?_
  exact ze27
 have h4':¬ (1099511627776:Int) ≤ hn:=by omega
 rw [if_neg h4] at hap
 rw [hap]
 have hl1:(hn:Int) + 1 = ((hn + 1:Nat):Int):=by push_cast;rfl
 repeat' (first|refine Cd.seq ?_|refine Cd.reg ?_|refine Ops.nil ?_|refine Ops.mv rfl rfl rfl rfl ?_|refine Ops.asg rfl rfl rfl rfl ?_|refine Ops.nilP rfl rfl rfl rfl ?_|refine Ops.fa0 rfl rfl rfl rfl ?_|refine Ops.fa rfl rfl rfl rfl ?_|refine Ops.ld1 rfl rfl rfl rfl rfl ?_|refine Ops.ldN rfl rfl rfl rfl ?_|refine Ops.lenStr rfl rfl rfl rfl ?_|refine Ops.addI rfl rfl rfl rfl (by omega) (by omega) rfl ?_|refine Ops.bin rfl rfl rfl rfl rfl ?_|refine Ops.alloc rfl rfl rfl (noPd rfl) (fun b=>?_)|refine Ops.st1 rfl rfl rfl rfl rfl (noPd rfl) ?_|refine Ops.stN rfl rfl rfl rfl rfl rfl (noPd rfl) ?_|refine Cd.skip (Cd.next (Q':=fun _ _ _=>True) ?_)|refine Cd.condF rfl zp0 ?_)
 rw [hadd,hl1]
 refine Ops.callB (write_spec B0 wb db ⟨⟨hn,half,snap,log⟩,recs,false⟩ x k D hD (snap + log) (frameF r) ⟨hn + 1,half,snap,log + (frameF r).size⟩ ⟨by show hn + 1 < _;omega,by show half < _;omega,by show snap < _;omega,by show log + (frameF r).size < _;omega⟩ o2 (by omega) (by omega) hk) hB rfl (noPd rfl) rfl rfl rfl (fun v A' hR=>?_)
 obtain ⟨D2,hD2,hR⟩:=hR
 have hD3:=hD2.more (k':=k + r.size + 20) (by omega) (by omega)
 clear hD2
 generalize headF ⟨hn + 1,half,snap,log + (frameF r).size⟩ (pagesF half (snap + log) (frameF r) x) = q at hR hD3 ⊢
 obtain ⟨x2,b⟩:=q
 dsimp only at hR hD3 ⊢
 rcases hR with ⟨rfl,rfl,rfl⟩|⟨rfl,rfl,rfl⟩
 ·dsimp only [WlB]
  refine zg23 ?_
  exact Cd.ret (ret1 (A':=WlB wb db ⟨⟨hn + 1,half,snap,log + (frameF r).size⟩,recs + 1,false⟩ :: D2) rfl (Res.tmp rfl) (fun _ h=>h.split) ⟨rfl,D2,rfl,hD3⟩)
 ·refine zg5 ?_
  exact ze28
theorem snapshot_spec (B0:Base) (wb db:Nat) (w:Wl) (x:Dk) (k:Nat) (D:List Blk) (hD:DkA db x k D) (s:ByteArray) (ok:WlOk w x.S.length) (hs:s.size ≤ 900000) (hk:k ≤ 800000000000) :
  ConB Tryz.prog B0 80 #[ptr wb,.string s] (WlB wb db w :: D) (LogR wb db (snapF w x s) (k + s.size + 20)):=by
 have hrl:=roomF_le x.S.length
 have hD9:=hD.more (k':=k + s.size + 20) (by omega) (by omega)
 obtain ⟨⟨hn,half,snap,log⟩,recs,dead⟩:=w
 obtain ⟨o1,o2,o3,o4,o5⟩:=ok
 dsimp only at o1 o2 o3 o4 o5
 refine ConB.intro (vs:=[_,_]) Tryz.func80 rfl Tryz.ntmps80 rfl (fun B hB=>?_)
 dsimp only [WlB]
 have hap:snapF ⟨⟨hn,half,snap,log⟩,recs,dead⟩ x s = if (dead || x.de) then ((⟨⟨hn,half,snap,log⟩,recs,true⟩,x),2)
  else if 17000 < s.size ∨ roomF x.S.length < s.size then ((⟨⟨hn,half,snap,log⟩,recs,dead⟩,x),92)
  else if 1099511627776 ≤ hn then ((⟨⟨hn,half,snap,log⟩,recs,dead⟩,x),(94:Int))
  else Wl.done ⟨⟨hn,half,snap,log⟩,recs,dead⟩ ⟨hn + 1,1 - half,s.size,0⟩ 0 (headF ⟨hn + 1,1 - half,s.size,0⟩ (pagesF (1 - half) 0 s x)):=rfl
 refine zg3 ?_
 refine Ops.call (gone_spec wb db ⟨⟨hn,half,snap,log⟩,recs,dead⟩ x k D hD) rfl (noPd rfl) rfl rfl rfl (fun v A' hR=>?_)
 obtain ⟨rfl,rfl⟩:=hR
 dsimp only [WlB]
 by_cases hg:(dead || x.de) = true
 ·rw [if_pos hg] at hap
  rw [hap,hg]
  refine zg15 ?_
  exact ze26
 have hg:(dead || x.de) = false:=by simpa using hg
 obtain ⟨rfl,hde⟩:dead = false ∧ x.de = false:=by simpa using hg
 rw [if_neg (by rw [hde];simp)] at hap
 rw [hde,show (false || false) = false from rfl]
 by_cases h1:17000 < s.size
 ·have h1':(17000:Int) < s.size:=by omega
  rw [if_pos (.inl h1)] at hap
  rw [hap]
  refine zg20 ?_
  exact ze27
 have h1':¬ (17000:Int) < s.size:=by omega
 refine zg11 ?_
 refine Ops.call (room_spec db x k D hD) rfl (noPd rfl) rfl rfl rfl (fun v A' hR=>?_)
 obtain ⟨rfl,e⟩:=hR
 subst A'
 by_cases h2:roomF x.S.length < s.size
 ·have h2':((roomF x.S.length:Nat):Int) < s.size:=by omega
  rw [if_pos (.inr h2)] at hap
  rw [hap]
  refine zg29 ?_
  exact ze27
 have h2':¬ ((roomF x.S.length:Nat):Int) < s.size:=by omega
 rw [if_neg (by omega)] at hap
 by_cases h4:1099511627776 ≤ hn
 ·have h4':(1099511627776:Int) ≤ hn:=by omega
  rw [if_pos h4] at hap
  rw [hap]
  refine zg43 ?_
  exact ze27
 have h4':¬ (1099511627776:Int) ≤ hn:=by omega
 rw [if_neg h4] at hap
 rw [hap]
 have hl1:(hn:Int) + 1 = ((hn + 1:Nat):Int):=by push_cast;rfl
 have hl2:(1:Int) - (half:Int) = ((1 - half:Nat):Int):=by omega
 refine zg21 ?_
 refine Cd.draw [(0,0,[]),(1,0,[]),(2,0,[]),(3,0,[]),(4,0,[]),(5,0,[]),(6,1,[]),(7,0,[]),(8,0,[]),(9,0,[]),(10,0,[]),(11,0,[]),(12,1,[]),(13,0,[]),(14,0,[]),(15,0,[]),(16,0,[]),(17,2,[]),(18,0,[])] (by kernel_rfl) (by kernel_rfl) (by simp only [picked,nth];exact rfl) ?_
 refine zg33 ?_
 rw [hl1,hl2]
 refine Ops.callB (write_spec B0 wb db ⟨⟨hn,half,snap,log⟩,recs,false⟩ x k D hD 0 s ⟨hn + 1,1 - half,s.size,0⟩ ⟨by show hn + 1 < _;omega,by show 1 - half < _;omega,by show s.size < _;omega,by show 0 < _;omega⟩ (by show 1 - half ≤ 1;omega) (by omega) (by omega) hk) hB rfl (noPd rfl) rfl rfl rfl (fun v A' hR=>?_)
 obtain ⟨D2,hD2,hR⟩:=hR
 have hD3:=hD2.more (k':=k + s.size + 20) (by omega) (by omega)
 clear hD2
 dsimp only at hR hD3
 generalize headF ⟨hn + 1,1 - half,s.size,0⟩ (pagesF (1 - half) 0 s x) = q at hR hD3 ⊢
 obtain ⟨x2,b⟩:=q
 dsimp only at hR hD3 ⊢
 rcases hR with ⟨rfl,rfl,rfl⟩|⟨rfl,rfl,rfl⟩
 ·dsimp only [WlB]
  refine zg32 ?_
  exact Cd.ret (ret1 (A':=WlB wb db ⟨⟨hn + 1,1 - half,s.size,0⟩,0,false⟩ :: D2) rfl (Res.tmp rfl) (fun _ h=>h.split) ⟨rfl,D2,rfl,hD3⟩)
 ·refine zg5 ?_
  exact ze28
theorem fitN_stop {left n:Nat} (h:¬ left < (numB n).size + n):fitN left n = n:=by
 cases n with
 | zero=>rfl
 | succ n=>rw [fitN,if_neg h]
theorem fitN_down {left n:Nat} (h0:n ≠ 0) (h:left < (numB n).size + n):fitN left n = fitN left (n - 1):=by
 cases n with
 | zero=>exact absurd rfl h0
 | succ n=>rw [fitN,if_pos h,Nat.add_sub_cancel]
theorem roomw_spec (B0:Base) (wb db:Nat) (w:Wl) (x:Dk) (k:Nat) (D:List Blk) (hD:DkA db x k D) (ok:WlOk w x.S.length) :
  ConB Tryz.prog B0 99 #[ptr wb] (WlB wb db w :: D) fun v A=>v = .int .i64 (roomW w x.S.length:Nat) ∧ A = WlB wb db w :: D:=by
 have hrl:=roomF_le x.S.length
 obtain ⟨⟨hn,half,snap,log⟩,recs,dead⟩:=w
 obtain ⟨o1,o2,o3,o4,o5⟩:=ok
 dsimp only at o1 o2 o3 o4 o5
 refine ConB.intro (vs:=[_]) Tryz.func99 rfl Tryz.ntmps99 rfl (fun B hB=>?_)
 dsimp only [WlB]
 have hrw:roomW ⟨⟨hn,half,snap,log⟩,recs,dead⟩ x.S.length = fitN (roomF x.S.length - snap - log) (min 2048 (roomF x.S.length - snap - log)):=rfl
 refine zg0 ?_
 refine Cd.draw [(0,0,[]),(1,0,[]),(2,0,[]),(3,1,[]),(5,0,[]),(6,0,[]),(7,0,[]),(8,0,[]),(9,1,[]),(11,0,[]),(12,0,[]),(13,0,[]),(14,0,[]),(15,1,[]),(4,2,[9,15]),(10,0,[]),(16,0,[]),(17,0,[])] (by kernel_rfl) (by kernel_rfl) (by simp only [picked,nth];exact rfl) ?_
 refine zg2 ?_
 refine Ops.call (room_spec db x k D hD) rfl zp5 rfl rfl rfl (fun v A' hR=>?_)
 obtain ⟨rfl,e⟩:=hR
 subst A'
 refine zg30 ?_
 rw [show ((roomF x.S.length:Nat):Int) - snap - log = ((roomF x.S.length - snap - log:Nat):Int) from by omega]
 generalize roomF x.S.length - snap - log = left at hrw ⊢
 skip
 rw [show min (2048:Int) ((left:Nat):Int) = ((min 2048 left:Nat):Int) from by omega]
 refine Cd.loopK (σ:=Nat) (fun n=>n ≤ 2048 ∧ fitN left (min 2048 left) = fitN left n) (fun n=>[(3,.int .i64 left),(4,.int .i64 n)]) (fun n=>WlB wb db ⟨⟨hn,half,snap,log⟩,recs,dead⟩ :: D) (fun n=>n) (min 2048 left) ⟨Nat.min_le_left _ _,rfl⟩ ⟨rfl,rfl,trivial⟩ (fun w h=>h.split) (fun n hn2=>?_)
 obtain ⟨hn2,hft⟩:=hn2
 have hexit:fitN left n = n → roomW ⟨⟨hn,half,snap,log⟩,recs,dead⟩ x.S.length = n:=fun h=>by rw [hrw,hft,h]
 by_cases h0:n = 0
 ·subst h0
  rw [hexit rfl]
  refine zg19 ?_
  exact Cd.ret (ret1 (A':=WlB wb db ⟨⟨hn,half,snap,log⟩,recs,dead⟩ :: D) rfl (Res.tmp rfl) (fun _ h=>h.split) ⟨by congr 1,rfl⟩)
 have h0':(0:Int) < n:=by omega
 have hnz:(numB n).size ≤ 10:=numB_size (by omega)
 by_cases hlt:left < (numB n).size + n
 ·have hlt':((left:Nat):Int) < ((numB n).size:Nat) + (n:Int):=by omega
  refine zg25 ?_
  refine Ops.cvI rfl rfl rfl rfl ?_
  rw [wrap_u64 (by omega)]
  skip
  refine Ops.call (num_spec n (by omega)) rfl (noPd rfl) rfl rfl rfl (fun v A' hR=>?_)
  obtain ⟨rfl,rfl⟩:=hR
  refine zg33 ?_
  rw [show (n:Int) - 1 = ((n - 1:Nat):Int) from by omega]
  exact Ops.nilN (inB (round_end (n - 1:Nat) ⟨by show n - 1 ≤ 2048;omega,by rw [hft,fitN_down h0 hlt]⟩ (by show n - 1 < n;omega) ⟨rfl,rfl,trivial⟩ (fun w h=>h.split)))
 ·have hlt':¬ ((left:Nat):Int) < ((numB n).size:Nat) + (n:Int):=by omega
  rw [hexit (fitN_stop hlt)]
  refine zg25 ?_
  refine Ops.cvI rfl rfl rfl rfl ?_
  rw [wrap_u64 (by omega)]
  skip
  refine Ops.call (num_spec n (by omega)) rfl (noPd rfl) rfl rfl rfl (fun v A' hR=>?_)
  obtain ⟨rfl,rfl⟩:=hR
  refine zg27 ?_
  exact Cd.ret (ret1 (A':=WlB wb db ⟨⟨hn,half,snap,log⟩,recs,dead⟩ :: D) rfl (Res.tmp rfl) (fun _ h=>h.split) ⟨by congr 1 <;> omega,rfl⟩)
theorem rin_spec (a l h:Int):Con Tryz.prog 56 #[.int .i64 a,.int .i64 l,.int .i64 h] [] fun v A=>v = .bool (decide (l ≤ a ∧ a ≤ h)) ∧ A = []:=by
 refine Con.intro (vs:=[_,_,_]) Tryz.func56 rfl Tryz.ntmps56 rfl (fun B=>?_)
 by_cases h1:l ≤ a
 ·by_cases h2:a ≤ h
  ·rw [decide_eq_true (⟨h1,h2⟩:l ≤ a ∧ a ≤ h)]
   refine zg25 ?_
   exact ze29
  ·rw [decide_eq_false (fun q:l ≤ a ∧ a ≤ h=>h2 q.2)]
   refine zg25 ?_
   exact ze30
 ·rw [decide_eq_false (fun q:l ≤ a ∧ a ≤ h=>h1 q.1)]
  refine zg11 ?_
  exact ze8
theorem right_spec (h z m:Bool):Con Tryz.prog 60 #[.bool h,.bool z,.bool m] [] fun v A=>v = .bool (if h then m else z) ∧ A = []:=by
 refine Con.intro (vs:=[_,_,_]) Tryz.func60 rfl Tryz.ntmps60 rfl (fun B=>?_)
 cases h with
 | true =>
  refine zg5 ?_
  exact ze8
 | false =>
  refine zg6 ?_
  exact ze8
def hasS (kind:Int):ByteArray:=if kind = 1 then ⟨#[110]⟩ else if kind = 2 then ⟨#[106,112]⟩ else if kind = 3 then ⟨#[106,98,115]⟩ else if kind = 4 then ⟨#[98,116]⟩ else if kind = 5 then ⟨#[98]⟩ else if kind = 6 then ⟨#[98,114]⟩ else ⟨#[]⟩
theorem has_spec (kind:Int):Con Tryz.prog 59 #[.int .i64 kind] [] fun v A=>v = .string (hasS kind) ∧ A = []:=by
 refine Con.intro (vs:=[_]) Tryz.func59 rfl Tryz.ntmps59 rfl (fun B=>?_)
 unfold hasS
 by_cases h1:kind = 1
 ·rw [if_pos h1]
  refine zg14 ?_
  exact ze8
 rw [if_neg h1]
 by_cases h2:kind = 2
 ·rw [if_pos h2]
  refine zg16 ?_
  exact ze8
 rw [if_neg h2]
 by_cases h3:kind = 3
 ·rw [if_pos h3]
  refine zg16 ?_
  exact ze8
 rw [if_neg h3]
 by_cases h4:kind = 4
 ·rw [if_pos h4]
  refine zg16 ?_
  exact ze8
 rw [if_neg h4]
 by_cases h5:kind = 5
 ·rw [if_pos h5]
  refine zg16 ?_
  exact ze8
 rw [if_neg h5]
 by_cases h6:kind = 6
 ·rw [if_pos h6]
  refine zg16 ?_
  exact ze8
 rw [if_neg h6]
 refine zg17 ?_
 exact ze8
def idx1 (s:ByteArray) (c:UInt8):Int:=Lib.indexByte s.data.toList c
instance:ExtOk Tryz.prog 263 Extern.BytealgIndexByte.indexByte:=⟨⟨_,Tryz.func263,by kernel_rfl,by kernel_rfl,by kernel_rfl,by kernel_rfl⟩⟩
theorem slbyte_spec (s:ByteArray) (c:UInt8):Con Tryz.prog 238 #[.string s,.int .u8 c.toNat] [] fun v A=>v = .int .i64 (idx1 s c) ∧ A = []:=by
 refine Con.intro (vs:=[_,_]) Tryz.func238 rfl Tryz.ntmps238 rfl (fun B=>?_)
 have hr:∀ w:World,(Extern.BytealgIndexByte.indexByte #[.string s,.int .u8 c.toNat]).run Tryz.prog w = .ok (.int .i64 (idx1 s c)) w:=fun w=>by
  rw [Lib.run_indexByteString,Int.toNat_natCast,show c.toNat.toUInt8 = c from by simp,idx1]
 refine zg0 ?_
 refine Ops.extR (vs:=[.string s,.int .u8 c.toNat]) rfl rfl rfl hr rfl (noPd rfl) ?_
 refine zg1 ?_
 exact ze8
theorem slindex_spec (s u:ByteArray) (c:UInt8) (hu:u = ⟨#[c]⟩):Con Tryz.prog 181 #[.string s,.string u] [] fun v A=>v = .int .i64 (idx1 s c) ∧ A = []:=by
 have hsz:u.size = 1:=by rw [hu];rfl
 have hsz':(u.size:Int) = 1:=by omega
 have hg:u[(0:Int).toNat]? = some c:=by subst hu;rfl
 refine Con.intro (vs:=[_,_]) Tryz.func181 rfl Tryz.ntmps181 rfl (fun B=>?_)
 by_cases he:u = s
 ·have h0:idx1 s c = 0:=by rw [← he,hu];simp [idx1,Lib.indexByte]
  rw [h0]
  clear hu
  refine zg36 ?_
  rw [hsz]
  skip
  exact ze8
 ·clear hu
  refine zg36 ?_
  rw [hsz]
  skip
  refine Ops.ixS rfl rfl rfl rfl (by decide) hg rfl ?_
  skip
  refine Ops.call (slbyte_spec s c) rfl (noPd rfl) rfl rfl rfl (fun v A' hR=>?_)
  obtain ⟨rfl,rfl⟩:=hR
  refine zg1 ?_
  exact ze8
theorem sindex_spec (s u:ByteArray) (c:UInt8) (hu:u = ⟨#[c]⟩):Con Tryz.prog 109 #[.string s,.string u] [] fun v A=>v = .int .i64 (idx1 s c) ∧ A = []:=by
 refine Con.intro (vs:=[_,_]) Tryz.func109 rfl Tryz.ntmps109 rfl (fun B=>?_)
 refine zg0 ?_
 refine Ops.call (slindex_spec s u c hu) rfl (noPd rfl) rfl rfl rfl (fun v A' hR=>?_)
 obtain ⟨rfl,rfl⟩:=hR
 refine zg1 ?_
 exact ze8
def hasC (s:ByteArray) (c:UInt8):Bool:=decide (0 ≤ idx1 s c)
theorem scontains_spec (s u:ByteArray) (c:UInt8) (hu:u = ⟨#[c]⟩):Con Tryz.prog 58 #[.string s,.string u] [] fun v A=>v = .bool (hasC s c) ∧ A = []:=by
 refine Con.intro (vs:=[_,_]) Tryz.func58 rfl Tryz.ntmps58 rfl (fun B=>?_)
 refine zg0 ?_
 refine Ops.call (sindex_spec s u c hu) rfl (noPd rfl) rfl rfl rfl (fun v A' hR=>?_)
 obtain ⟨rfl,rfl⟩:=hR
 refine zg10 ?_
 exact ze8
def SIn (B:Base) (a:Option Addr) (l:List ByteArray):Prop:=∀ (i:Nat) (s:ByteArray),l[i]? = some s → ∃ b off,a = some ⟨b,off,none⟩ ∧ ∀ A,Rd B A b (off + i * 1) (.string s)
theorem SIn.ext {B B2:Base} {a:Option Addr} {l:List ByteArray} (e:Ext B B2) (h:SIn B a l):SIn B2 a l:=fun i s hs=>by
 obtain ⟨b,off,ha,hr⟩:=h i s hs
 exact ⟨b,off,ha,fun A=>(hr A).ext e⟩
theorem SIn.nil {B:Base} {a:Option Addr}:SIn B a []:=fun i s hs=>by cases hs
def longT (t:ByteArray):Bool:=decide (32 < t.size)
theorem texts1_spec (t:ByteArray):Con Tryz.prog 111 #[.string t] [] fun v A=>v = .bool (longT t) ∧ A = []:=by
 refine Con.intro (vs:=[_]) Tryz.func111 rfl Tryz.ntmps111 rfl (fun B=>?_)
 refine zg8 ?_
 exact Cd.ret (ret1 (A':=[]) rfl (Res.tmp rfl) (fun _ h=>h.split) ⟨by unfold longT;congr 1;simp;omega,rfl⟩)
theorem findT_spec (B0:Base) (a:Option Addr) (c:Nat) (l:List ByteArray) (hS:SIn B0 a l) (hl:l.length ≤ 2000000) :
  ConB Tryz.prog B0 182 #[.slice a l.length c,.func (.func 111) #[] #[]] [] fun v A=>(∃ k:Int,v = .int .i64 k ∧ (l.any longT = true → 0 ≤ k) ∧ (l.any longT = false → k < 0)) ∧ A = []:=by
 refine ConB.intro (vs:=[_,_]) Tryz.func182 rfl Tryz.ntmps182 rfl (fun B hx=>?_)
 have hS:=hS.ext hx
 generalize B.plain = B1 at hS ⊢
 clear hx
 refine zg3 ?_
 refine Cd.loopK (fun i:Nat=>i ≤ l.length ∧ l.any longT = (l.drop i).any longT) (fun i=>[(0,.slice a l.length c),(1,.func (.func 111) #[] #[]),(7,.int .i64 l.length),(8,.int .i64 i)])
  (fun _=>[]) (fun i=>l.length - i) 0 ⟨Nat.zero_le _,by simp⟩ ⟨rfl,rfl,rfl,rfl,trivial⟩ (fun w h=>h) (fun i hI=>?_)
 obtain ⟨hi,hem⟩:=hI
 by_cases hil:i < l.length
 ·have hil':(i:Int) < l.length:=by omega
  obtain ⟨x,hx⟩:∃ x,l[i]? = some x:=⟨_,List.getElem?_eq_getElem hil⟩
  obtain ⟨b,off,rfl,hrd⟩:=hS i x hx
  have hrw:∀ A,Rd B1 A b (off + (i:Int).toNat * 1) (.string x):=fun A=>by rw [Int.toNat_natCast];exact hrd A
  have hdr:l.drop i = x :: l.drop (i + 1):=by
   obtain ⟨h1,rfl⟩:=List.getElem?_eq_some_iff.1 hx
   exact List.drop_eq_getElem_cons h1
  rw [hdr,List.any_cons] at hem
  refine zg24 ?_
  refine Ops.ldR rfl rfl rfl (hrw _) rfl ?_
  skip
  refine Ops.callV (fi:=[]) (ca:=[]) (vs:=[_]) (texts1_spec x) rfl (noPd rfl) rfl rfl rfl rfl (fun v A' hR=>?_)
  obtain ⟨rfl,rfl⟩:=hR
  cases hq:longT x with
  | true =>
   rw [hq] at hem
   refine zg5 ?_
   exact Cd.ret (ret1 (A':=[]) rfl (Res.tmp rfl) (fun _ h=>h.split) ⟨⟨i,rfl,(fun _=>Int.natCast_nonneg _),(fun h=>by rw [hem] at h;cases h)⟩,rfl⟩)
  | false =>
   rw [hq] at hem
   refine zg27 ?_
   exact Ops.nilN (round_end (i + 1) ⟨by show i + 1 ≤ l.length;omega,by rw [hem,Bool.false_or]⟩ zp15 ⟨rfl,rfl,rfl,rfl,trivial⟩ (fun w h=>h.split))
 ·obtain rfl:i = l.length:=by omega
  rw [List.drop_length] at hem
  have hil':¬ ((l.length:Nat):Int) < l.length:=by omega
  refine zg12 ?_
  exact Cd.ret (ret1 (A':=[]) rfl (Res.tmp rfl) (fun _ h=>h.split) ⟨⟨-1,rfl,(fun h=>by rw [hem] at h;cases h),(fun _=>by decide)⟩,rfl⟩)
theorem hasT_spec (B0:Base) (a:Option Addr) (c:Nat) (l:List ByteArray) (hS:SIn B0 a l) (hl:l.length ≤ 2000000) :
  ConB Tryz.prog B0 110 #[.slice a l.length c,.func (.func 111) #[] #[]] [] fun v A=>v = .bool (l.any longT) ∧ A = []:=by
 refine ConB.intro (vs:=[_,_]) Tryz.func110 rfl Tryz.ntmps110 rfl (fun B hx=>?_)
 refine zg0 ?_
 refine Ops.callB (findT_spec B0 a c l hS hl) hx rfl (noPd rfl) rfl rfl rfl (fun v A' hR=>?_)
 obtain ⟨⟨k,rfl,h1,h2⟩,rfl⟩:=hR
 cases hp:l.any longT with
 | true =>
  have:=h1 hp
  refine zg10 ?_
  exact Cd.ret (ret1 (A':=[]) rfl (Res.tmp rfl) (fun _ h=>h.split) ⟨by simp [this],rfl⟩)
 | false =>
  have:=h2 hp
  refine zg10 ?_
  exact Cd.ret (ret1 (A':=[]) rfl (Res.tmp rfl) (fun _ h=>h.split) ⟨by congr 1;simp;omega,rfl⟩)
def textsF (l:List ByteArray):Bool:=decide (1 ≤ l.length ∧ l.length ≤ 8) && !l.any longT
theorem texts_spec (B0:Base) (a:Option Addr) (c:Nat) (l:List ByteArray) (hS:SIn B0 a l) (hl:l.length ≤ 2000000) :
  ConB Tryz.prog B0 61 #[.slice a l.length c] [] fun v A=>v = .bool (textsF l) ∧ A = []:=by
 refine ConB.intro (vs:=[_]) Tryz.func61 rfl Tryz.ntmps61 rfl (fun B hx=>?_)
 unfold textsF
 refine zg3 ?_
 refine Ops.call (rin_spec l.length 1 8) rfl (noPd rfl) rfl rfl rfl (fun v A' hR=>?_)
 obtain ⟨rfl,rfl⟩:=hR
 by_cases h:1 ≤ l.length ∧ l.length ≤ 8
 ·rw [decide_eq_true h,decide_eq_true (⟨by omega,by omega⟩:(1:Int) ≤ (l.length:Nat) ∧ ((l.length:Nat):Int) ≤ 8)]
  refine zg0 ?_
  refine Ops.callB (hasT_spec B0 a c l hS hl) hx rfl (noPd rfl) rfl rfl rfl (fun v A' hR=>?_)
  obtain ⟨rfl,rfl⟩:=hR
  refine zg10 ?_
  exact ze8
 ·rw [decide_eq_false h,decide_eq_false (by omega:¬ ((1:Int) ≤ (l.length:Nat) ∧ ((l.length:Nat):Int) ≤ 8))]
  refine zg6 ?_
  exact ze8
structure Ch where
 kind:Int
 n:Int
 job:Int
 badge:Int
 slot:Int
 life:Int
 rcode:Int
 rbits:Int
 prog:ByteArray
 txs:List ByteArray
@[reducible] def Ch.row (c:Ch) (a:Option Addr) (k:Nat):List Value:=[.int .i64 c.kind,.int .i64 c.n,.int .i64 c.job,.int .i64 c.badge,.int .i64 c.slot,.int .i64 c.life,.int .i64 c.rcode,.int .u64 c.rbits,.string c.prog,.slice a c.txs.length k]
theorem check1_spec (cb:Nat) (c:Ch) (a:Option Addr) (k:Nat) (u:ByteArray) (l:UInt8) (hu:u = ⟨#[l]⟩):Con Tryz.prog 57 #[.string u,ptr cb] [(cb,cl (c.row a k) 69)] fun v A=>v = .bool (hasC (hasS c.kind) l) ∧ A = [(cb,cl (c.row a k) 69)]:=by
 refine Con.intro (vs:=[_,_]) Tryz.func57 rfl Tryz.ntmps57 rfl (fun B=>?_)
 refine zg4 ?_
 refine Ops.call (has_spec c.kind) rfl (noPd rfl) rfl rfl rfl (fun v A' hR=>?_)
 obtain ⟨rfl,rfl⟩:=hR
 refine zg0 ?_
 refine Ops.call (scontains_spec (hasS c.kind) u l hu) rfl (noPd rfl) rfl rfl rfl (fun v A' hR=>?_)
 obtain ⟨rfl,rfl⟩:=hR
 refine zg1 ?_
 exact Cd.ret (ret1 (A':=[(cb,cl (c.row a k) 69)]) rfl (Res.tmp rfl) (fun _ h=>h.split) ⟨rfl,rfl⟩)
end Go.Proofs.YtaecdnfkcebbeaaGreat
namespace Go.Sep
open Go
def RIn (sz:Nat) (B:Base) (a:Option Addr) (rows:List (List Value)):Prop :=
 ∀ (i:Nat) (r:List Value),rows[i]? = some r → ∃ b off,a = some ⟨b,off,none⟩ ∧ ∀ A j u,r[j]? = some u → Rd B A b (off + i * sz + j) u
theorem Holds.sub {B:Base} {G G':List Blk} (h:Holds B G) (hs:∀ p ∈ G',p ∈ G):Holds B G':=fun p hp=>h p (hs p hp)
theorem RIn.ext {sz:Nat} {B B2:Base} {a:Option Addr} {rows:List (List Value)} (e:Ext B B2) (h:RIn sz B a rows):RIn sz B2 a rows:=fun i r hr=>by
 obtain ⟨b,off,ha,h⟩:=h i r hr
 exact ⟨b,off,ha,fun A j u hu=>(h A j u hu).ext e⟩
theorem RIn.nil {sz:Nat} {B:Base} {a:Option Addr}:RIn sz B a []:=fun i r hr=>by cases hr
theorem Own.rin {E sz n c:Nat} {a:Option Addr} {rows:List (List Value)} {G:List Blk} (h:Own E sz (.slice a n c) rows G) {B:Base} (hG:Holds B G):RIn sz B a rows:=fun i r hr=>by
 have hlt:=(List.getElem?_eq_some_iff.1 hr).1
 obtain ⟨g,c',spare,h1,h2,h3,h4⟩:=Own.some_ h (by omega)
 injection h1 with e1 e2 e3
 refine ⟨g,0,e1,fun A j u hu=>?_⟩
 have hj:j < sz:=by rw [← (h.1 r (List.mem_of_getElem? hr)).1];exact (List.getElem?_eq_some_iff.1 hu).1
 have h5:=h.1.at_ hr hj
 rw [Nat.zero_add]
 exact hG.cell (l:=rows.flatten ++ spare) (by rw [h2];exact List.mem_singleton.2 rfl) (by rw [List.getElem?_append_left (List.getElem?_eq_some_iff.1 (h5.trans hu)).1,h5,hu]) A
theorem Rs.rin {E sz n c:Nat} {a:Option Addr} {rows:List (List Value)} {G:List Blk} (h:Rs E sz (.slice a n c) rows G) {B:Base} (hG:Holds B G):RIn sz B a rows:=fun i r hr=>by
 have hlt:=(List.getElem?_eq_some_iff.1 hr).1
 obtain ⟨g,c',spare,h1,h2⟩:=Rs.some_ h (by omega)
 injection h1 with e1 e2 e3
 refine ⟨g,0,e1,fun A j u hu=>?_⟩
 have hj:j < sz:=by rw [← (h.1 r (List.mem_of_getElem? hr)).1];exact (List.getElem?_eq_some_iff.1 hu).1
 have h5:=h.1.at_ hr hj
 rw [Nat.zero_add]
 exact hG.cell (l:=rows.flatten ++ spare) (by rw [h2];exact List.mem_singleton.2 rfl) (by rw [List.getElem?_append_left (List.getElem?_eq_some_iff.1 (h5.trans hu)).1,h5,hu]) A
theorem RIn.reads {P:Program} {sz:Nat} {B:Base} {a:Option Addr} {rows:List (List Value)} (h:RIn sz B a rows) (hok:RowsOk sz rows) (hsz:0 < sz) (c:Nat) (A:List Blk):Reads P B A sz (.slice a rows.length c) rows:=by
 refine ⟨hok,⟨a,c,rfl⟩,fun w hS=>?_⟩
 cases rows with
 | nil=>exact (Reads.none (P:=P) (B:=B) (A:=A) (sz:=sz) (a:=a) (c:=c)).2.2 w hS
 | cons r0 rows =>
  obtain ⟨b,off,rfl,_⟩:=h 0 r0 rfl
  have hlen:=hok.len
  have hcell:∀ j u,(r0 :: rows).flatten[j]? = some u → w.cell? ⟨b,off + j,none⟩ = some u:=fun j u hu=>by
   have hj:j < (r0 :: rows).length * sz:=by rw [← hlen];exact (List.getElem?_eq_some_iff.1 hu).1
   have hi:j / sz < (r0 :: rows).length:=by rw [Nat.div_lt_iff_lt_mul hsz];exact hj
   obtain ⟨r,hr⟩:∃ r,(r0 :: rows)[j / sz]? = some r:=⟨_,List.getElem?_eq_getElem hi⟩
   have h5:=hok.at_ hr (Nat.mod_lt j hsz)
   have e1:j / sz * sz + j % sz = j:=by rw [Nat.mul_comm];exact Nat.div_add_mod j sz
   rw [e1,hu] at h5
   obtain ⟨b',off',e2,hrd⟩:=h _ r hr
   injection e2 with e2
   injection e2 with e2 e3
   subst e2;subst e3
   have:=hrd A _ u h5.symm w hS
   rwa [Nat.add_assoc,e1] at this
  exact run_loadCells hlen hcell
end Go.Sep
