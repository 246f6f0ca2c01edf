import Derived.Test.YtaecdnfkcebbeaaGreatA01
import Derived.Test.YtaecdnfkcebbeaaGreatA17
set_option linter.unusedVariables false
set_option linter.unusedSimpArgs false
namespace Go.Proofs.YtaecdnfkcebbeaaGreat
open Go Go.Sep Go.Proofs
set_option maxRecDepth 10000
set_option maxHeartbeats 40000000
set_option synthInstance.maxSize 2000
theorem foundF_num {S:List ByteArray} {at_:Nat} {h:Hd} {s:ByteArray} {l:List ByteArray} (e:foundF S at_ = some (h,s,l)):1 ≤ h.number ∧ h.number ≤ 1099511627776 ∧ h.half ≤ 1 ∧ h.snap ≤ 17000 ∧ h.snap + h.log ≤ roomF S.length:=by
 unfold foundF at e
 dsimp only at e
 split at e
 ·cases e
 ·rename_i hc
  split at e
  ·cases e
  ·rename_i hd
   cases hf:framesG ((bytesF S (bat (S.getD at_ .empty) 8) (rdN (S.getD at_ .empty) 9 13 + rdN (S.getD at_ .empty) 13 17)).extract (rdN (S.getD at_ .empty) 9 13) (rdN (S.getD at_ .empty) 9 13 + rdN (S.getD at_ .empty) 13 17)) 0 with
   | none=>rw [hf] at e;cases e
   | some l2 =>
    rw [hf] at e
    injection e with e
    injection e with e1 e2
    subst e1
    dsimp only
    omega
def bestF (c y:Option (Hd × ByteArray × List ByteArray)):Option (Hd × ByteArray × List ByteArray) :=
 match c,y with
 | c,none=>c
 | none,some y=>some y
 | some c,some y=>if c.1.number < y.1.number then some y else some c
def curF (S:List ByteArray):Nat → Option (Hd × ByteArray × List ByteArray)
 | 0=>none
 | i + 1=>bestF (curF S i) (foundF S i)
theorem curF_two (S:List ByteArray):curF S 2 = countsF S:=by
 show bestF (bestF none (foundF S 0)) (foundF S 1) = _
 unfold countsF
 cases foundF S 0 <;> cases foundF S 1 <;> rfl
structure CnS where
 i:Nat
 h:Hd
 s:ByteArray
 sv:Value
 ok:Bool
 G:List Blk
def CurA (c:Option (Hd × ByteArray × List ByteArray)) (t:CnS):Prop :=
 (c = none ∧ t.h = ⟨0,0,0,0⟩ ∧ t.s = ⟨#[]⟩ ∧ t.sv = .slice none 0 0 ∧ t.ok = false ∧ t.G = []) ∨ ∃ l,c = some (t.h,t.s,l) ∧ t.ok = true ∧ RsT t.sv l t.G
theorem counts_spec (B0:Base) (db:Nat) (x:Dk) (k:Nat) (D:List Blk) (hD:DkA db x k D) (hde:x.de = false) (hrm:roomF x.S.length ≠ 0):ConB Tryz.prog B0 75 #[ptr db] D (FoundR (countsF x.S) D):=by
 refine ConB.intro (vs:=[_]) Tryz.func75 rfl Tryz.ntmps75 rfl (fun B hB=>?_)
 repeat' (first|refine Cd.seq ?_|refine Cd.reg ?_|refine Ops.nil ?_|refine Ops.mv rfl rfl rfl rfl ?_|refine Ops.asg rfl rfl rfl rfl ?_|refine Ops.bld rfl rfl rfl rfl ?_|refine Ops.alloc rfl rfl rfl (noPd rfl) (fun b=>?_)|refine Ops.stN rfl rfl rfl rfl rfl rfl (noPd rfl) ?_|refine Cd.block ?_)
 rename_i b2
 rename Nat=>b6
 refine Cd.loopK (σ:=CnS) (fun t=>t.i ≤ 2 ∧ CurA (curF x.S t.i) t) (fun t=>[(0,ptr db),(2,ptr b2),(3,.string ⟨#[]⟩),(4,.slice none 0 0),(5,.bool false),(6,ptr b6),(7,.string t.s),(8,t.sv),(9,.bool t.ok),(16,.int .i64 t.i)])
  (fun t=>(b6,cl t.h.row 148) :: (b2,cl [.int .i64 0,.int .i64 0,.int .i64 0,.int .i64 0] 148) :: (t.G ++ D)) (fun t=>2 - t.i) ⟨0,⟨0,0,0,0⟩,⟨#[]⟩,.slice none 0 0,false,[]⟩ ⟨Nat.zero_le _,.inl ⟨rfl,rfl,rfl,rfl,rfl,rfl⟩⟩ ⟨rfl,rfl,rfl,rfl,rfl,rfl,rfl,rfl,rfl,rfl,trivial⟩ (fun w h=>h) (fun t ht=>?_)
 obtain ⟨i,h,s,sv,ok,G⟩:=t
 obtain ⟨hi,hc⟩:=ht
 dsimp only at hi hc ⊢
 by_cases hlt:i < 2
 ·have hlt':(i:Int) < 2:=by omega
  refine zg14 ?_
  refine Ops.callB (found_spec B0 db x k D hD i hde (by omega) hrm) hB rfl (noPd rfl) rfl rfl rfl (fun v A' hR=>?_)
  have hcur:curF x.S (i + 1) = bestF (curF x.S i) (foundF x.S i):=rfl
  rcases hR with ⟨hf,n0,n1,n2,n3,u,rfl,e⟩|⟨h2,s2,l2,sv2,G2,hf,rfl,e,hsv⟩
  ·subst A'
   rw [hf] at hcur
   have hcur2:curF x.S (i + 1) = curF x.S i:=by rw [hcur];unfold bestF;cases curF x.S i <;> rfl
   repeat' (first|refine Cd.seq ?_|refine Cd.reg ?_|refine Ops.nil ?_|refine Ops.mv rfl rfl rfl rfl ?_|refine Ops.asg rfl rfl rfl rfl ?_|refine Ops.addI rfl rfl rfl rfl (by omega) (by omega) rfl ?_|refine Ops.pickF rfl rfl rfl rfl rfl ?_|refine Ops.ext rfl rfl rfl rfl rfl ?_|refine Ops.alloc rfl rfl rfl (noPd rfl) (fun b=>?_)|refine Ops.stN rfl rfl rfl rfl rfl rfl (noPd rfl) ?_|refine Ops.gSkip rfl rfl rfl ?_|refine Cd.condF rfl rfl ?_|refine Cd.skip (Cd.next (Q':=fun _ _ _=>True) ?_))
   exact ze23
  ·subst A'
   rw [hf] at hcur
   have hnum:=(foundF_num hf).1
   by_cases hgt:h.number < h2.number
   ·have hgt':(h.number:Int) < h2.number:=by omega
    have hcur2:curF x.S (i + 1) = some (h2,s2,l2):=by
     rw [hcur]
     rcases hc with ⟨hc,_⟩|⟨l,hc,_⟩
     ·rw [hc];rfl
     ·rw [hc];exact if_pos hgt
    repeat' (first|refine Ops.nilN (inB (Cd.next ?_))|refine Cd.seq ?_|refine Cd.reg ?_|refine Ops.nil ?_|refine Ops.mv rfl rfl rfl rfl ?_|refine Ops.asg rfl rfl rfl rfl ?_|refine Ops.fa0 rfl rfl rfl rfl ?_|refine Ops.ld1 rfl rfl rfl rfl rfl ?_|refine Ops.ldN rfl rfl rfl rfl ?_|refine Ops.addI rfl rfl rfl rfl (by omega) (by omega) rfl ?_|refine Ops.bin rfl rfl rfl rfl rfl ?_|refine Ops.pickT rfl rfl rfl rfl rfl ?_|refine Ops.ext rfl rfl rfl rfl rfl ?_|refine Ops.alloc rfl rfl rfl (noPd rfl) (fun b=>?_)|refine Ops.stN rfl rfl rfl rfl rfl rfl (noPd rfl) ?_|refine Cd.condT rfl zp0 ?_)
    exact Ops.nilN (round_end (⟨i + 1,h2,s2,sv2,true,G2⟩:CnS) ⟨by show i + 1 ≤ 2;omega,.inr ⟨l2,hcur2,rfl,hsv⟩⟩ (by show 2 - (i + 1) < 2 - i;omega) ⟨rfl,rfl,rfl,rfl,rfl,rfl,rfl,rfl,rfl,rfl,trivial⟩ (fun w h=>h.split))
   ·have hgt':¬ (h.number:Int) < h2.number:=by omega
    have hcur2:curF x.S (i + 1) = curF x.S i:=by
     rw [hcur]
     rcases hc with ⟨_,hc,_⟩|⟨l,hc,_⟩
     ·dsimp only at hc;rw [hc] at hgt;dsimp only at hgt;omega
     ·rw [hc];exact if_neg hgt
    repeat' (first|refine Cd.seq ?_|refine Cd.reg ?_|refine Ops.nil ?_|refine Ops.mv rfl rfl rfl rfl ?_|refine Ops.asg rfl rfl rfl rfl ?_|refine Ops.fa0 rfl rfl rfl rfl ?_|refine Ops.ld1 rfl rfl rfl rfl rfl ?_|refine Ops.addI rfl rfl rfl rfl (by omega) (by omega) rfl ?_|refine Ops.bin rfl rfl rfl rfl rfl ?_|refine Ops.pickT rfl rfl rfl rfl rfl ?_|refine Ops.ext rfl rfl rfl rfl rfl ?_|refine Ops.alloc rfl rfl rfl (noPd rfl) (fun b=>?_)|refine Ops.stN rfl rfl rfl rfl rfl rfl (noPd rfl) ?_|refine Cd.skip (Cd.next (Q':=fun _ _ _=>True) ?_)|refine Cd.condF rfl zp0 ?_)
    exact ze23
 ·have hlt':¬ (i:Int) < 2:=by omega
  have hie:i = 2:=by omega
  subst hie
  rw [curF_two] at hc
  rcases hc with ⟨hc,e1,e2,e3,e4,e5⟩|⟨l,hc,e4,hsv⟩
  ·dsimp only at e1 e2 e3 e4 e5
   subst e1;subst e2;subst e3;subst e4;subst e5
   refine zg19 ?_
   exact Cd.ret (ret4 (A':=D) rfl (Res.cellN rfl) (Res.tmp rfl) (Res.tmp rfl) (Res.tmp rfl) (fun _ h=>h.split) (.inl ⟨hc,_,_,_,_,_,rfl,rfl⟩))
  ·dsimp only at hc e4 hsv
   subst e4
   refine zg19 ?_
   exact Cd.ret (ret4 (A':=G ++ D) rfl (Res.cellN rfl) (Res.tmp rfl) (Res.tmp rfl) (Res.tmp rfl) (fun _ h=>h.split) (.inr ⟨_,_,l,sv,G,hc,rfl,rfl,hsv⟩))
theorem dwrite_k (db:Nat) (x:Dk) (k:Nat) (D:List Blk) (hD:DkA db x k D) (i:Int) (s:ByteArray) (hk:k < 900000000000) :
  Con Tryz.prog 76 #[ptr db,.int .i64 i,.string s] D fun v A=>v = .int .i64 (x.write i s).2 ∧ DkA db (x.write i s).1 (k + 1) A:=by
 refine (dwrite_spec db x.S x.ar x.bd x.de k D hD.a i s (by omega) hD.b0 hD.b1 hD.a0 hD.a1).mono fun v A h=>⟨h.1,?_⟩
 obtain ⟨_,h⟩:=h
 have hn:=hD.n
 have ha0:=hD.a0
 have ha1:=hD.a1
 refine ⟨h,?_,by omega,hD.b0,hD.b1,?_,?_⟩
 ·show (writeD x.S x.ar x.bd x.de i s).1.1.length ≤ 1026
  unfold writeD
  (repeat' split) <;> simp <;> omega
 ·show 0 ≤ (writeD x.S x.ar x.bd x.de i s).1.2.1
  unfold writeD
  (repeat' split) <;> dsimp only <;> omega
 ·show (writeD x.S x.ar x.bd x.de i s).1.2.1 ≤ 9223372036854775807
  unfold writeD
  (repeat' split) <;> dsimp only <;> omega
theorem DkA.more {db:Nat} {x:Dk} {k k':Nat} {D:List Blk} (h:DkA db x k D) (hk:k ≤ k') (hk':k' ≤ 900000000000):DkA db x k' D:=by
 obtain ⟨⟨g,c,sp,rv,rows,H,h1,h2,h3,h4,h5⟩,hn,_,b0,b1,a0,a1⟩:=h
 exact ⟨⟨g,c,sp,rv,rows,H,h1,h2,by omega,h4,h5⟩,hn,hk',b0,b1,a0,a1⟩
theorem format_spec (B0:Base) (db:Nat) (x:Dk) (k:Nat) (D:List Blk) (hD:DkA db x k D) (hk:k < 900000000000):ConB Tryz.prog B0 35 #[ptr db] D fun v A=>v = .int .i64 (formatF x).2 ∧ DkA db (formatF x).1 (k + 1) A:=by
 have hD1:=hD.more (k':=k + 1) (by omega) (by omega)
 refine ConB.intro (vs:=[_]) Tryz.func35 rfl Tryz.ntmps35 rfl (fun B hB=>?_)
 unfold formatF
 refine zg0 ?_
 refine Ops.call (ddead_spec db x.S x.ar x.bd x.de k D hD.a) rfl (noPd rfl) rfl rfl rfl (fun v A' hR=>?_)
 obtain ⟨rfl,e⟩:=hR
 subst A'
 by_cases hde:x.de = true
 ·rw [if_pos hde,hde]
  refine zg15 ?_
  exact ze24
 have hde:x.de = false:=by simpa using hde
 rw [if_neg (by rw [hde];simp),hde]
 refine zg6 ?_
 refine Ops.call (room_spec db x k D hD) rfl (noPd rfl) rfl rfl rfl (fun v A' hR=>?_)
 obtain ⟨rfl,e⟩:=hR
 subst A'
 by_cases hrm:roomF x.S.length = 0
 ·have hrm':((roomF x.S.length:Nat):Int) = 0:=by omega
  rw [if_pos hrm]
  refine zg14 ?_
  exact ze24
 have hrm':¬ ((roomF x.S.length:Nat):Int) = 0:=by omega
 rw [if_neg hrm]
 refine zg12 ?_
 refine Ops.callB (counts_spec B0 db x k D hD hde hrm) hB rfl (noPd rfl) rfl rfl rfl (fun v A' hR=>?_)
 rcases hR with ⟨hf,n0,n1,n2,n3,u,rfl,e⟩|⟨h2,s2,l2,sv2,G2,hf,rfl,e,hsv⟩
 ·subst A'
  rw [hf,if_neg (by simp)]
  repeat' (first|refine Cd.seq ?_|refine Cd.reg ?_|refine Ops.nil ?_|refine Ops.mv rfl rfl rfl rfl ?_|refine Ops.asg rfl rfl rfl rfl ?_|refine Ops.ext rfl rfl rfl rfl rfl ?_|refine Ops.bld rfl rfl rfl rfl ?_|refine Ops.alloc rfl rfl rfl (noPd rfl) (fun b=>?_)|refine Ops.stN rfl rfl rfl rfl rfl rfl (noPd rfl) ?_|refine Cd.condF rfl rfl ?_|refine Cd.skip (Cd.next ?_))
  refine Ops.call (sector_spec ⟨1,0,0,0⟩ ⟨by decide,by decide,by decide,by decide⟩) rfl (noPd rfl) rfl rfl rfl (fun v A' hR=>?_)
  obtain ⟨rfl,rfl⟩:=hR
  skip
  refine Ops.call (dwrite_k db x k D hD 1 (sectorF ⟨1,0,0,0⟩) hk) rfl (noPd rfl) rfl rfl rfl (fun v A' hR=>?_)
  obtain ⟨rfl,hD2⟩:=hR
  refine zg1 ?_
  exact Cd.ret (ret1 (A':=A') rfl (Res.tmp rfl) (fun _ h=>h.split) ⟨rfl,hD2⟩)
 ·subst A'
  rw [hf,if_pos (by rfl)]
  repeat' (first|refine Cd.seq ?_|refine Cd.reg ?_|refine Ops.nil ?_|refine Ops.mv rfl rfl rfl rfl ?_|refine Ops.asg rfl rfl rfl rfl ?_|refine Ops.ext rfl rfl rfl rfl rfl ?_|refine Ops.alloc rfl rfl rfl (noPd rfl) (fun b=>?_)|refine Ops.stN rfl rfl rfl rfl rfl rfl (noPd rfl) ?_|refine Cd.condT rfl rfl ?_)
  exact ze24
@[reducible] def WlB (wb db:Nat) (w:Wl):Blk:=(wb,cl [ptr db,.int .i64 w.h.number,.int .i64 w.h.half,.int .i64 w.h.snap,.int .i64 w.h.log,.int .i64 w.recs,.bool w.dead] 214)
def openW (x:Dk):Option (Hd × ByteArray × List ByteArray) × Int :=
 if x.de then (none,2) else if roomF x.S.length = 0 then (none,91) else match countsF x.S with
  | none=>(none,90)
  | some r=>(some r,0)
def OpenWR (x:Dk) (db:Nat) (D:List Blk) (v:Value) (A:List Blk):Prop :=
 ((openW x).1 = none ∧ v = .tuple #[.pointer none,.string ⟨#[]⟩,.slice none 0 0,.int .i64 (openW x).2] ∧ A = D) ∨
 (∃ h s l wb sv G,openW x = (some (h,s,l),0) ∧ v = .tuple #[ptr wb,.string s,sv,.int .i64 0] ∧ A = WlB wb db ⟨h,l.length,false⟩ :: (G ++ D) ∧ RsT sv l G)
theorem wopen_spec (B0:Base) (db:Nat) (x:Dk) (k:Nat) (D:List Blk) (hD:DkA db x k D):ConB Tryz.prog B0 78 #[ptr db] D (OpenWR x db D):=by
 refine ConB.intro (vs:=[_]) Tryz.func78 rfl Tryz.ntmps78 rfl (fun B hB=>?_)
 have hop:openW x = if x.de then ((none,2):Option (Hd × ByteArray × List ByteArray) × Int) else if roomF x.S.length = 0 then (none,91) else match countsF x.S with
  | none=>(none,90)
  | some r=>(some r,0):=rfl
 refine zg0 ?_
 refine Ops.call (ddead_spec db x.S x.ar x.bd x.de k D hD.a) rfl (noPd rfl) rfl rfl rfl (fun v A' hR=>?_)
 obtain ⟨rfl,e⟩:=hR
 subst A'
 by_cases hde:x.de = true
 ·rw [if_pos hde] at hop
  rw [hde]
  refine zg15 ?_
  exact ze25
 have hde:x.de = false:=by simpa using hde
 rw [if_neg (by rw [hde];simp)] at hop
 rw [hde]
 refine zg6 ?_
 refine Ops.call (room_spec db x k D hD) rfl (noPd rfl) rfl rfl rfl (fun v A' hR=>?_)
 obtain ⟨rfl,e⟩:=hR
 subst A'
 by_cases hrm:roomF x.S.length = 0
 ·have hrm':((roomF x.S.length:Nat):Int) = 0:=by omega
  rw [if_pos hrm] at hop
  refine zg14 ?_
  exact ze25
 have hrm':¬ ((roomF x.S.length:Nat):Int) = 0:=by omega
 rw [if_neg hrm] at hop
 refine zg12 ?_
 refine Ops.callB (counts_spec B0 db x k D hD hde hrm) hB rfl (noPd rfl) rfl rfl rfl (fun v A' hR=>?_)
 rcases hR with ⟨hf,n0,n1,n2,n3,u,rfl,e⟩|⟨h2,s2,l2,sv2,G2,hf,rfl,e,hsv⟩
 ·subst A'
  rw [hf] at hop
  repeat' (first|refine Cd.seq ?_|refine Cd.reg ?_|refine Ops.nil ?_|refine Ops.mv rfl rfl rfl rfl ?_|refine Ops.asg rfl rfl rfl rfl ?_|refine Ops.un rfl rfl rfl rfl ?_|refine Ops.ext rfl rfl rfl rfl rfl ?_|refine Ops.alloc rfl rfl rfl (noPd rfl) (fun b=>?_)|refine Ops.stN rfl rfl rfl rfl rfl rfl (noPd rfl) ?_|refine Cd.condT rfl rfl ?_)
  exact ze25
 ·subst A'
  rw [hf] at hop
  obtain ⟨a2,c2,rfl⟩:=hsv.form
  repeat' (first|refine Cd.seq ?_|refine Cd.reg ?_|refine Ops.nil ?_|refine Ops.mv rfl rfl rfl rfl ?_|refine Ops.asg rfl rfl rfl rfl ?_|refine Ops.ldN rfl rfl rfl rfl ?_|refine Ops.lenS rfl rfl rfl rfl ?_|refine Ops.un rfl rfl rfl rfl ?_|refine Ops.ext rfl rfl rfl rfl rfl ?_|refine Ops.bld rfl rfl rfl rfl ?_|refine Ops.box rfl rfl rfl rfl (noPd rfl) (fun b=>?_)|refine Ops.alloc rfl rfl rfl (noPd rfl) (fun b=>?_)|refine Ops.stN rfl rfl rfl rfl rfl rfl (noPd rfl) ?_|refine Cd.condF rfl rfl ?_|refine Cd.skip (Cd.next ?_))
  rename Nat=>wb
  exact Cd.ret (ret4 (A':=WlB wb db ⟨h2,l2.length,false⟩ :: (G2 ++ D)) rfl (Res.tmp rfl) (Res.tmp rfl) (Res.tmp rfl) (Res.tmp rfl) (fun _ h=>h.split) (.inr ⟨h2,s2,l2,wb,_,G2,hop,rfl,rfl,hsv⟩))
theorem gone_spec (wb db:Nat) (w:Wl) (x:Dk) (k:Nat) (D:List Blk) (hD:DkA db x k D):Con Tryz.prog 124 #[ptr wb] (WlB wb db w :: D) fun v A=>v = .bool (w.dead || x.de) ∧ A = WlB wb db { w with dead:=(w.dead || x.de) } :: D:=by
 obtain ⟨h,recs,dead⟩:=w
 refine Con.intro (vs:=[_]) Tryz.func124 rfl Tryz.ntmps124 rfl (fun B=>?_)
 cases dead with
 | true =>
  refine zg26 ?_
  exact Cd.ret (ret1 (A':=WlB wb db ⟨h,recs,true⟩ :: D) rfl (Res.tmp rfl) (fun _ h=>h.split) ⟨rfl,rfl⟩)
 | false =>
  refine zg4 ?_
  refine Ops.call (ddead_spec db x.S x.ar x.bd x.de k D hD.a) rfl (noPd rfl) rfl rfl rfl (fun v A' hR=>?_)
  obtain ⟨rfl,e⟩:=hR
  subst A'
  refine zg26 ?_
  exact Cd.ret (ret1 (A':=WlB wb db ⟨h,recs,x.de⟩ :: D) rfl (Res.tmp rfl) (fun _ h=>h.split) ⟨by rw [Bool.false_or],by rw [Bool.false_or]⟩)
theorem write1_ok (B0:Base) (eb wx hx wb db:Nat) (e:Int) (h:Hd) (w:Wl) (he:e = 0) :
  DCon Tryz.prog B0 204 #[ptr eb,ptr wx,ptr hx] .returning [(eb,cl [.int .i64 e] 29),(wx,cl [ptr wb] 92),(hx,cl h.row 148),WlB wb db w] fun u' A=>u' = .returning ∧ A = [(eb,cl [.int .i64 e] 29),(wx,cl [ptr wb] 92),(hx,cl h.row 148),WlB wb db { w with h:=h }]:=by
 refine DCon.intro (vs:=[_,_,_]) Tryz.func204 rfl Tryz.ntmps204 rfl (fun B c₀ cs hx2 hu=>?_)
 have hc0:c₀ = { c₀ with mode:=.returning }:=by rw [← hu]
 refine CdS.of rfl ?_
 rw [hc0]
 refine zg21 ?_
 exact Ops.nilN (endS (A':=[(eb,cl [.int .i64 e] 29),(wx,cl [ptr wb] 92),(hx,cl h.row 148),WlB wb db { w with h:=h }]) rfl (fun _ h=>h.split) ⟨rfl,rfl⟩)
theorem write1_no (B0:Base) (eb wx hx wb db:Nat) (e:Int) (h:Hd) (w:Wl) (he:e ≠ 0) :
  DCon Tryz.prog B0 204 #[ptr eb,ptr wx,ptr hx] .returning [(eb,cl [.int .i64 e] 29),(wx,cl [ptr wb] 92),(hx,cl h.row 148),WlB wb db w] fun u' A=>u' = .returning ∧ A = [(eb,cl [.int .i64 e] 29),(wx,cl [ptr wb] 92),(hx,cl h.row 148),WlB wb db { w with dead:=true }]:=by
 refine DCon.intro (vs:=[_,_,_]) Tryz.func204 rfl Tryz.ntmps204 rfl (fun B c₀ cs hx2 hu=>?_)
 have hc0:c₀ = { c₀ with mode:=.returning }:=by rw [← hu]
 refine CdS.of rfl ?_
 rw [hc0]
 refine zg24 ?_
 exact Cd.ret (retS (A':=[(eb,cl [.int .i64 e] 29),(wx,cl [ptr wb] 92),(hx,cl h.row 148),WlB wb db { w with dead:=true }]) rfl (fun _ h=>h.split) ⟨rfl,rfl⟩)
theorem pagesF_end {half at_:Nat} {s:ByteArray} {x:Dk} (h:s.size = 0):pagesF half at_ s x = (x,true):=by rw [pagesF,dif_pos h]
theorem pagesF_bad {half at_:Nat} {s:ByteArray} {x:Dk} (h:s.size ≠ 0) (h2:x.de = true ∨ ¬ 2 + half * roomF x.S.length / 128 + at_ / 128 < x.S.length):pagesF half at_ s x = (x,false):=by rw [pagesF,dif_neg h,if_pos h2]
theorem pagesF_go {half at_:Nat} {s:ByteArray} {x:Dk} (h:s.size ≠ 0) (h2:¬ (x.de = true ∨ ¬ 2 + half * roomF x.S.length / 128 + at_ / 128 < x.S.length)):pagesF half at_ s x =
  if (x.write ((2 + half * roomF x.S.length / 128 + at_ / 128:Nat):Int) (pageF (x.S.getD (2 + half * roomF x.S.length / 128 + at_ / 128) .empty) s (at_ % 128))).2 ≠ 0 then ((x.write ((2 + half * roomF x.S.length / 128 + at_ / 128:Nat):Int) (pageF (x.S.getD (2 + half * roomF x.S.length / 128 + at_ / 128) .empty) s (at_ % 128))).1,false)
  else pagesF half (at_ + min (128 - at_ % 128) s.size) (s.extract (min (128 - at_ % 128) s.size) s.size) (x.write ((2 + half * roomF x.S.length / 128 + at_ / 128:Nat):Int) (pageF (x.S.getD (2 + half * roomF x.S.length / 128 + at_ / 128) .empty) s (at_ % 128))).1:=by rw [pagesF,dif_neg h,if_neg h2]
theorem readD_dead {S:List ByteArray} {i:Int}:readD S true i = (.empty,2):=rfl
theorem readD_out {S:List ByteArray} {i:Nat} (h:¬ i < S.length):readD S false (i:Int) = (.empty,40):=by
 unfold readD
 rw [if_neg (by simp),if_neg (by omega)]
theorem bv_zB (n:Nat):bv (zB n) = List.replicate n (.int .u8 0):=by simp [bv,zB]
theorem pageF_size {old s:ByteArray} {a:Nat} (h:old.size = 128) (ha:a < 128):(pageF old s a).size = 128:=by
 simp only [pageF,ByteArray.size_append,ByteArray.size_extract,zB_size]
 omega
theorem page_one {old:ByteArray} {a:Nat} (h:old.size = 128) (ha:a < 128):ins (List.replicate 128 (Value.int .u8 0)) 0 (bv ((old.extract 0 a).extract 0 (min (old.extract 0 a).size 128))) = bv (old.extract 0 a ++ zB (128 - a)):=by
 have h1:(old.extract 0 a).size = a:=by rw [ByteArray.size_extract];omega
 have h2:(old.extract 0 a).extract 0 (min (old.extract 0 a).size 128) = old.extract 0 a:=by
  rw [Nat.min_eq_left (by omega)]
  exact ByteArray.extract_zero_size
 rw [h2,bv_app,bv_zB]
 unfold ins
 rw [bv_len,h1,List.take_zero,List.nil_append,List.drop_replicate]
 congr 2
 omega
theorem page_two {old s:ByteArray} {a:Nat} (h:old.size = 128) (ha:a < 128):ins (bv (old.extract 0 a ++ zB (128 - a))) a (bv (s.extract 0 (min s.size (128 - a)))) = bv (pageF old s a):=by
 have h1:(bv (old.extract 0 a)).length = a:=by rw [bv_len,ByteArray.size_extract];omega
 rw [Nat.min_comm]
 unfold pageF ins
 rw [bv_app,bv_app,bv_app,bv_zB,bv_zB,List.take_append_of_le_length (by omega),List.take_of_length_le (by omega),List.append_assoc,List.drop_append,List.drop_of_length_le (by omega),List.nil_append,List.drop_replicate,bv_len,ByteArray.size_extract,h1]
 congr 3
 omega
structure PgS where
 at_:Nat
 s:ByteArray
 x:Dk
 k:Nat
 D:List Blk
def WrR (wb db:Nat) (w:Wl) (h:Hd) (r:Dk × Bool) (k:Nat) (v:Value) (A:List Blk):Prop :=
 ∃ D,DkA db r.1 k D ∧ ((r.2 = true ∧ v = .int .i64 0 ∧ A = WlB wb db { w with h:=h } :: D) ∨ (r.2 = false ∧ v = .int .i64 2 ∧ A = WlB wb db { w with dead:=true } :: D))
theorem write_spec (B0:Base) (wb db:Nat) (w:Wl) (x0:Dk) (k0:Nat) (D0:List Blk) (hD0:DkA db x0 k0 D0) (at0:Nat) (s0:ByteArray) (h:Hd) (ok:HdOk h) (hh:h.half ≤ 1) (hat:at0 ≤ 1000000) (hs0:s0.size ≤ 1000000) (hk:k0 ≤ 800000000000) :
  ConB Tryz.prog B0 125 #[ptr wb,.int .i64 at0,.string s0,.agg h.row.toArray] (WlB wb db w :: D0) (WrR wb db w h (headF h (pagesF h.half at0 s0 x0)) (k0 + s0.size + 1)):=by
 refine ConX.calm (X:=fun _ _=>False) (ConX.intro (vs:=[_,_,_,_]) Tryz.func125 rfl Tryz.ntmps125 rfl (fun B hB=>?_)) (fun _ _ h=>h)
 repeat' (first|refine Ops.mkF rfl rfl rfl rfl rfl ?_|refine Cd.seq ?_|refine Cd.reg ?_|refine Ops.box rfl rfl rfl rfl (noPd rfl) (fun b=>?_)|refine Ops.alloc rfl rfl rfl (noPd rfl) (fun b=>?_))
 rename_i wx hx
 rename Nat=>eb
 refine Ops.dfr (fi:=[]) (ca:=[ptr eb,ptr wx,ptr hx]) (vs:=[]) rfl rfl rfl rfl ?_
 refine zg3 ?_
 refine Cd.loopK (σ:=PgS) (fun t=>DkA db t.x t.k t.D ∧ t.k + t.s.size ≤ k0 + s0.size ∧ t.s.size ≤ s0.size ∧ t.at_ + t.s.size ≤ at0 + s0.size ∧ pagesF h.half at0 s0 x0 = pagesF h.half t.at_ t.s t.x) (fun t=>[(1,.int .i64 t.at_),(2,.string t.s),(4,ptr wx),(7,ptr hx),(8,ptr eb)])
  (fun t=>(eb,cl [.int .i64 0] 29) :: (hx,cl h.row 148) :: (wx,cl [ptr wb] 92) :: WlB wb db w :: t.D) (fun t=>t.s.size) ⟨at0,s0,x0,k0,D0⟩ ⟨hD0,Nat.le_refl _,Nat.le_refl _,Nat.le_refl _,rfl⟩ ⟨rfl,rfl,rfl,rfl,rfl,trivial⟩ (fun w h=>h.split) (fun t ht=>?_)
 obtain ⟨at_,s,x,k,D⟩:=t
 obtain ⟨hD,hk2,hs2,ha2,hpg⟩:=ht
 dsimp only at hD hk2 hs2 ha2 hpg ⊢
 have hrl:=roomF_le x.S.length
 have hmul:∀ a b:Nat,(a:Int) * (b:Int) = ((a * b:Nat):Int):=fun a b=>by push_cast;rfl
 have hadd:∀ a b:Nat,(a:Int) + (b:Int) = ((a + b:Nat):Int):=fun a b=>by push_cast;rfl
 have hmod:(at_:Int).tmod 128 = ((at_ % 128:Nat):Int):=by rw [show (128:Int) = ((128:Nat):Int) from rfl,← Int.ofNat_tmod]
 have hhr:h.half * roomF x.S.length ≤ 65536:=by
  rcases Nat.le_one_iff_eq_zero_or_eq_one.1 hh with e|e <;> rw [e] <;> omega
 by_cases hlt:s.size = 0
 ·have hlt':¬ (0:Int) < s.size:=by omega
  rw [pagesF_end hlt] at hpg
  rw [hpg]
  have hwr:headF h (x,true) = ((x.write ((h.number % 2:Nat):Int) (sectorF h)).1,decide ((x.write ((h.number % 2:Nat):Int) (sectorF h)).2 = 0)):=if_pos rfl
  rw [hwr]
  have hnm:(h.number:Int).tmod 2 = ((h.number % 2:Nat):Int):=by rw [show (2:Int) = ((2:Nat):Int) from rfl,← Int.ofNat_tmod]
  refine zg12 ?_
  refine Cd.draw [(0,1,[]),(1,0,[]),(2,0,[]),(3,1,[]),(4,0,[]),(5,1,[]),(6,0,[]),(7,1,[]),(8,2,[0,3,5]),(9,2,[]),(10,0,[])] (by kernel_rfl) (by kernel_rfl) (by simp only [picked,nth];exact rfl) ?_
  refine zg2 ?_
  refine Ops.remI rfl rfl rfl rfl (by decide) rfl ?_
  rw [hnm]
  refine zg9 ?_
  refine Ops.call (sector_spec h ok) rfl zp1 rfl rfl rfl (fun v A' hR=>?_)
  obtain ⟨rfl,rfl⟩:=hR
  skip
  refine Ops.call (dwrite_k db x k D hD _ (sectorF h) (by omega)) rfl (noPd rfl) rfl rfl rfl (fun v A' hR=>?_)
  obtain ⟨rfl,hD2⟩:=hR
  have hD3:=hD2.more (k':=k0 + s0.size + 1) (by omega) (by omega)
  clear hD2
  generalize x.write ((h.number % 2:Nat):Int) (sectorF h) = r at hD3 ⊢
  obtain ⟨x2,er⟩:=r
  dsimp only at hD3 ⊢
  by_cases her:er = 0
  ·rw [decide_eq_true her]
   refine zg44 ?_
   refine Cd.ret (leaveD_ret (write1_ok B0 eb wx hx wb db 0 h w rfl) hB (fun u' A' hR=>?_))
   obtain ⟨rfl,rfl⟩:=hR
   exact .inl ⟨rfl,retX (ret1 (A':=WlB wb db { w with h:=h } :: _) rfl (Res.cell1 rfl rfl) (fun _ h=>h.split) ⟨_,hD3,.inl ⟨rfl,rfl,rfl⟩⟩)⟩
  ·rw [decide_eq_false her]
   refine zg42 ?_
   refine Cd.ret (leaveD_ret (write1_no B0 eb wx hx wb db 2 h w (by decide)) hB (fun u' A' hR=>?_))
   obtain ⟨rfl,rfl⟩:=hR
   exact .inl ⟨rfl,retX (ret1 (A':=WlB wb db { w with dead:=true } :: _) rfl (Res.cell1 rfl rfl) (fun _ h=>h.split) ⟨_,hD3,.inr ⟨rfl,rfl,rfl⟩⟩)⟩
 ·have hlt':(0:Int) < s.size:=by omega
  have hD9:=hD.more (k':=k0 + s0.size + 1) (by omega) (by omega)
  refine zg14 ?_
  refine Cd.draw [(0,0,[]),(1,1,[]),(2,1,[]),(3,0,[]),(4,0,[]),(5,1,[]),(10,0,[]),(11,0,[]),(6,2,[1]),(7,0,[]),(8,0,[]),(9,0,[]),(12,0,[]),(13,0,[])] (by kernel_rfl) (by kernel_rfl) (by simp only [picked,nth];exact rfl) ?_
  refine zg2 ?_
  refine Ops.quoI (b:=128) rfl rfl rfl rfl (by omega) (by decide) rfl ?_
  skip
  refine Ops.call (room_spec db x k D hD) rfl zp5 rfl rfl rfl (fun v A' hR=>?_)
  obtain ⟨rfl,e⟩:=hR
  subst A'
  refine zg39 ?_
  rw [hmul]
  refine Ops.quoI (b:=128) rfl rfl rfl rfl (by omega) (by decide) rfl ?_
  refine zg23 ?_
  rw [show (2:Int) + ((h.half * roomF x.S.length / 128:Nat):Int) + ((at_ / 128:Nat):Int) = ((2 + h.half * roomF x.S.length / 128 + at_ / 128:Nat):Int) from by push_cast;rfl]
  refine Ops.call (dread_spec db x.S x.ar x.bd x.de k D hD.a _) rfl (noPd rfl) rfl rfl rfl (fun v A' hR=>?_)
  obtain ⟨rfl,e⟩:=hR
  subst A'
  by_cases hbad:x.de = true ∨ ¬ 2 + h.half * roomF x.S.length / 128 + at_ / 128 < x.S.length
  ·rw [pagesF_bad hlt hbad] at hpg
   rw [hpg,show headF h (x,false) = (x,false) from if_neg (by simp)]
   obtain ⟨u,er,hrd,her⟩:∃ u er,readD x.S x.de ((2 + h.half * roomF x.S.length / 128 + at_ / 128:Nat):Int) = (u,er) ∧ er ≠ 0:=by
    rcases hb:x.de with _|_
    ·rcases hbad with h1|h1
     ·rw [hb] at h1;cases h1
     ·exact ⟨_,_,readD_out h1,by decide⟩
    ·exact ⟨_,_,readD_dead,by decide⟩
   rw [hrd]
   refine zg24 ?_
   refine Cd.ret (leaveD_ret (write1_no B0 eb wx hx wb db 2 h w (by decide)) hB (fun u' A' hR=>?_))
   obtain ⟨rfl,rfl⟩:=hR
   exact .inl ⟨rfl,retX (ret1 (A':=WlB wb db { w with dead:=true } :: D) rfl (Res.cell1 rfl rfl) (fun _ h=>h.split) ⟨_,hD9,.inr ⟨rfl,rfl,rfl⟩⟩)⟩
  have hgo:=pagesF_go hlt hbad
  obtain ⟨hde,hin⟩:x.de = false ∧ 2 + h.half * roomF x.S.length / 128 + at_ / 128 < x.S.length:=by
   refine ⟨?_,?_⟩
   ·cases hb:x.de with
    | false=>rfl
    | true=>exact absurd (.inl hb) hbad
   ·exact Decidable.byContradiction fun hc=>hbad (.inr hc)
  have hsec:(x.S.getD (2 + h.half * roomF x.S.length / 128 + at_ / 128) .empty).size = 128:=by
   obtain ⟨_,_,_,_,_,_,_,_,_,_,hs⟩:=hD.a
   rw [List.getD_eq_getElem?_getD,List.getElem?_eq_getElem hin]
   exact hs _ (List.getElem_mem _)
  rw [hde,readD_in1 hin,readD_in2 hin]
  generalize x.S.getD (2 + h.half * roomF x.S.length / 128 + at_ / 128) .empty = old at hsec hgo ⊢
  generalize 2 + h.half * roomF x.S.length / 128 + at_ / 128 = page at hgo hin ⊢
  have ham:at_ % 128 < 128:=Nat.mod_lt _ (by decide)
  refine zg13 ?_
  refine Ops.mk1 rfl rfl rfl rfl (by decide) (by decide) (by decide) rfl (noPd rfl) (fun g=>?_)
  rw [show ((128:Int)).toNat = 128 from rfl]
  refine zg0 ?_
  refine Ops.remI rfl rfl rfl rfl (by decide) rfl ?_
  rw [hmod]
  refine zg0 ?_
  refine Ops.slSHi rfl rfl rfl rfl (by omega) (by omega) rfl ?_
  rw [Int.toNat_natCast]
  refine Ops.cpS (L':=bv (old.extract 0 (at_ % 128) ++ zB (128 - at_ % 128))) rfl rfl rfl rfl (by simp only [List.length_replicate];omega) (page_one hsec ham) rfl (noPd rfl) ?_
  refine zg44 ?_
  have hsl:(if (128:Int).toNat = (((at_ % 128:Nat):Int)).toNat then some (⟨g,0,none⟩:Addr) else Option.map (fun x:Addr=>x.add ((((at_ % 128:Nat):Int)).toNat * 1)) (some (⟨g,0,none⟩:Addr))) = some ⟨g,at_ % 128,none⟩:=by
   rw [Int.toNat_natCast,if_neg (by show ¬ 128 = _;omega)]
   simp [Addr.add]
   omega
  rw [hsl,Int.toNat_natCast,show (128:Int).toNat = 128 from rfl]
  refine Ops.cpS (L':=bv (pageF old s (at_ % 128))) rfl rfl rfl rfl (by rw [bv_len,ByteArray.size_append,ByteArray.size_extract,zB_size];omega) (page_two hsec ham) rfl (noPd rfl) ?_
  refine zg0 ?_
  refine Cd.draw [(0,1,[]),(1,0,[]),(2,0,[]),(3,1,[]),(4,0,[]),(5,0,[]),(6,1,[]),(7,2,[]),(8,0,[])] (by kernel_rfl) (by kernel_rfl) (by simp only [picked,nth];exact rfl) ?_
  refine zg2 ?_
  refine Ops.cvSp (bs:=pageF old s (at_ % 128)) rfl rfl rfl (pageF_size hsec ham) (fun j u hu=>by rw [Nat.zero_add];exact hu) rfl ?_
  refine Ops.call (dwrite_k db x k D hD _ (pageF old s (at_ % 128)) (by omega)) rfl (noPd rfl) rfl rfl rfl (fun v A' hR=>?_)
  obtain ⟨rfl,hD2⟩:=hR
  generalize x.write (page:Int) (pageF old s (at_ % 128)) = r at hD2 hgo ⊢
  obtain ⟨x2,er⟩:=r
  dsimp only at hD2 hgo ⊢
  by_cases her:er = 0
  ·rw [if_neg (by simpa using her)] at hgo
   have hmm:min s.size (128 - at_ % 128) = min (128 - at_ % 128) s.size:=Nat.min_comm _ _
   have hmle:min (128 - at_ % 128) s.size ≤ s.size:=Nat.min_le_right _ _
   have hmpos:0 < min (128 - at_ % 128) s.size:=by omega
   rw [hmm]
   generalize min (128 - at_ % 128) s.size = m at hmle hmpos hgo ⊢
   have hsz2:(s.extract m s.size).size = s.size - m:=by rw [ByteArray.size_extract];omega
   refine zg12 ?_
   refine Ops.slSLo rfl rfl rfl rfl (by omega) (by omega) rfl ?_
   rw [Int.toNat_natCast]
   refine zg18 ?_
   rw [hadd]
   exact Ops.nilN (inB (round_end (⟨at_ + m,s.extract m s.size,x2,k + 1,_⟩:PgS) ⟨hD2,by show k + 1 + (s.extract m s.size).size ≤ _;omega,by show (s.extract m s.size).size ≤ _;omega,by show at_ + m + (s.extract m s.size).size ≤ _;omega,by rw [hpg,hgo]⟩ (by show (s.extract m s.size).size < s.size;omega) ⟨rfl,rfl,rfl,rfl,rfl,trivial⟩ (fun w h=>h.split)))
  ·rw [if_pos (by simpa using her)] at hgo
   rw [hpg,hgo,show headF h (x2,false) = (x2,false) from if_neg (by simp)]
   have hD3:=hD2.more (k':=k0 + s0.size + 1) (by omega) (by omega)
   refine zg42 ?_
   refine Cd.ret (leaveD_ret (write1_no B0 eb wx hx wb db 2 h w (by decide)) hB (fun u' A' hR=>?_))
   obtain ⟨rfl,rfl⟩:=hR
   exact .inl ⟨rfl,retX (ret1 (A':=WlB wb db { w with dead:=true } :: _) rfl (Res.cell1 rfl rfl) (fun _ h=>h.split) ⟨_,hD3,.inr ⟨rfl,rfl,rfl⟩⟩)⟩
end Go.Proofs.YtaecdnfkcebbeaaGreat
