import Derived.Test.YtaecdnfkcebbeaaGreatA01
import Derived.Test.YtaecdnfkcebbeaaGreatA16
set_option linter.unusedVariables false
set_option linter.unusedSimpArgs false
namespace Go.Proofs.YtaecdnfkcebbeaaGreat
open Go Go.Sep Go.Proofs
set_option maxRecDepth 10000
set_option maxHeartbeats 40000000
set_option synthInstance.maxSize 2000
theorem roomF_form {n:Nat} (h:roomF n ≠ 0):∃ hf,1 ≤ hf ∧ hf ≤ 512 ∧ n = 2 + 2 * hf ∧ roomF n = hf * 128:=by
 unfold roomF at h ⊢
 split at h
 ·exact absurd rfl h
 ·rename_i hc
  rw [if_neg hc]
  exact ⟨(n - 2) / 2,by omega,by omega,by omega,rfl⟩
theorem half_at {half hf:Nat} (h:half ≤ 1):half * (hf * 128) / 128 = half * hf:=by
 rcases Nat.le_one_iff_eq_zero_or_eq_one.1 h with rfl|rfl <;> omega
theorem readD_in {S:List ByteArray} {i:Nat} (h:i < S.length):readD S false (i:Int) = (S.getD i .empty,0):=by
 unfold readD
 rw [if_neg (by simp),if_pos ⟨by omega,by omega⟩,Int.toNat_natCast]
structure BtS where
 i:Nat
 E:List Blk
theorem bytes_spec (db:Nat) (x:Dk) (k:Nat) (D:List Blk) (hD:DkA db x k D) (half n:Nat) (hde:x.de = false) (hh:half ≤ 1) (hr:n ≤ roomF x.S.length):Con Tryz.prog 193 #[ptr db,.int .i64 half,.int .i64 n] D fun v A=>v = .string (bytesF x.S half n) ∧ A = D:=by
 have hrl:=roomF_le x.S.length
 have hA:=hD.a
 have hlast:∀ i,i < (n + 127) / 128 → 2 + half * roomF x.S.length / 128 + i < x.S.length:=fun i hi=>by
  obtain ⟨hf,h1,h2,h3,h4⟩:=roomF_form (n:=x.S.length) (by omega)
  rw [h4,half_at hh]
  rw [h4] at hr
  rcases Nat.le_one_iff_eq_zero_or_eq_one.1 hh with rfl|rfl <;> omega
 have hs:∀ s ∈ x.S,s.size = 128:=by obtain ⟨_,_,_,_,_,_,_,_,_,_,h⟩:=hA;exact h
 have hsz:(catS x.S (2 + half * roomF x.S.length / 128) ((n + 127) / 128)).size = (n + 127) / 128 * 128:=by
  by_cases h0:(n + 127) / 128 = 0
  ·rw [h0];rfl
  ·exact catS_size hs _ (by have:=hlast ((n + 127) / 128 - 1) (by omega);omega)
 have hcs:∀ i,i ≤ (n + 127) / 128 → (catS x.S (2 + half * roomF x.S.length / 128) i).size = i * 128:=fun i hi=>by
  by_cases h0:i = 0
  ·rw [h0];rfl
  ·exact catS_size hs _ (by have:=hlast (i - 1) (by omega);omega)
 refine Con.intro (vs:=[_,_,_]) Tryz.func193 rfl Tryz.ntmps193 rfl (fun B=>?_)
 repeat' (first|refine Cd.seq ?_|refine Cd.reg ?_|refine Ops.mv rfl rfl rfl rfl ?_|refine Ops.asg rfl rfl rfl rfl ?_|refine Ops.alloc rfl rfl rfl (noPd rfl) (fun b=>?_))
 rename Nat=>bb
 refine Ops.call (room_spec db x k D hD) rfl (noPd rfl) rfl rfl rfl (fun v A' hR=>?_)
 obtain ⟨rfl,e⟩:=hR
 subst A'
 have hhr:(half:Int) * (roomF x.S.length:Nat) = ((half * roomF x.S.length:Nat):Int):=by push_cast;rfl
 have hhr2:half * roomF x.S.length ≤ 65536:=by
  rcases Nat.le_one_iff_eq_zero_or_eq_one.1 hh with rfl|rfl <;> omega
 refine zg39 ?_
 rw [hhr]
 refine Ops.quoI (b:=128) rfl rfl rfl rfl (by omega) (by decide) rfl ?_
 refine zg23 ?_
 rw [show (2:Int) + ((half * roomF x.S.length / 128:Nat):Int) = ((2 + half * roomF x.S.length / 128:Nat):Int) from by push_cast;rfl]
 generalize hF:2 + half * roomF x.S.length / 128 = first at hlast hsz hcs ⊢
 refine Cd.loopK (σ:=BtS) (fun s=>s.i ≤ (n + 127) / 128 ∧ BuA bb (catS x.S first s.i) s.E) (fun s=>[(0,ptr db),(2,.int .i64 n),(7,ptr bb),(8,.int .i64 first),(9,.int .i64 s.i)]) (fun s=>s.E ++ D) (fun s=>(n + 127) / 128 - s.i) ⟨0,[_]⟩ ⟨Nat.zero_le _,_,_,[],rfl,.inl rfl,BG.none⟩ ⟨rfl,rfl,rfl,rfl,rfl,trivial⟩ (fun w h=>h.split) (fun s hs2=>?_)
 obtain ⟨i,E⟩:=s
 obtain ⟨hi,hE⟩:=hs2
 dsimp only at hi hE ⊢
 by_cases hlt:i * 128 < n
 ·have hlt':(i:Int) * 128 < n:=by omega
  have hin:=hlast i (by omega)
  refine zg33 ?_
  refine Ops.call (dread_spec db x.S x.ar x.bd x.de k D hA _) rfl (noPd rfl) rfl rfl rfl (fun v A' hR=>?_)
  obtain ⟨rfl,e⟩:=hR
  subst A'
  rw [hde,show (first:Int) + (i:Int) = ((first + i:Nat):Int) from by push_cast;rfl,readD_in hin]
  refine zg5 ?_
  refine Ops.call (bwrite_spec bb (catS x.S first i) (x.S.getD (first + i) .empty) _ hE ?_) rfl (noPd rfl) rfl rfl rfl (fun v A' hR=>?_)
  ·have h1:=hcs (i + 1) (by omega)
   rw [catS,ByteArray.size_append] at h1
   omega
  refine zg18 ?_
  exact Ops.nilN (round_end (⟨i + 1,_⟩:BtS) ⟨by show i + 1 ≤ _;omega,hR⟩ (by show (n + 127) / 128 - (i + 1) < (n + 127) / 128 - i;omega) ⟨rfl,rfl,rfl,rfl,rfl,trivial⟩ (fun w h=>h.split))
 ·have hlt':¬ (i:Int) * 128 < n:=by omega
  have he:i = (n + 127) / 128:=by omega
  have hc9:=hcs i (by omega)
  refine zg44 ?_
  refine Ops.call (bstring_spec bb (catS x.S first i) _ hE (by omega)) rfl (noPd rfl) rfl rfl rfl (fun v A' hR=>?_)
  obtain ⟨rfl,hD2⟩:=hR
  refine zg0 ?_
  refine Ops.slSHi rfl rfl rfl rfl (by omega) (by omega) rfl ?_
  refine zg1 ?_
  exact Cd.ret (ret1 (A':=D) rfl (Res.tmp rfl) (fun _ h=>h.split) ⟨by rw [bytesF,hF,Int.toNat_natCast,he],rfl⟩)
@[reducible] def trow (t:ByteArray):List Value:=[.string t]
theorem trows_ok (ts:List ByteArray):RowsOk 1 (ts.map trow):=rows_map (f:=trow) (fun _=>⟨rfl,rfl⟩) ts
def OwnT (sv:Value) (ts:List ByteArray) (G:List Blk):Prop:=Own 9 1 sv (ts.map trow) G
def RsT (sv:Value) (ts:List ByteArray) (G:List Blk):Prop:=Rs 9 1 sv (ts.map trow) G
theorem OwnT.rs {sv:Value} {ts:List ByteArray} {G:List Blk} (h:OwnT sv ts G):RsT sv ts G:=Own.rs h
theorem OwnT.form {sv:Value} {ts:List ByteArray} {G:List Blk} (h:OwnT sv ts G):∃ a c,sv = .slice a ts.length c:=by
 obtain ⟨a,c,h⟩:=Own.form h
 exact ⟨a,c,by rw [h,List.length_map]⟩
theorem RsT.form {sv:Value} {ts:List ByteArray} {G:List Blk} (h:RsT sv ts G):∃ a c,sv = .slice a ts.length c:=by
 obtain ⟨a,c,h⟩:=Rs.form h
 exact ⟨a,c,by rw [h,List.length_map]⟩
theorem RsT.none:RsT (.slice none 0 0) [] []:=⟨RowsOk.nil,.inl ⟨rfl,rfl,rfl⟩⟩
theorem OwnT.cut {a:Option Addr} {n c m:Nat} {ts:List ByteArray} {G:List Blk} (h:OwnT (.slice a n c) ts G) (hm:m = ts.length):n ≤ c ∧ RsT (.slice a n m) ts G:=by
 subst hm
 rcases h.2 with ⟨h1,h2,h3⟩|⟨g,c',sp,h1,h2,h3,h4⟩
 ·injection h1 with h1 h4 h5
  subst h1;subst h4;subst h5
  have h2':ts = []:=by simpa using h2
  subst h2'
  exact ⟨Nat.le_refl _,h.1,.inl ⟨rfl,h2,h3⟩⟩
 ·injection h1 with h1 h5 h6
  subst h1;subst h5;subst h6
  exact ⟨h4,h.1,.inr ⟨g,ts.length,sp,rfl,h2⟩⟩
structure FrS where
 p:Nat
 l:List ByteArray
 sv:Value
 G:List Blk
theorem framesG_end {s:ByteArray} {p:Nat} (h:¬ p < s.size):framesG s p = some []:=by rw [framesG,dif_neg h]
theorem framesG_bad {s:ByteArray} {p:Nat} (h:p < s.size) (h2:(rdText s 2048 p 0).2.2 ≠ 0 ∨ (rdText s 2048 p 0).1.size = 0):framesG s p = none:=by rw [framesG,dif_pos h,if_pos h2]
theorem numGo_gt {b:ByteArray} {most:Nat} {over:Int}:∀ (k i p acc:Nat) {n q:Nat},numGo b most over k i p acc = .good n q → p < q
 | 0,_,_,_,n,q,h=>by cases h
 | k + 1,i,p,acc,n,q,h=>by
  unfold numGo at h
  split at h
  ·cases h
  ·split at h
   ·have:=numGo_gt k _ _ _ h;omega
   ·split at h
    ·cases h
    ·split at h
     ·cases h
     ·injection h with h1 h2;omega
theorem rdText_gt {b:ByteArray} {most p:Nat} (h:(rdText b most p 0).2.2 = 0) (h2:∀ er,numR b most 23 p = .bad er → er ≠ 0):p < (rdText b most p 0).2.1:=by
 rw [rdText,if_neg (by simp)] at h ⊢
 unfold txR at h ⊢
 cases hn:numR b most 23 p with
 | bad er=>rw [hn] at h;exact absurd h (h2 er hn)
 | good n q =>
  have:=numGo_gt _ _ _ _ hn
  rw [hn] at h
  dsimp only at h ⊢
  by_cases hq:q + n ≤ b.size
  ·rw [if_pos hq];dsimp only;omega
  ·rw [if_neg hq] at h;cases h
theorem numGo_er {b:ByteArray} {most:Nat} {over:Int} (ho:over ≠ 0):∀ (k i p acc:Nat) {er:Int},numGo b most over k i p acc = .bad er → er ≠ 0
 | 0,_,_,_,er,h=>by injection h with h;omega
 | k + 1,i,p,acc,er,h=>by
  unfold numGo at h
  split at h
  ·injection h with h;omega
  ·split at h
   ·exact numGo_er ho k _ _ _ h
   ·split at h
    ·injection h with h;omega
    ·split at h
     ·injection h with h;omega
     ·cases h
theorem framesG_go {s:ByteArray} {p:Nat} (h:p < s.size) (h2:(rdText s 2048 p 0).2.2 = 0) (h3:(rdText s 2048 p 0).1.size ≠ 0):p < (rdText s 2048 p 0).2.1 ∧ framesG s p = (framesG s (rdText s 2048 p 0).2.1).map ((rdText s 2048 p 0).1 :: ·):=by
 have hg:=rdText_gt h2 (fun er he=>numGo_er (by decide) _ _ _ _ he)
 refine ⟨hg,?_⟩
 rw [framesG,dif_pos h,if_neg (by rintro (h|h);exact h h2;exact h3 h),dif_pos hg]
theorem frames_spec (B0:Base) (s:ByteArray) (hs:s.size ≤ 1000000):ConB Tryz.prog B0 194 #[.string s] [] fun v A =>
  (framesG s 0 = none ∧ v = .tuple #[.slice none 0 0,.bool false] ∧ A = []) ∨ (∃ l sv G,framesG s 0 = some l ∧ v = .tuple #[sv,.bool true] ∧ A = G ∧ RsT sv l G):=by
 refine ConB.intro (vs:=[_]) Tryz.func194 rfl Tryz.ntmps194 rfl (fun B hB=>?_)
 refine zg0 ?_
 refine Ops.call (read_spec s) rfl (noPd rfl) rfl rfl rfl (fun v A' hR=>?_)
 obtain ⟨rb,rfl,rfl⟩:=hR
 refine zg3 ?_
 refine Cd.loopK (σ:=FrS) (fun t=>t.p ≤ s.size ∧ t.l.length ≤ t.p ∧ framesG s 0 = (framesG s t.p).map (t.l ++ ·) ∧ OwnT t.sv t.l t.G) (fun t=>[(4,t.sv),(5,ptr rb)]) (fun t=>RdB rb s t.p 0 :: t.G) (fun t=>s.size - t.p) ⟨0,[],.slice none 0 0,[]⟩ ⟨Nat.zero_le _,Nat.le_refl _,by cases framesG s 0 <;> rfl,Own.none⟩ ⟨rfl,rfl,trivial⟩ (fun w h=>h.split) (fun t ht=>?_)
 obtain ⟨p,l,sv,G⟩:=t
 obtain ⟨hp,hlp,hfr,hO⟩:=ht
 dsimp only at hp hlp hfr hO ⊢
 obtain ⟨a,c,rfl⟩:=hO.form
 by_cases hlt:p < s.size
 ·have hlt':(0:Int) < (s.size:Int) - (p:Int):=by omega
  refine zg0 ?_
  refine Ops.call (left_spec rb s p 0 hp hs) rfl (noPd rfl) rfl rfl rfl (fun v A' hR=>?_)
  obtain ⟨rfl,rfl⟩:=hR
  refine zg14 ?_
  refine Ops.callB (rtext_spec B0 rb s p 2048 0 hp hs (by decide)) hB rfl (noPd rfl) rfl rfl rfl (fun v A' hR=>?_)
  obtain ⟨rfl,rfl⟩:=hR
  refine zg0 ?_
  refine Ops.call (fault_spec rb s (rdText s 2048 p 0).2.1 (rdText s 2048 p 0).2.2) rfl (noPd rfl) rfl rfl rfl (fun v A' hR=>?_)
  obtain ⟨rfl,rfl⟩:=hR
  have hg:=framesG_go (s:=s) (p:=p) hlt
  have hb:=framesG_bad (s:=s) (p:=p) hlt
  have hat:=rdText_at (b:=s) (most:=2048) (e:=0) hp
  generalize rdText s 2048 p 0 = r at hg hb hat ⊢
  obtain ⟨x,q,e⟩:=r
  dsimp only at hg hb hat ⊢
  by_cases he:e = 0
  ·subst he
   rw [show faultF q 0 = (0,0) from if_pos rfl]
   by_cases hx:x = ⟨#[]⟩
   ·subst hx
    have hb:=hb (.inr rfl)
    refine zg19 ?_
    exact ze21
   ·have hne:x.size ≠ 0:=fun h=>hx (ByteArray.size_eq_zero_iff.1 h)
    obtain ⟨h1,h2⟩:=hg rfl hne
    repeat' (first|refine Cd.seq ?_|refine Cd.reg ?_|refine Ops.nil ?_|refine Ops.mv rfl rfl rfl rfl ?_|refine Ops.asg rfl rfl rfl rfl ?_|refine Ops.bin rfl rfl rfl rfl rfl ?_|refine Ops.pickF rfl rfl rfl rfl rfl ?_|refine Ops.ext rfl rfl rfl rfl rfl ?_|refine Ops.bs1 rfl rfl rfl rfl rfl rfl rfl (noPd rfl) (fun b=>?_)|refine Cd.skip (Cd.next ?_)|refine Cd.condF rfl zp0 ?_)
    have hll:(l.map trow).length = l.length:=List.length_map _
    refine Ops.app1 (rows:=l.map trow) hO (by rw [hll];omega) (by rw [hll];omega) rfl rfl rfl rfl (by rfl) (by rfl) rfl (noPd rfl) rfl (fun v G' hG'=>?_)
    have hG2:OwnT v (l ++ [x]) G':=by unfold OwnT;rw [List.map_append];exact hG'
    clear hG'
    refine zg1 ?_
    exact Ops.nilN (inB (round_end (⟨q,l ++ [x],v,G'⟩:FrS) ⟨hat,by show (l ++ [x]).length ≤ q;rw [List.length_append,List.length_singleton];omega,by show _ = (framesG s q).map ((l ++ [x]) ++ ·);rw [hfr,h2];cases framesG s q <;> simp,hG2⟩ (by show s.size - q < s.size - p;omega) ⟨rfl,rfl,trivial⟩ (fun w h=>h.split)))
  ·rw [show faultF q e = (e,(q:Int)) from if_neg he]
   have hb:=hb (.inl he)
   refine zg20 ?_
   exact ze21
 ·have hlt':¬ (0:Int) < (s.size:Int) - (p:Int):=by omega
  obtain ⟨hc1,hc2⟩:=hO.cut rfl
  refine zg0 ?_
  refine Ops.call (left_spec rb s p 0 hp hs) rfl (noPd rfl) rfl rfl rfl (fun v A' hR=>?_)
  obtain ⟨rfl,rfl⟩:=hR
  refine zg12 ?_
  refine Ops.slHM rfl rfl rfl rfl rfl (by omega) (by omega) (by omega) rfl ?_
  rw [Int.toNat_natCast]
  refine zg1 ?_
  exact Cd.ret (ret2 (A':=G) rfl (Res.tmp rfl) (Res.tmp rfl) (fun _ h=>h.split) (.inr ⟨l,_,G,by rw [hfr,framesG_end hlt];simp,rfl,rfl,hc2⟩))
theorem foundF_bad1 {S:List ByteArray} {at_:Nat} (h:ofF ((S.getD at_ .empty).extract 0 8) < 1 ∨ 1099511627776 < ofF ((S.getD at_ .empty).extract 0 8) ∨ ofF ((S.getD at_ .empty).extract 0 8) % 2 ≠ (at_:Int) ∨ 1 < bat (S.getD at_ .empty) 8):foundF S at_ = none:=by
 unfold foundF
 exact if_pos h
theorem foundF_bad2 {S:List ByteArray} {at_:Nat} (h:¬ (ofF ((S.getD at_ .empty).extract 0 8) < 1 ∨ 1099511627776 < ofF ((S.getD at_ .empty).extract 0 8) ∨ ofF ((S.getD at_ .empty).extract 0 8) % 2 ≠ (at_:Int) ∨ 1 < bat (S.getD at_ .empty) 8))
  (h2:sectorF ⟨(ofF ((S.getD at_ .empty).extract 0 8)).toNat,bat (S.getD at_ .empty) 8,rdN (S.getD at_ .empty) 9 13,rdN (S.getD at_ .empty) 13 17⟩ ≠ S.getD at_ .empty ∨ 17000 < rdN (S.getD at_ .empty) 9 13 ∨ roomF S.length < rdN (S.getD at_ .empty) 9 13 + rdN (S.getD at_ .empty) 13 17):foundF S at_ = none:=by
 unfold foundF
 exact (if_neg h).trans (if_pos h2)
theorem foundF_go {S:List ByteArray} {at_:Nat} (h:¬ (ofF ((S.getD at_ .empty).extract 0 8) < 1 ∨ 1099511627776 < ofF ((S.getD at_ .empty).extract 0 8) ∨ ofF ((S.getD at_ .empty).extract 0 8) % 2 ≠ (at_:Int) ∨ 1 < bat (S.getD at_ .empty) 8))
  (h2:¬ (sectorF ⟨(ofF ((S.getD at_ .empty).extract 0 8)).toNat,bat (S.getD at_ .empty) 8,rdN (S.getD at_ .empty) 9 13,rdN (S.getD at_ .empty) 13 17⟩ ≠ S.getD at_ .empty ∨ 17000 < rdN (S.getD at_ .empty) 9 13 ∨ roomF S.length < rdN (S.getD at_ .empty) 9 13 + rdN (S.getD at_ .empty) 13 17)) :
  foundF S at_ = (framesG ((bytesF S (bat (S.getD at_ .empty) 8) (rdN (S.getD at_ .empty) 9 13 + rdN (S.getD at_ .empty) 13 17)).extract (rdN (S.getD at_ .empty) 9 13) (rdN (S.getD at_ .empty) 9 13 + rdN (S.getD at_ .empty) 13 17)) 0).map fun l=>(⟨(ofF ((S.getD at_ .empty).extract 0 8)).toNat,bat (S.getD at_ .empty) 8,rdN (S.getD at_ .empty) 9 13,rdN (S.getD at_ .empty) 13 17⟩,(bytesF S (bat (S.getD at_ .empty) 8) (rdN (S.getD at_ .empty) 9 13 + rdN (S.getD at_ .empty) 13 17)).extract 0 (rdN (S.getD at_ .empty) 9 13),l):=by
 unfold foundF
 exact (if_neg h).trans (if_neg h2)
theorem rdN_lt (s:ByteArray) (i:Nat):rdN s i (i + 4) < 4294967296:=by
 unfold rdN
 rw [show i + 4 - i = 4 from by omega]
 exact ofn_lt _ 4
theorem readD_in1 {S:List ByteArray} {i:Nat} (h:i < S.length):(readD S false (i:Int)).1 = S.getD i .empty:=by rw [readD_in h]
theorem readD_in2 {S:List ByteArray} {i:Nat} (h:i < S.length):(readD S false (i:Int)).2 = 0:=by rw [readD_in h]
theorem bytesF_size {S:List ByteArray} (hs:∀ s ∈ S,s.size = 128) {half n:Nat} (hh:half ≤ 1) (hr:n ≤ roomF S.length):(bytesF S half n).size = n:=by
 have hsz:(catS S (2 + half * roomF S.length / 128) ((n + 127) / 128)).size = (n + 127) / 128 * 128:=by
  by_cases h0:(n + 127) / 128 = 0
  ·rw [h0];rfl
  ·refine catS_size hs _ ?_
   obtain ⟨hf,h1,h2,h3,h4⟩:=roomF_form (n:=S.length) (by omega)
   rw [h4,half_at hh]
   rw [h4] at hr
   rcases Nat.le_one_iff_eq_zero_or_eq_one.1 hh with rfl|rfl <;> omega
 rw [bytesF,ByteArray.size_extract]
 omega
def FoundR (o:Option (Hd × ByteArray × List ByteArray)) (D:List Blk) (v:Value) (A:List Blk):Prop :=
 (o = none ∧ ∃ (n0 n1 n2 n3:Int) (s:ByteArray),v = .tuple #[.agg [.int .i64 n0,.int .i64 n1,.int .i64 n2,.int .i64 n3].toArray,.string s,.slice none 0 0,.bool false] ∧ A = D) ∨
 (∃ h s l sv G,o = some (h,s,l) ∧ v = .tuple #[.agg h.row.toArray,.string s,sv,.bool true] ∧ A = G ++ D ∧ RsT sv l G)
theorem found_spec (B0:Base) (db:Nat) (x:Dk) (k:Nat) (D:List Blk) (hD:DkA db x k D) (at_:Nat) (hde:x.de = false) (hat:at_ ≤ 1) (hrm:roomF x.S.length ≠ 0):ConB Tryz.prog B0 118 #[ptr db,.int .i64 at_] D (FoundR (foundF x.S at_) D):=by
 have hrl:=roomF_le x.S.length
 have hA:=hD.a
 have hin:at_ < x.S.length:=by
  obtain ⟨hf,h1,h2,h3,h4⟩:=roomF_form hrm
  omega
 have hs:∀ s ∈ x.S,s.size = 128:=by obtain ⟨_,_,_,_,_,_,_,_,_,_,h⟩:=hA;exact h
 obtain ⟨s,hx⟩:∃ s,s = x.S.getD at_ .empty:=⟨_,rfl⟩
 have hsz:s.size = 128:=by
  rw [hx,List.getD_eq_getElem?_getD,List.getElem?_eq_getElem hin]
  exact hs _ (List.getElem_mem _)
 have hf9:ofF (s.extract 9 13) = (rdN s 9 13:Nat):=by rw [of_four (by rw [ByteArray.size_extract];omega),ByteArray.size_extract,hsz];rfl
 have hf13:ofF (s.extract 13 17) = (rdN s 13 17:Nat):=by rw [of_four (by rw [ByteArray.size_extract];omega),ByteArray.size_extract,hsz];rfl
 have h8:s[(8:Int).toNat]? = some (s[8]'(by omega)):=getElem?_pos s 8 (by omega)
 have hb8:((s[8]'(by omega)).toNat) = bat s 8:=(bat_some (getElem?_pos s 8 (by omega))).symm
 have hbl:=bat_lt s 8
 have hw8:IntKind.wrap .i64 (((s[8]'(by omega)).toNat:Nat):Int) = ((bat s 8:Nat):Int):=by rw [hb8];simp [IntKind.wrap,IntKind.bits,IntKind.signed];omega
 have hn9:rdN s 9 13 < 4294967296:=rdN_lt s 9
 have hn13:rdN s 13 17 < 4294967296:=rdN_lt s 13
 refine ConB.intro (vs:=[_,_]) Tryz.func118 rfl Tryz.ntmps118 rfl (fun B hB=>?_)
 generalize hc2:Code.seq (Code.region 2 _ _) _ = c2
 repeat' (first|refine Cd.seq ?_|refine Cd.reg ?_|refine Ops.mv rfl rfl rfl rfl ?_|refine Ops.asg rfl rfl rfl rfl ?_|refine Ops.alloc rfl rfl rfl (noPd rfl) (fun b=>?_))
 rename Nat=>b4
 refine Ops.call (dread_spec db x.S x.ar x.bd x.de k D hA _) rfl (noPd rfl) rfl rfl rfl (fun v A' hR=>?_)
 obtain ⟨rfl,e⟩:=hR
 subst A'
 rw [hde,readD_in1 hin,readD_in2 hin,← hx]
 refine zg5 ?_
 subst hc2
 refine Cd.cut (σ:=Nat) (fun _=>True) (fun hb=>[(0,ptr db),(1,.int .i64 at_),(4,ptr b4),(5,.string ⟨#[]⟩),(6,.slice none 0 0),(7,.bool false),(8,.string s),(10,ptr hb)])
  (fun hb=>(hb,cl [.int .i64 (ofF (s.extract 0 8)),.int .i64 (bat s 8:Nat),.int .i64 (rdN s 9 13:Nat),.int .i64 (rdN s 13 17:Nat)] 148) :: (b4,cl [.int .i64 0,.int .i64 0,.int .i64 0,.int .i64 0] 148) :: D) ?_ (fun hb _=>?_)
 ·refine Cd.draw [(0,0,[]),(1,0,[]),(3,0,[]),(4,0,[]),(5,0,[]),(6,0,[]),(7,0,[]),(9,0,[]),(10,0,[]),(2,4,[]),(8,4,[]),(11,4,[]),(12,0,[]),(13,2,[]),(14,2,[])] (by kernel_rfl) (by kernel_rfl) (by simp only [picked,nth];exact rfl) ?_
  refine zg0 ?_
  refine Ops.slSHi rfl rfl rfl rfl (by omega) (by omega) rfl ?_
  rw [show ((8:Int)).toNat = 8 from rfl]
  refine zg0 ?_
  refine Ops.ixS rfl rfl rfl rfl (by decide) h8 rfl ?_
  refine Ops.cvI rfl rfl rfl rfl ?_
  rw [hw8]
  refine zg0 ?_
  refine Ops.slS rfl rfl rfl rfl rfl (by omega) (by omega) (by omega) rfl ?_
  refine zg0 ?_
  refine Ops.slS rfl rfl rfl rfl rfl (by omega) (by omega) (by omega) rfl ?_
  rw [show ((9:Int)).toNat = 9 from rfl,show ((13:Int)).toNat = 13 from rfl,show ((17:Int)).toNat = 17 from rfl]
  skip
  refine Ops.fork' [(0,0,[]),(1,0,[]),(3,0,[]),(4,0,[]),(5,0,[]),(6,0,[]),(7,0,[]),(9,0,[]),(10,0,[]),(13,4,[]),(2,2,[]),(8,2,[]),(11,2,[]),(12,0,[]),(14,2,[])] (by kernel_rfl) rfl (by simp only [picked,nth];exact rfl) ?_ ?_
  ·skip
   refine Ops.call (of_spec (s.extract 0 8) (by rw [ByteArray.size_extract];omega)) rfl (noPd rfl) rfl rfl rfl (fun v A' hR=>?_)
   obtain ⟨rfl,rfl⟩:=hR
   skip
   refine Ops.fork' [(0,0,[]),(1,0,[]),(3,0,[]),(4,0,[]),(5,0,[]),(6,0,[]),(7,0,[]),(9,0,[]),(10,0,[]),(2,4,[]),(13,4,[]),(8,2,[]),(11,2,[]),(12,0,[]),(14,2,[])] (by kernel_rfl) rfl (by simp only [picked,nth];exact rfl) ?_ ?_
   ·skip
    refine Ops.call (of_spec (s.extract 9 13) (by rw [ByteArray.size_extract];omega)) rfl (noPd rfl) rfl rfl rfl (fun v A' hR=>?_)
    obtain ⟨rfl,rfl⟩:=hR
    skip
    refine Ops.fork' [(0,0,[]),(1,0,[]),(3,0,[]),(4,0,[]),(5,0,[]),(6,0,[]),(7,0,[]),(9,0,[]),(10,0,[]),(2,4,[]),(8,4,[]),(13,4,[]),(11,2,[]),(12,0,[]),(14,2,[])] (by kernel_rfl) rfl (by simp only [picked,nth];exact rfl) ?_ ?_
    ·skip
     refine Ops.call (of_spec (s.extract 13 17) (by rw [ByteArray.size_extract];omega)) rfl (noPd rfl) rfl rfl rfl (fun v A' hR=>?_)
     obtain ⟨rfl,rfl⟩:=hR
     repeat' (first|refine Ops.bld rfl rfl rfl rfl ?_|refine Ops.alloc rfl rfl rfl zp3 (fun b=>?_)|refine Ops.stN rfl rfl rfl rfl rfl rfl zp4 ?_)
     rename Nat=>hb
     skip
     rw [hf9,hf13]
     exact ze22
    ·repeat' (first|refine Ops.alloc rfl rfl rfl zp3 (fun b=>?_))
     rename Nat=>hb
     skip
     refine Ops.call (of_spec (s.extract 13 17) (by rw [ByteArray.size_extract];omega)) rfl (noPd rfl) rfl rfl rfl (fun v A' hR=>?_)
     obtain ⟨rfl,rfl⟩:=hR
     refine zg34 ?_
     rw [hf9,hf13]
     exact ze22
   ·repeat' (first|refine Ops.alloc rfl rfl rfl zp3 (fun b=>?_))
    rename Nat=>hb
    skip
    refine Ops.call (of_spec (s.extract 9 13) (by rw [ByteArray.size_extract];omega)) rfl (noPd rfl) rfl rfl rfl (fun v A' hR=>?_)
    obtain ⟨rfl,rfl⟩:=hR
    skip
    refine Ops.call (of_spec (s.extract 13 17) (by rw [ByteArray.size_extract];omega)) rfl (noPd rfl) rfl rfl rfl (fun v A' hR=>?_)
    obtain ⟨rfl,rfl⟩:=hR
    refine zg34 ?_
    rw [hf9,hf13]
    exact ze22
  ·repeat' (first|refine Ops.alloc rfl rfl rfl zp3 (fun b=>?_))
   rename Nat=>hb
   skip
   refine Ops.call (of_spec (s.extract 0 8) (by rw [ByteArray.size_extract];omega)) rfl (noPd rfl) rfl rfl rfl (fun v A' hR=>?_)
   obtain ⟨rfl,rfl⟩:=hR
   skip
   refine Ops.call (of_spec (s.extract 9 13) (by rw [ByteArray.size_extract];omega)) rfl (noPd rfl) rfl rfl rfl (fun v A' hR=>?_)
   obtain ⟨rfl,rfl⟩:=hR
   skip
   refine Ops.call (of_spec (s.extract 13 17) (by rw [ByteArray.size_extract];omega)) rfl (noPd rfl) rfl rfl rfl (fun v A' hR=>?_)
   obtain ⟨rfl,rfl⟩:=hR
   refine zg34 ?_
   rw [hf9,hf13]
   exact ze22
 ·have hw:∀ a b:Nat,(a:Int) + (b:Int) = ((a + b:Nat):Int):=fun a b=>by push_cast;rfl
  obtain ⟨nm,hnm⟩:∃ n,n = ofF (s.extract 0 8):=⟨_,rfl⟩
  obtain ⟨bt,hbt⟩:∃ n,n = bat s 8:=⟨_,rfl⟩
  obtain ⟨sn,hsn⟩:∃ n,n = rdN s 9 13:=⟨_,rfl⟩
  obtain ⟨lg,hlg⟩:∃ n,n = rdN s 13 17:=⟨_,rfl⟩
  obtain ⟨rm,hrme⟩:∃ n,n = roomF x.S.length:=⟨_,rfl⟩
  have hbad1:=foundF_bad1 (S:=x.S) (at_:=at_)
  have hbad2:=foundF_bad2 (S:=x.S) (at_:=at_)
  have hgo0:=foundF_go (S:=x.S) (at_:=at_)
  rw [← hx,← hnm,← hbt] at hbad1
  rw [← hx,← hnm,← hbt,← hsn,← hlg,← hrme] at hbad2 hgo0
  rw [← hsn] at hn9
  rw [← hlg] at hn13
  rw [← hbt] at hbl
  rw [← hnm,← hbt,← hsn,← hlg]
  rw [← hrme] at hrl
  clear hf9 hf13 h8 hb8 hw8
  refine zg0 ?_
  refine Cd.draw [(0,0,[]),(1,1,[]),(2,0,[]),(3,0,[]),(4,0,[]),(5,1,[]),(6,0,[]),(7,0,[]),(8,0,[]),(9,0,[]),(10,1,[]),(11,0,[]),(12,0,[]),(13,0,[]),(14,0,[]),(15,0,[]),(16,0,[]),(17,1,[]),(18,0,[]),(19,0,[]),(20,0,[]),(21,1,[]),(23,0,[]),(22,2,[]),(24,0,[]),(25,0,[]),(26,0,[]),(27,0,[]),(28,1,[]),(29,0,[]),(30,0,[]),(31,0,[]),(32,0,[]),(33,1,[]),(34,0,[]),(35,1,[]),(36,0,[]),(37,0,[]),(38,2,[33,35]),(39,0,[]),(40,0,[])] (by kernel_rfl) (by kernel_rfl) (by simp only [picked,nth];exact rfl) ?_
  by_cases c1:nm < 1
  ·skip
   refine zg22 ?_
   exact Cd.ret (ret4 (A':=D) rfl (Res.cellN rfl) (Res.tmp rfl) (Res.tmp rfl) (Res.tmp rfl) (fun _ h=>h.split) (.inl ⟨hbad1 (.inl c1),0,0,0,0,_,rfl,rfl⟩))
  obtain ⟨N,hN⟩:∃ N:Nat,nm = N:=⟨_,(Int.toNat_of_nonneg (by omega)).symm⟩
  subst hN
  have em:(N:Int).tmod 2 = ((N % 2:Nat):Int):=by
   rw [show (2:Int) = ((2:Nat):Int) from rfl,← Int.ofNat_tmod]
  rw [Int.toNat_natCast] at hbad2 hgo0
  by_cases c2:1099511627776 < (N:Int)
  ·skip
   refine zg22 ?_
   exact Cd.ret (ret4 (A':=D) rfl (Res.cellN rfl) (Res.tmp rfl) (Res.tmp rfl) (Res.tmp rfl) (fun _ h=>h.split) (.inl ⟨hbad1 (.inr (.inl c2)),0,0,0,0,_,rfl,rfl⟩))
  by_cases c3:N % 2 = at_
  case neg =>
   have c3':¬ ((N % 2:Nat):Int) = at_:=by omega
   refine zg11 ?_
   refine Ops.remI rfl rfl rfl rfl (by decide) rfl ?_
   rw [em]
   refine zg22 ?_
   exact Cd.ret (ret4 (A':=D) rfl (Res.cellN rfl) (Res.tmp rfl) (Res.tmp rfl) (Res.tmp rfl) (fun _ h=>h.split) (.inl ⟨hbad1 (.inr (.inr (.inl (by omega)))),0,0,0,0,_,rfl,rfl⟩))
  have c3':((N % 2:Nat):Int) = at_:=by omega
  by_cases c4:1 < bt
  ·have c4':(1:Int) < (bt:Nat):=by omega
   refine zg11 ?_
   refine Ops.remI rfl rfl rfl rfl (by decide) rfl ?_
   rw [em]
   refine zg22 ?_
   exact Cd.ret (ret4 (A':=D) rfl (Res.cellN rfl) (Res.tmp rfl) (Res.tmp rfl) (Res.tmp rfl) (fun _ h=>h.split) (.inl ⟨hbad1 (.inr (.inr (.inr c4))),0,0,0,0,_,rfl,rfl⟩))
  have c4':¬ (1:Int) < (bt:Nat):=by omega
  have hbad2:=hbad2 (by omega)
  have hgo0:=hgo0 (by omega)
  obtain ⟨se,hse⟩:∃ se,se = sectorF ⟨N,bt,sn,lg⟩:=⟨_,rfl⟩
  rw [← hse] at hbad2 hgo0
  by_cases c5:se = s
  case neg =>
   refine zg11 ?_
   refine Ops.remI rfl rfl rfl rfl (by decide) rfl ?_
   rw [em]
   refine zg11 ?_
   refine Ops.call (sector_spec ⟨N,bt,sn,lg⟩ ⟨by show N < _;omega,by show bt < _;omega,by show sn < _;omega,by show lg < _;omega⟩) rfl (noPd rfl) rfl rfl rfl (fun v A' hR=>?_)
   obtain ⟨rfl,rfl⟩:=hR
   rw [← hse]
   refine zg22 ?_
   exact Cd.ret (ret4 (A':=D) rfl (Res.cellN rfl) (Res.tmp rfl) (Res.tmp rfl) (Res.tmp rfl) (fun _ h=>h.split) (.inl ⟨hbad2 (.inl c5),0,0,0,0,_,rfl,rfl⟩))
  by_cases c6:17000 < sn
  ·have c6':(17000:Int) < (sn:Nat):=by omega
   refine zg11 ?_
   refine Ops.remI rfl rfl rfl rfl (by decide) rfl ?_
   rw [em]
   refine zg11 ?_
   refine Ops.call (sector_spec ⟨N,bt,sn,lg⟩ ⟨by show N < _;omega,by show bt < _;omega,by show sn < _;omega,by show lg < _;omega⟩) rfl (noPd rfl) rfl rfl rfl (fun v A' hR=>?_)
   obtain ⟨rfl,rfl⟩:=hR
   rw [← hse]
   refine zg22 ?_
   exact Cd.ret (ret4 (A':=D) rfl (Res.cellN rfl) (Res.tmp rfl) (Res.tmp rfl) (Res.tmp rfl) (fun _ h=>h.split) (.inl ⟨hbad2 (.inr (.inl c6)),0,0,0,0,_,rfl,rfl⟩))
  have c6':¬ (17000:Int) < (sn:Nat):=by omega
  by_cases c7:rm < sn + lg
  ·have c7':((rm:Nat):Int) < (sn:Nat) + (lg:Nat):=by omega
   refine zg11 ?_
   refine Ops.remI rfl rfl rfl rfl (by decide) rfl ?_
   rw [em]
   refine zg11 ?_
   refine Ops.call (sector_spec ⟨N,bt,sn,lg⟩ ⟨by show N < _;omega,by show bt < _;omega,by show sn < _;omega,by show lg < _;omega⟩) rfl (noPd rfl) rfl rfl rfl (fun v A' hR=>?_)
   obtain ⟨rfl,rfl⟩:=hR
   rw [← hse]
   refine zg30 ?_
   refine Ops.call (room_spec db x k D hD) rfl zp5 rfl rfl rfl (fun v A' hR=>?_)
   obtain ⟨rfl,e⟩:=hR
   subst A'
   rw [← hrme]
   refine zg42 ?_
   exact Cd.ret (ret4 (A':=D) rfl (Res.cellN rfl) (Res.tmp rfl) (Res.tmp rfl) (Res.tmp rfl) (fun _ h=>h.split) (.inl ⟨hbad2 (.inr (.inr c7)),0,0,0,0,_,rfl,rfl⟩))
  have c7':¬ ((rm:Nat):Int) < (sn:Nat) + (lg:Nat):=by omega
  have hgo:=hgo0 (by rintro (h|h|h);exact h c5;exact c6 h;exact c7 h)
  have hbz:=bytesF_size hs (half:=bt) (n:=sn + lg) (by omega) (by omega)
  refine zg11 ?_
  refine Ops.remI rfl rfl rfl rfl (by decide) rfl ?_
  rw [em]
  refine zg11 ?_
  refine Ops.call (sector_spec ⟨N,bt,sn,lg⟩ ⟨by show N < _;omega,by show bt < _;omega,by show sn < _;omega,by show lg < _;omega⟩) rfl (noPd rfl) rfl rfl rfl (fun v A' hR=>?_)
  obtain ⟨rfl,rfl⟩:=hR
  rw [← hse]
  refine zg30 ?_
  refine Ops.call (room_spec db x k D hD) rfl zp5 rfl rfl rfl (fun v A' hR=>?_)
  obtain ⟨rfl,e⟩:=hR
  subst A'
  rw [← hrme]
  refine zg27 ?_
  rw [hw]
  refine Ops.call (bytes_spec db x k D hD bt (sn + lg) hde (by omega) (by omega)) rfl (noPd rfl) rfl rfl rfl (fun v A' hR=>?_)
  obtain ⟨rfl,e⟩:=hR
  subst A'
  generalize bytesF x.S bt (sn + lg) = b at hgo hbz ⊢
  refine zg4 ?_
  refine Ops.slSLo rfl rfl rfl rfl (by omega) (by omega) rfl ?_
  rw [Int.toNat_natCast,hbz]
  refine Ops.callB (frames_spec B0 (b.extract sn (sn + lg)) (by rw [ByteArray.size_extract];omega)) hB rfl (noPd rfl) rfl rfl rfl (fun v A' hR=>?_)
  rcases hR with ⟨hfr,rfl,rfl⟩|⟨l,sv,G,hfr,rfl,e,hsv⟩
  ·rw [hfr] at hgo
   refine zg5 ?_
   refine Cd.draw [(0,1,[]),(1,0,[]),(2,0,[]),(3,1,[]),(4,0,[]),(5,0,[]),(6,0,[]),(7,2,[3]),(8,0,[]),(9,0,[]),(10,0,[])] (by kernel_rfl) (by kernel_rfl) (by simp only [picked,nth];exact rfl) ?_
   refine zg9 ?_
   refine Ops.slSHi rfl rfl rfl rfl (by omega) (by omega) rfl ?_
   refine zg34 ?_
   exact Cd.ret (ret4 (A':=D) rfl (Res.cellN rfl) (Res.tmp rfl) (Res.tmp rfl) (Res.tmp rfl) (fun _ h=>h.split) (.inl ⟨hgo,_,_,_,_,_,rfl,rfl⟩))
  ·rw [hfr] at hgo
   subst A'
   refine zg5 ?_
   refine Cd.draw [(0,1,[]),(1,0,[]),(2,0,[]),(3,1,[]),(4,0,[]),(5,0,[]),(6,0,[]),(7,2,[3]),(8,0,[]),(9,0,[]),(10,0,[])] (by kernel_rfl) (by kernel_rfl) (by simp only [picked,nth];exact rfl) ?_
   refine zg9 ?_
   refine Ops.slSHi rfl rfl rfl rfl (by omega) (by omega) rfl ?_
   refine zg34 ?_
   exact Cd.ret (ret4 (A':=G ++ D) rfl (Res.cellN rfl) (Res.tmp rfl) (Res.tmp rfl) (Res.tmp rfl) (fun _ h=>h.split) (.inr ⟨_,_,l,sv,G,hgo,rfl,rfl,hsv⟩))
end Go.Proofs.YtaecdnfkcebbeaaGreat
