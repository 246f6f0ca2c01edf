import Derived.Test.YtaecdnfkcebbeaaGreatA01
import Derived.Test.YtaecdnfkcebbeaaGreatA28
import Derived.Test.YtaecdnfkcebbeaaGreatA22
import Derived.Test.YtaecdnfkcebbeaaGreatA19
import Derived.Test.YtaecdnfkcebbeaaGreatA16
set_option linter.unusedVariables false
set_option linter.unusedSimpArgs false
namespace Go.Proofs.YtaecdnfkcebbeaaGreat
open Go Go.Sep Go.Proofs
set_option maxRecDepth 10000
set_option maxHeartbeats 40000000
set_option synthInstance.maxSize 2000
theorem snum_spec (n:Int) (h0:0 ≤ n) (h1:n < 9223372036854775808):Con Tryz.prog 127 #[.int .i64 n] [] fun v A=>v = .string (numB n.toNat) ∧ A = []:=by
  obtain ⟨m,rfl⟩:∃ m:Nat,n = m:=⟨n.toNat,by omega⟩
  refine Con.intro (vs:=[_]) Tryz.func127 rfl Tryz.ntmps127 rfl (fun B=>?_)
  refine zg0 ?_
  refine Ops.cvI rfl rfl rfl rfl ?_
  rw [wrap_u64 (by omega),Int.toNat_natCast]
  refine Ops.call (num_spec m (by omega)) rfl (noPd rfl) rfl rfl rfl (fun v A' hR=>?_)
  obtain ⟨rfl,rfl⟩:=hR
  refine zg1 ?_
  exact ze8
structure ByS where
  i:Nat
  D:List Blk
@[reducible] def nRows (r:Rw):List (List Value):=[[.int .i64 r.status],[.int .i64 r.att],[.int .i64 r.badge],[.int .i64 r.node],[.int .i64 r.life],[.int .i64 r.rcode]]
theorem nRows_ok (r:Rw):RowsOk 1 (nRows r):=rows_map (f:=fun n:Int=>[Value.int .i64 n]) (fun _=>⟨rfl,rfl⟩) (rowN r)
theorem nRows_at {r:Rw} {j:Nat} {n:Int} (h:(rowN r)[j]? = some n):(nRows r)[j]? = some [.int .i64 n]:=by
  rw [show nRows r = (rowN r).map fun n:Int=>[Value.int .i64 n] from rfl,List.getElem?_map,h];rfl
theorem rowN_bd {r:Rw} (h:RwBd r) {j:Nat} {n:Int} (hj:(rowN r)[j]? = some n):0 ≤ n ∧ n ≤ 1099511627776:=by
  obtain ⟨⟨a1,a2⟩,⟨b1,b2⟩,⟨c1,c2⟩,⟨d1,d2⟩,⟨e1,e2⟩,⟨f1,f2⟩,_⟩:=h
  have:=List.mem_of_getElem? hj
  simp only [rowN,List.mem_cons,List.not_mem_nil,or_false] at this
  omega
theorem sbytes_spec (B0:Base) (sb:Nat) (s:StP) (hS:StIn B0 sb s) (ok:StOk s) (bd:StBd s):ConB Tryz.prog B0 81 #[ptr sb] [] fun v A=>v = .string (bytesS s) ∧ A = []:=by
  obtain ⟨qb,ra,rc,pa,pc,la,lc,ls,h1,h2,h3,h4,h5,h6⟩:=hS
  obtain ⟨o1,o2,o3,o4,o5,o6,o7⟩:=id ok
  have hq2:Holds B0 [QuB qb s.att (.slice ra s.rows.length rc)]:=h1.sub fun p hp=>List.mem_cons_of_mem _ hp
  have hall:=catR_le bd (by omega)
  refine ConB.intro (vs:=[_]) Tryz.func81 rfl Tryz.ntmps81 rfl (fun B hB=>?_)
  have hQ:=hB.holds h1
  have hc0:∀ A,Rd B.plain A sb 0 (ptr qb):=hQ.cell (List.mem_cons_self ..) rfl
  have hc1:∀ A,Rd B.plain A sb 1 (.int .i64 s.res):=hQ.cell (List.mem_cons_self ..) rfl
  have hc2:∀ A,Rd B.plain A sb 2 (.slice pa s.progs.length pc):=hQ.cell (List.mem_cons_self ..) rfl
  have hc3:∀ A,Rd B.plain A sb 3 (.slice la s.logs.length lc):=hQ.cell (List.mem_cons_self ..) rfl
  repeat' (first|refine Cd.seq ?_|refine Cd.reg ?_|refine Ops.asg rfl rfl rfl rfl ?_|refine Ops.alloc rfl rfl rfl (noPd rfl) (fun b=>?_))
  rename Nat=>bb
  have hD0:BuA bb .empty [BuB bb none (.slice none 0 0)]:=⟨none,_,[],rfl,.inl rfl,BG.none⟩
  refine Cd.draw [(0,0,[]),(1,0,[]),(2,0,[]),(3,1,[]),(5,0,[]),(6,0,[]),(7,0,[]),(8,1,[]),(9,1,[]),(4,2,[8,9]),(10,2,[]),(11,0,[]),(12,2,[])] (by kernel_rfl) (by kernel_rfl) (by simp only [picked,nth];exact rfl) ?_
  refine zg2 ?_
  refine Ops.ldR rfl rfl rfl (hc1 _) rfl ?_
  refine zg2 ?_
  refine Ops.ldR rfl rfl rfl (hc2 _) rfl ?_
  refine zg3 ?_
  refine Ops.call (snum_spec s.res bd.rs.1 (by have:=bd.rs.2;omega)) rfl zp1 rfl rfl rfl (fun v A' hR=>?_)
  obtain ⟨rfl,rfl⟩:=hR
  skip
  refine Ops.call (snum_spec ((s.progs.length:Nat):Int) (by omega) (by omega)) rfl zp1 rfl rfl rfl (fun v A' hR=>?_)
  obtain ⟨rfl,rfl⟩:=hR
  rw [Int.toNat_natCast]
  have hz0:=hall 0
  have hh0:headP s = numB s.res.toNat ++ numB s.progs.length:=rfl
  have hcat0:(numB s.res.toNat).size + (numB s.progs.length).size ≤ 4000000:=by
    rw [catR,headP,ByteArray.size_append] at hz0;omega
  refine Ops.cat rfl rfl rfl rfl (by omega) rfl ?_
  rw [← hh0]
  refine Ops.call (bwrite_spec bb .empty (headP s) _ hD0 (by rw [hh0,ByteArray.size_append];show 0 + _ ≤ _;omega)) rfl (noPd rfl) rfl rfl rfl (fun v A' hR=>?_)
  rw [ByteArray.empty_append] at hR
  rename List Blk=>D1
  refine zg4 ?_
  refine Ops.ldR rfl rfl rfl (hc0 _) rfl ?_
  refine Ops.callB (rows_spec B0 qb s.att ra rc s.rows hq2 h2 (by omega)) hB rfl (noPd rfl) rfl rfl rfl (fun v A' hR2=>?_)
  obtain ⟨r2,rfl,hrs⟩:=hR2
  rename List Blk=>RG
  refine zg3 ?_
  refine Cd.loopK (σ:=ByS) (fun t=>t.i ≤ s.rows.length ∧ BuA bb (catR s t.i) t.D) (fun t=>[(0,ptr sb),(3,ptr bb),(28,.slice r2 s.rows.length s.rows.length),(29,.int .i64 s.rows.length),(30,.int .i64 ((t.i:Nat):Int))]) (fun t=>t.D ++ RG) (fun t=>s.rows.length - t.i) ⟨0,D1⟩ ⟨Nat.zero_le _,hR⟩ ⟨rfl,rfl,rfl,rfl,rfl,trivial⟩ (fun w h=>h.split) (fun t ht=>?_)
  obtain ⟨i,D⟩:=t
  obtain ⟨hi,hD⟩:=ht
  dsimp only at hi hD ⊢
  by_cases hlt:i < s.rows.length
  case neg =>
    have hlt':¬ ((i:Nat):Int) < ((s.rows.length:Nat):Int):=by omega
    have he:i = s.rows.length:=by omega
    subst he
    refine zg12 ?_
    refine Ops.call (bstring_spec bb (catR s s.rows.length) D hD (by have:=hall s.rows.length;have:s.rows.length * 2107 ≤ 8 * 2107:=Nat.mul_le_mul_right _ o3;omega)) rfl (noPd rfl) rfl rfl rfl (fun v A' hR=>?_)
    obtain ⟨rfl,_⟩:=hR
    refine zg1 ?_
    exact ze8
  have hlt':((i:Nat):Int) < ((s.rows.length:Nat):Int):=by omega
  obtain ⟨r,hr⟩:∃ r,s.rows[i]? = some r:=⟨_,List.getElem?_eq_getElem hlt⟩
  obtain ⟨p,hp⟩:∃ p,s.progs[i]? = some p:=⟨_,List.getElem?_eq_getElem (by omega)⟩
  have hil:i < ls.length:=by
    have:ls.length = s.logs.length:=(by rw [← h6,List.length_map]);omega
  obtain ⟨x,hx⟩:∃ x,ls[i]? = some x:=⟨_,List.getElem?_eq_getElem hil⟩
  obtain ⟨xa,xc,xt,XG⟩:=x
  have hlg:s.logs[i]? = some xt:=by rw [← h6,List.getElem?_map,hx];rfl
  obtain ⟨t1,t2⟩:=bd.tz xt (List.mem_of_getElem? hlg)
  have hpz:=bd.pz p (List.mem_of_getElem? hp)
  have hrb:=bd.rb r (List.mem_of_getElem? hr)
  have hcn:catR s (i + 1) = catR s i ++ rowP r p xt:=by rw [catR,hr,hp,hlg]
  have hzi:=hall i
  have hi8:i * 2107 ≤ 8 * 2107:=Nat.mul_le_mul_right _ (by omega)
  obtain ⟨rg,rc2,rsp,hsv,hRG⟩:∃ g c sp,Value.slice r2 s.rows.length s.rows.length = .slice (some ⟨g,0,none⟩) s.rows.length c ∧ RG = [(g,cl ((s.rows.map Rw.row).flatten ++ sp) 98)]:=by
    rcases hrs.2 with ⟨q,_,_⟩|⟨g,c,sp,q1,q2⟩
    · injection q with _ q _;omega
    · exact ⟨g,c,sp,by rw [q1,List.length_map],q2⟩
  subst hRG
  injection hsv with q1 _ _
  subst q1
  have hokR:=rws_ok s.rows
  have hri:(s.rows.map Rw.row)[((i:Nat):Int).toNat]? = some r.row:=by rw [Int.toNat_natCast];exact rget hr
  obtain ⟨pb,poff,hpa,hpr0⟩:=(h3.ext hB) i (trow p) (by rw [List.getElem?_map,hp];rfl)
  subst hpa
  have hpr:∀ A,Rd B.plain A pb (poff + ((i:Nat):Int).toNat * 1) (.string p):=fun A=>by rw [Int.toNat_natCast];exact hpr0 A 0 _ rfl
  obtain ⟨lb,loff,hla,hlr0⟩:=(h4.ext hB) i (⟨xa,xc,xt,XG⟩:Lg).row (by rw [List.getElem?_map,hx];rfl)
  subst hla
  have hlr:∀ A,Rd B.plain A lb (loff + ((i:Nat):Int).toNat * 1) (.slice xa xt.length xc):=fun A=>by rw [Int.toNat_natCast];exact hlr0 A 0 _ rfl
  have hip':((i:Nat):Int) < ((s.progs.length:Nat):Int):=by omega
  have hil':((i:Nat):Int) < ((s.logs.length:Nat):Int):=by omega
  repeat' (first|refine Cd.seq ?_|refine Cd.reg ?_|refine Ops.mv rfl rfl rfl rfl ?_|refine Ops.asg rfl rfl rfl rfl ?_|refine Ops.fa0 rfl rfl rfl rfl ?_|refine Ops.fa rfl rfl rfl rfl ?_|refine Ops.ld1 rfl rfl rfl rfl rfl ?_|refine Ops.bin rfl rfl rfl rfl rfl ?_|refine Ops.alloc rfl rfl rfl (noPd rfl) (fun b=>?_)|refine Ops.stN rfl rfl rfl rfl rfl rfl (noPd rfl) ?_|refine Cd.block ?_|refine Cd.skip (Cd.next ?_)|refine Ops.ixa0 rfl rfl rfl rfl (by omega) (by omega) rfl ?_|refine Ops.ldRow rfl rfl rfl (by assumption) (by assumption) rfl ?_|refine Cd.condT rfl zp0 ?_)
  rename Nat=>rw_
  refine Ops.bsN (nRows r) rfl rfl rfl rfl rfl rfl rfl rfl rfl rfl (noPd rfl) (fun nb=>?_)
  refine zg3 ?_
  refine Cd.loopK (σ:=ByS) (fun t=>t.i ≤ 6 ∧ BuA bb (catR s i ++ catN (rowN r) t.i) t.D) (fun t=>[(0,ptr sb),(3,ptr bb),(4,.int .i64 ((i:Nat):Int)),(5,ptr rw_),(28,.slice (some ⟨rg,0,none⟩) s.rows.length s.rows.length),(29,.int .i64 s.rows.length),(30,.int .i64 ((i:Nat):Int)),(50,.slice (some ⟨nb,0,none⟩) 6 6),(51,.int .i64 6),(52,.int .i64 ((t.i:Nat):Int))]) (fun t=>(nb,cl ((nRows r).flatten ++ []) 3) :: (rw_,cl r.row 98) :: (rg,cl ((s.rows.map Rw.row).flatten ++ rsp) 98) :: t.D) (fun t=>6 - t.i) ⟨0,D⟩ ⟨Nat.zero_le _,by show BuA bb (catR s i ++ ⟨#[]⟩) D;rw [show (⟨#[]⟩:ByteArray) = .empty from rfl,ByteArray.append_empty];exact hD⟩ ⟨rfl,rfl,rfl,rfl,rfl,rfl,rfl,rfl,rfl,rfl,trivial⟩ (fun w h=>h.split) (fun t ht=>?_)
  obtain ⟨j,E⟩:=t
  obtain ⟨hj,hE⟩:=ht
  dsimp only at hj hE ⊢
  have hzj:=catN_le hrb j hj
  by_cases hjl:j < 6
  · have hjl':((j:Nat):Int) < 6:=by omega
    obtain ⟨n,hn⟩:∃ n,(rowN r)[j]? = some n:=⟨_,List.getElem?_eq_getElem (by simpa [rowN] using hjl)⟩
    obtain ⟨n0,n1⟩:=rowN_bd hrb hn
    have hokN:=nRows_ok r
    have hnr:(nRows r)[((j:Nat):Int).toNat]? = some [.int .i64 n]:=by rw [Int.toNat_natCast];exact nRows_at hn
    have hz2:=numB_size (n:=n.toNat) (by omega)
    have hcj:catN (rowN r) (j + 1) = catN (rowN r) j ++ numB n.toNat:=by rw [catN,hn]
    refine zg35 ?_
    refine Ops.call (snum_spec n n0 (by omega)) rfl (noPd rfl) rfl rfl rfl (fun v A' hR=>?_)
    obtain ⟨rfl,rfl⟩:=hR
    skip
    refine Ops.call (bwrite_spec bb (catR s i ++ catN (rowN r) j) (numB n.toNat) E hE (by rw [ByteArray.size_append];omega)) rfl (noPd rfl) rfl rfl rfl (fun v A' hR=>?_)
    rw [ByteArray.append_assoc,← hcj] at hR
    refine zg18 ?_
    exact Ops.nilN (round_end (⟨j + 1,A'⟩:ByS) ⟨by show j + 1 ≤ 6;omega,hR⟩ (by show 6 - (j + 1) < 6 - j;omega) ⟨rfl,rfl,rfl,rfl,rfl,rfl,rfl,rfl,rfl,rfl,trivial⟩ (fun w h=>h.split))
  have hjl':¬ ((j:Nat):Int) < 6:=by omega
  have hj6:j = 6:=by omega
  subst hj6
  have hm:=midP_le (r:=r) (n:=xt.length) hpz t1
  have hm2:midP r p xt.length = (hiB r.rbits.toNat 8 ++ frameF p) ++ numB xt.length:=rfl
  have hm3:(hiB r.rbits.toNat 8).size + (frameF p).size ≤ 4000000 ∧ (hiB r.rbits.toNat 8 ++ frameF p).size + (numB xt.length).size ≤ 4000000:=by
    rw [hm2,ByteArray.size_append] at hm
    rw [ByteArray.size_append] at hm ⊢
    omega
  generalize hc11:Code.seq (Code.region 11 _ _) _ = c11
  refine zg13 ?_
  subst hc11
  refine Cd.cut (σ:=List Blk) (fun E1=>BuA bb (catR s i ++ (catN (rowN r) 6 ++ midP r p xt.length)) E1) (fun _=>[(0,ptr sb),(3,ptr bb),(4,.int .i64 ((i:Nat):Int)),(28,.slice (some ⟨rg,0,none⟩) s.rows.length s.rows.length),(29,.int .i64 s.rows.length),(30,.int .i64 ((i:Nat):Int))]) (fun E1=>(rg,cl ((s.rows.map Rw.row).flatten ++ rsp) 98) :: E1) ?_ (fun E1 hE1=>?_)
  · refine Cd.draw [(0,0,[]),(1,0,[]),(2,1,[]),(4,0,[]),(5,0,[]),(6,0,[]),(7,1,[]),(8,0,[]),(9,0,[]),(10,1,[]),(13,0,[]),(14,0,[]),(15,0,[]),(16,1,[]),(17,0,[]),(18,0,[]),(19,1,[]),(20,1,[]),(3,2,[7,10,16,19,20]),(11,2,[16,19,20]),(12,0,[]),(21,2,[]),(22,0,[]),(23,2,[])] (by kernel_rfl) (by kernel_rfl) (by simp only [picked,nth];exact rfl) ?_
    refine zg2 ?_
    refine Ops.ldR rfl rfl rfl (hc2 _) rfl ?_
    refine zg38 ?_
    refine Ops.ldR rfl rfl rfl (hpr _) rfl ?_
    refine zg2 ?_
    refine Ops.ldR rfl rfl rfl (hc3 _) rfl ?_
    refine zg38 ?_
    refine Ops.ldR rfl rfl rfl (hlr _) rfl ?_
    refine zg3 ?_
    obtain ⟨xb,hxb⟩:∃ n:Nat,r.rbits = n:=⟨r.rbits.toNat,by have:=hrb.rx;omega⟩
    rw [hxb] at hm2 hm3 ⊢
    rw [Int.toNat_natCast] at hm2 hm3
    refine Ops.call (bits_spec xb (by have:=hrb.rx;omega)) rfl zp1 rfl rfl rfl (fun v A' hR=>?_)
    obtain ⟨rfl,rfl⟩:=hR
    skip
    refine Ops.call (text_spec p (by omega)) rfl zp1 rfl rfl rfl (fun v A' hR=>?_)
    obtain ⟨rfl,rfl⟩:=hR
    rw [show numB p.size ++ p = frameF p from rfl]
    refine Ops.cat rfl rfl rfl rfl (by omega) rfl ?_
    skip
    refine Ops.call (snum_spec ((xt.length:Nat):Int) (by omega) (by omega)) rfl (noPd rfl) rfl rfl rfl (fun v A' hR=>?_)
    obtain ⟨rfl,rfl⟩:=hR
    rw [Int.toNat_natCast]
    refine Ops.cat rfl rfl rfl rfl (by omega) rfl ?_
    rw [← hm2]
    refine Ops.call (bwrite_spec bb (catR s i ++ catN (rowN r) 6) (midP r p xt.length) E hE (by rw [ByteArray.size_append];omega)) rfl (noPd rfl) rfl rfl rfl (fun v A' hR=>?_)
    rw [ByteArray.append_assoc] at hR
    skip
    exact Ops.nilN (meet_end (Q:=fun _ _ _=>True) A' hR ⟨rfl,rfl,rfl,rfl,rfl,rfl,trivial⟩ (fun w h=>h.split))
  have hzm:(catR s i ++ (catN (rowN r) 6 ++ midP r p xt.length)).size ≤ 20000:=by
    rw [ByteArray.size_append,ByteArray.size_append];omega
  generalize hbase:catR s i ++ (catN (rowN r) 6 ++ midP r p xt.length) = base at hE1 hzm
  refine zg4 ?_
  refine Ops.ldR rfl rfl rfl (hc3 _) rfl ?_
  refine zg38 ?_
  refine Ops.ldR rfl rfl rfl (hlr _) rfl ?_
  refine zg3 ?_
  refine Cd.loopK (σ:=ByS) (fun t=>t.i ≤ xt.length ∧ BuA bb (base ++ catT xt t.i) t.D) (fun t=>[(0,ptr sb),(3,ptr bb),(28,.slice (some ⟨rg,0,none⟩) s.rows.length s.rows.length),(29,.int .i64 s.rows.length),(30,.int .i64 ((i:Nat):Int)),(90,.slice xa xt.length xc),(91,.int .i64 xt.length),(92,.int .i64 ((t.i:Nat):Int))]) (fun t=>(rg,cl ((s.rows.map Rw.row).flatten ++ rsp) 98) :: t.D) (fun t=>xt.length - t.i) ⟨0,E1⟩ ⟨Nat.zero_le _,by show BuA bb (base ++ ⟨#[]⟩) E1;rw [show (⟨#[]⟩:ByteArray) = .empty from rfl,ByteArray.append_empty];exact hE1⟩ ⟨rfl,rfl,rfl,rfl,rfl,rfl,rfl,rfl,trivial⟩ (fun w h=>h.split) (fun t ht=>?_)
  obtain ⟨k,F⟩:=t
  obtain ⟨hk,hF⟩:=ht
  dsimp only at hk hF ⊢
  have hzk:=catT_le t2 k
  have hk33:k * 33 ≤ 32 * 33:=Nat.mul_le_mul_right _ (by omega)
  by_cases hkl:k < xt.length
  · have hkl':((k:Nat):Int) < ((xt.length:Nat):Int):=by omega
    obtain ⟨u,hu⟩:∃ u,xt[k]? = some u:=⟨_,List.getElem?_eq_getElem hkl⟩
    have huz:=t2 u (List.mem_of_getElem? hu)
    have hfz:=(frameF_le (t:=u) (by omega)).2 huz
    have hck:catT xt (k + 1) = catT xt k ++ frameF u:=by rw [catT,hu]
    obtain ⟨ub,uoff,hxa,hur0⟩:=((h5 _ (List.mem_of_getElem? hx)).ext hB) k (trow u) (by rw [List.getElem?_map,hu];rfl)
    have hur:∀ A,Rd B.plain A ub (uoff + ((k:Nat):Int).toNat * 1) (.string u):=fun A=>by rw [Int.toNat_natCast];exact hur0 A 0 _ rfl
    subst hxa
    refine zg24 ?_
    refine Ops.ldR rfl rfl rfl (hur _) rfl ?_
    refine zg0 ?_
    refine Ops.call (text_spec u (by omega)) rfl (noPd rfl) rfl rfl rfl (fun v A' hR=>?_)
    obtain ⟨rfl,rfl⟩:=hR
    rw [show numB u.size ++ u = frameF u from rfl]
    skip
    refine Ops.call (bwrite_spec bb (base ++ catT xt k) (frameF u) F hF (by rw [ByteArray.size_append];omega)) rfl (noPd rfl) rfl rfl rfl (fun v A' hR=>?_)
    rw [ByteArray.append_assoc,← hck] at hR
    refine zg18 ?_
    exact Ops.nilN (round_end (⟨k + 1,A'⟩:ByS) ⟨by show k + 1 ≤ xt.length;omega,hR⟩ (by show xt.length - (k + 1) < xt.length - k;omega) ⟨rfl,rfl,rfl,rfl,rfl,rfl,rfl,rfl,trivial⟩ (fun w h=>h.split))
  have hkl':¬ ((k:Nat):Int) < ((xt.length:Nat):Int):=by omega
  have hke:k = xt.length:=by omega
  subst hke
  refine zg27 ?_
  exact Ops.nilN (round_end (⟨i + 1,F⟩:ByS) ⟨by show i + 1 ≤ s.rows.length;omega,by show BuA bb (catR s (i + 1)) F;rw [hcn,rowP,← ByteArray.append_assoc,hbase];exact hF⟩ (by show s.rows.length - (i + 1) < s.rows.length - i;omega) ⟨rfl,rfl,rfl,rfl,rfl,trivial⟩ (fun w h=>h.split))
theorem sbytes_own (B0:Base) (sb:Nat) (s:StP) (D:List Blk) (hD:StA sb s D) (ok:StOk s) (bd:StBd s):ConB Tryz.prog B0 81 #[ptr sb] D fun v A=>v = .string (bytesS s) ∧ A = D :=
  (ConB.lend (A1:=[]) fun B1 e hG=>sbytes_spec B1 sb s (hD.in_ hG) ok bd).mono fun v A hR=>by
    obtain ⟨A',⟨rfl,rfl⟩,rfl⟩:=hR
    exact ⟨rfl,rfl⟩
end Go.Proofs.YtaecdnfkcebbeaaGreat
namespace Go.Proofs.YtaecdnfkcebbeaaGreat
open Go Go.Sep Go.Proofs
set_option maxRecDepth 10000
structure Calm (x:Dk) (len:Nat):Prop where
 de:x.de = false
 ar:x.ar = 0
 len:x.S.length = len
 sz:∀ s ∈ x.S,s.size = 128
theorem write_calm {x:Dk} {len i:Nat} {s:ByteArray} (h:Calm x len) (hi:i < len) (hs:s.size = 128):(x.write (i:Int) s).2 = 0 ∧ Calm (x.write (i:Int) s).1 len:=by
 obtain ⟨S,ar,bd,de⟩:=x
 obtain ⟨h1,h2,h3,h4⟩:=h
 dsimp only at h1 h2 h3 h4
 subst h1
 subst h2
 have e:writeD S 0 bd false (i:Int) s = ((S.set i s,0,false),0):=by
  unfold writeD
  rw [if_neg (by simp),if_neg (by omega),if_neg (by omega),if_neg (by decide)]
  rfl
 unfold Dk.write Dk.put
 dsimp only
 rw [e]
 refine ⟨rfl,rfl,rfl,by simpa using h3,fun t ht=>?_⟩
 rcases List.mem_or_eq_of_mem_set ht with ht|rfl
 ·exact h4 t ht
 ·exact hs
theorem pages_calm {half len:Nat} (hh:half ≤ 1):∀ (n at_:Nat) (s:ByteArray) (x:Dk),s.size ≤ n → Calm x len → at_ + s.size ≤ roomF len → (pagesF half at_ s x).2 = true ∧ Calm (pagesF half at_ s x).1 len
 | 0,at_,s,x,hs,hc,hr=>by
  unfold pagesF
  rw [dif_pos (by omega)]
  exact ⟨rfl,hc⟩
 | n + 1,at_,s,x,hs,hc,hr=>by
  by_cases h0:s.size = 0
  ·unfold pagesF
   rw [dif_pos h0]
   exact ⟨rfl,hc⟩
  have hrm:roomF len ≠ 0:=by omega
  have e1:roomF len = (len - 2) / 2 * 128 ∧ 4 ≤ len ∧ len % 2 = 0:=by
   unfold roomF at hrm ⊢
   split at hrm
   ·omega
   ·rename_i h;rw [if_neg h];omega
  obtain ⟨e1,e2,e3⟩:=e1
  have e4:half * roomF len / 128 = half * ((len - 2) / 2):=by
   rw [e1,← Nat.mul_assoc,Nat.mul_div_cancel _ (by decide)]
  have hlt:2 + half * roomF x.S.length / 128 + at_ / 128 < len:=by
   rw [hc.len,e4]
   have:at_ / 128 < (len - 2) / 2:=by omega
   rcases (by omega:half = 0 ∨ half = 1) with rfl|rfl <;> omega
  have hpg:(pageF (x.S.getD (2 + half * roomF x.S.length / 128 + at_ / 128) .empty) s (at_ % 128)).size = 128:=by
   refine pageF_size ?_ (Nat.mod_lt _ (by decide))
   rw [List.getD_eq_getElem?_getD,List.getElem?_eq_getElem (by have:=hc.len;omega)]
   exact hc.sz _ (List.getElem_mem _)
  obtain ⟨w1,w2⟩:=write_calm hc hlt hpg
  have hng:¬ (x.de = true ∨ ¬ 2 + half * roomF x.S.length / 128 + at_ / 128 < x.S.length):=by
   rintro (q|q)
   ·rw [hc.de] at q;cases q
   ·have:=hc.len;omega
  unfold pagesF
  rw [dif_neg h0,if_neg hng]
  dsimp only
  rw [if_neg (not_not_intro w1)]
  refine pages_calm hh n _ _ _ ?_ w2 ?_
  ·rw [ByteArray.size_extract];omega
  ·rw [ByteArray.size_extract];omega
theorem head_calm {h:Hd} {r:Dk × Bool} {len:Nat} (hr:r.2 = true) (hc:Calm r.1 len) (hl:2 ≤ len):(headF h r).2 = true ∧ Calm (headF h r).1 len:=by
 have hlt:h.number % 2 < len:=by omega
 obtain ⟨w1,w2⟩:=write_calm hc hlt (sectorF_size h)
 unfold headF
 rw [if_pos hr]
 exact ⟨by rw [decide_eq_true w1],w2⟩
theorem append_calm {w:Wl} {x:Dk} {len:Nat} {r:ByteArray} (hc:Calm x len) (hw:WlOk w len) (hd:w.dead = false) (h1:0 < r.size) (h2:r.size ≤ 2048) (hfit:w.h.snap + w.h.log + (frameF r).size ≤ roomF len) (hn:w.h.number < 1099511627776) :
  (appendF w x r).2 = 0 ∧ (appendF w x r).1.1 = ⟨⟨w.h.number + 1,w.h.half,w.h.snap,w.h.log + (frameF r).size⟩,w.recs + 1,false⟩ ∧ Calm (appendF w x r).1.2 len:=by
 have hl2:2 ≤ len:=by
  unfold roomF at hfit
  split at hfit
  ·rw [frameF,ByteArray.size_append] at hfit;omega
  ·omega
 have e:appendF w x r = w.done ⟨w.h.number + 1,w.h.half,w.h.snap,w.h.log + (frameF r).size⟩ (w.recs + 1)
  (headF ⟨w.h.number + 1,w.h.half,w.h.snap,w.h.log + (frameF r).size⟩ (pagesF w.h.half (w.h.snap + w.h.log) (frameF r) x)):=by
  unfold appendF
  rw [if_neg (by rw [hd,hc.de];simp),if_neg (by omega),if_neg (by rw [hc.len];omega),if_neg (by omega)]
 rw [e]
 obtain ⟨p1,p2⟩:=pages_calm hw.f _ (w.h.snap + w.h.log) (frameF r) x (Nat.le_refl _) hc (by omega)
 obtain ⟨q1,q2⟩:=head_calm (h:=⟨w.h.number + 1,w.h.half,w.h.snap,w.h.log + (frameF r).size⟩) p1 p2 hl2
 unfold Wl.done
 rw [if_pos q1]
 exact ⟨rfl,by rw [hd],q2⟩
theorem numL_mono:∀ (n m:Nat),n ≤ m → (numL n).length ≤ (numL m).length:=by
 intro n
 induction n using Nat.strongRecOn with
 | _ n ih =>
  intro m h
  by_cases h1:n < 128
  ·rw [numL_small h1]
   unfold numL
   split <;> simp
  ·have h2:¬ m < 128:=by omega
   rw [numL_big h1,numL_big h2,List.length_cons,List.length_cons]
   have:=ih (n / 128) (by omega) (m / 128) (Nat.div_le_div_right h)
   omega
theorem numB_mono {n m:Nat} (h:n ≤ m):(numB n).size ≤ (numB m).size:=by
 rw [numB,numB,bytesOf_size,bytesOf_size];exact numL_mono n m h
theorem fitN_ok (left:Nat):∀ n,fitN left n = 0 ∨ (numB (fitN left n)).size + fitN left n ≤ left
 | 0=>.inl rfl
 | n + 1=>by
  unfold fitN
  split
  ·exact fitN_ok left n
  ·rename_i h;right;omega
theorem room_fits {w:Wl} {len:Nat} {r:ByteArray} (h0:0 < r.size) (h:r.size ≤ roomW w len) (hf:w.h.snap + w.h.log ≤ roomF len):w.h.snap + w.h.log + (frameF r).size ≤ roomF len:=by
 unfold roomW at h
 rcases fitN_ok (roomF len - w.h.snap - w.h.log) (min 2048 (roomF len - w.h.snap - w.h.log)) with h1|h1
 ·rw [h1] at h;omega
 ·have h2:=numB_mono h
  rw [frameF,ByteArray.size_append]
  omega
theorem snap_calm {w:Wl} {x:Dk} {len:Nat} {s:ByteArray} (hc:Calm x len) (hw:WlOk w len) (hd:w.dead = false) (h1:s.size ≤ 17000) (hr:20480 ≤ roomF len) (hn:w.h.number < 1099511627776) :
  (snapF w x s).2 = 0 ∧ (snapF w x s).1.1 = ⟨⟨w.h.number + 1,1 - w.h.half,s.size,0⟩,0,false⟩ ∧ Calm (snapF w x s).1.2 len:=by
 have hl2:2 ≤ len:=by
  unfold roomF at hr
  split at hr
  ·omega
  ·omega
 have e:snapF w x s = w.done ⟨w.h.number + 1,1 - w.h.half,s.size,0⟩ 0 (headF ⟨w.h.number + 1,1 - w.h.half,s.size,0⟩ (pagesF (1 - w.h.half) 0 s x)):=by
  unfold snapF
  rw [if_neg (by rw [hd,hc.de];simp),if_neg (by rw [hc.len];omega),if_neg (by omega)]
 rw [e]
 obtain ⟨p1,p2⟩:=pages_calm (half:=1 - w.h.half) (by omega) _ 0 s x (Nat.le_refl _) hc (by omega)
 obtain ⟨q1,q2⟩:=head_calm (h:=⟨w.h.number + 1,1 - w.h.half,s.size,0⟩) p1 p2 hl2
 unfold Wl.done
 rw [if_pos q1]
 exact ⟨rfl,by rw [hd],q2⟩
def wants (every:Int) (w:Wl) (len:Nat) (r:ByteArray):Prop:=every ≤ w.recs ∨ roomW w len < r.size
instance (every:Int) (w:Wl) (len:Nat) (r:ByteArray):Decidable (wants every w len r):=by unfold wants;infer_instance
def mkW (every:Int) (w:Wl) (x:Dk) (b r:ByteArray):Wl × Dk :=
 if wants every w x.S.length r then (appendF (snapF w x b).1.1 (snapF w x b).1.2 r).1 else (appendF w x r).1
structure LgOk (w:Wl) (x:Dk) (len:Nat):Prop where
 cm:Calm x len
 wo:WlOk w len
 nd:w.dead = false
theorem mk_calm {every:Int} {w:Wl} {x:Dk} {len:Nat} {b r:ByteArray} (ok:LgOk w x len) (hev:every ≤ 16) (hr:20480 ≤ roomF len) (hn:w.h.number + 2 < 1099511627776) (hb:b.size ≤ 17000) (h0:0 < r.size) (h1:r.size ≤ 2048) :
  LgOk (mkW every w x b r).1 (mkW every w x b r).2 len ∧ (mkW every w x b r).1.h.number ≤ w.h.number + 2 ∧
   (wants every w x.S.length r → (snapF w x b).2 = 0 ∧ LgOk (snapF w x b).1.1 (snapF w x b).1.2 len ∧ (appendF (snapF w x b).1.1 (snapF w x b).1.2 r).2 = 0) ∧ (¬ wants every w x.S.length r → (appendF w x r).2 = 0):=by
 obtain ⟨hc,hw,hd⟩:=ok
 have hfz:=frameF_size r (by omega)
 by_cases hwt:wants every w x.S.length r
 ·obtain ⟨s1,s2,s3⟩:=snap_calm (s:=b) hc hw hd hb hr (by omega)
  have hw2:WlOk (snapF w x b).1.1 len:=by
   rw [s2]
   exact ⟨by show w.h.number + 1 ≤ 1099511627776;omega,by show 1 - w.h.half ≤ 1;omega,by show b.size + 0 ≤ roomF len;omega,Int.le_refl _,by show (0:Int) ≤ 4000000000000000000;omega⟩
  have hd2:(snapF w x b).1.1.dead = false:=by rw [s2]
  obtain ⟨a1,a2,a3⟩:=append_calm (r:=r) s3 hw2 hd2 h0 h1 (by rw [s2];show b.size + 0 + (frameF r).size ≤ roomF len;omega) (by rw [s2];show w.h.number + 1 < 1099511627776;omega)
  have e:mkW every w x b r = (appendF (snapF w x b).1.1 (snapF w x b).1.2 r).1:=if_pos hwt
  rw [e]
  refine ⟨⟨a3,?_,?_⟩,?_,fun _=>⟨s1,⟨s3,hw2,hd2⟩,a1⟩,fun q=>absurd hwt q⟩
  ·rw [a2,s2]
   exact ⟨by show w.h.number + 1 + 1 ≤ 1099511627776;omega,by show 1 - w.h.half ≤ 1;omega,by show b.size + (0 + (frameF r).size) ≤ roomF len;omega,by show (0:Int) ≤ 0 + 1;omega,by show (0:Int) + 1 ≤ 4000000000000000000;omega⟩
  ·rw [a2]
  ·rw [a2,s2];show w.h.number + 1 + 1 ≤ w.h.number + 2;omega
 ·have hroom:r.size ≤ roomW w len:=by
   unfold wants at hwt
   rw [hc.len] at hwt
   omega
  have hfit:=room_fits h0 hroom hw.fit
  obtain ⟨a1,a2,a3⟩:=append_calm (r:=r) hc hw hd h0 h1 hfit (by omega)
  have e:mkW every w x b r = (appendF w x r).1:=if_neg hwt
  rw [e]
  have hrc:w.recs < every:=by unfold wants at hwt;omega
  refine ⟨⟨a3,?_,?_⟩,?_,fun q=>absurd q hwt,fun _=>a1⟩
  ·rw [a2]
   refine ⟨by show w.h.number + 1 ≤ 1099511627776;omega,hw.f,by show w.h.snap + (w.h.log + (frameF r).size) ≤ roomF len;omega,by show 0 ≤ w.recs + 1;have:=hw.r0;omega,?_⟩
   show w.recs + 1 ≤ 4000000000000000000
   omega
  ·rw [a2]
  ·rw [a2];show w.h.number + 1 ≤ w.h.number + 2;omega
end Go.Proofs.YtaecdnfkcebbeaaGreat
namespace Go.Proofs.YtaecdnfkcebbeaaGreat
open Go Go.Sep Go.Proofs
set_option maxRecDepth 10000
set_option maxHeartbeats 40000000
set_option synthInstance.maxSize 2000
structure Cf where
 runners:Int
 lease:Int
 resend:Int
 attempts:Int
 window:Int
 quantum:Int
 block:Int
 every:Int
 half:Int
@[reducible] def Cf.row (c:Cf):List Value:=[.int .i64 c.runners,.int .i64 c.lease,.int .i64 c.resend,.int .i64 c.attempts,.int .i64 c.window,.int .i64 c.quantum,.int .i64 c.block,.int .i64 c.every,.int .i64 c.half]
def CfOk (c:Cf):Prop:=(1 ≤ c.runners ∧ c.runners ≤ 8) ∧ (1 ≤ c.lease ∧ c.lease ≤ 256) ∧ (1 ≤ c.resend ∧ c.resend ≤ 16) ∧ (1 ≤ c.attempts ∧ c.attempts ≤ 8) ∧ (1 ≤ c.window ∧ c.window ≤ 8) ∧ (1 ≤ c.quantum ∧ c.quantum ≤ 64) ∧ (1 ≤ c.block ∧ c.block ≤ 16) ∧ (1 ≤ c.every ∧ c.every ≤ 16) ∧ (160 ≤ c.half ∧ c.half ≤ 512)
instance (c:Cf):Decidable (CfOk c):=by unfold CfOk;infer_instance
def checkC (c:Cf):Int:=if CfOk c then 0 else 180
theorem cin_spec (a l h:Int):Con Tryz.prog 117 #[.int .i64 a,.int .i64 l,.int .i64 h] [] fun v A=>v = .bool (decide (l ≤ a ∧ a ≤ h)) ∧ A = []:=by
 refine Con.intro (vs:=[_,_,_]) Tryz.func117 rfl Tryz.ntmps117 rfl (fun B=>?_)
 by_cases h1:l ≤ a
 ·by_cases h2:a ≤ h
  ·rw [decide_eq_true (⟨h1,h2⟩:l ≤ a ∧ a ≤ h)]
   refine zg25 ?_
   exact ze29
  ·rw [decide_eq_false (fun q:l ≤ a ∧ a ≤ h=>h2 q.2)]
   refine zg25 ?_
   exact ze30
 ·rw [decide_eq_false (fun q:l ≤ a ∧ a ≤ h=>h1 q.1)]
  refine zg11 ?_
  exact ze8
theorem rin18_spec (a l h:Int):Con Tryz.prog 16 #[.int .i64 a,.int .i64 l,.int .i64 h] [] fun v A=>v = .bool (decide (l ≤ a ∧ a ≤ h)) ∧ A = []:=by
 refine Con.intro (vs:=[_,_,_]) Tryz.func16 rfl Tryz.ntmps16 rfl (fun B=>?_)
 by_cases h1:l ≤ a
 ·by_cases h2:a ≤ h
  ·rw [decide_eq_true (⟨h1,h2⟩:l ≤ a ∧ a ≤ h)]
   refine zg25 ?_
   exact ze29
  ·rw [decide_eq_false (fun q:l ≤ a ∧ a ≤ h=>h2 q.2)]
   refine zg25 ?_
   exact ze30
 ·rw [decide_eq_false (fun q:l ≤ a ∧ a ≤ h=>h1 q.1)]
  refine zg11 ?_
  exact ze8
theorem ccheck_spec (c:Cf):Con Tryz.prog 71 #[.agg c.row.toArray] [] fun v A=>v = .int .i64 (checkC c) ∧ A = []:=by
 refine Con.intro (vs:=[_]) Tryz.func71 rfl Tryz.ntmps71 rfl (fun B=>?_)
 repeat' (first|refine Cd.seq ?_|refine Cd.reg ?_|refine Ops.mv rfl rfl rfl rfl ?_|refine Ops.asg rfl rfl rfl rfl ?_|refine Ops.fa0 rfl rfl rfl rfl ?_|refine Ops.ld1 rfl rfl rfl rfl rfl ?_|refine Ops.box rfl rfl rfl rfl (noPd rfl) (fun b=>?_))
 refine Ops.callV (fi:=[]) (ca:=[]) (vs:=[_,_,_]) (cin_spec c.runners 1 8) rfl (noPd rfl) rfl rfl rfl rfl (fun v A' hR=>?_)
 obtain ⟨rfl,rfl⟩:=hR
 by_cases h0:1 ≤ c.runners ∧ c.runners ≤ 8
 case neg =>
  rw [decide_eq_false h0,show checkC c = 180 from if_neg (fun q=>h0 q.1)]
  refine zg6 ?_
  exact ze8
 rw [decide_eq_true h0]
 refine zg2 ?_
 refine Ops.callV (fi:=[]) (ca:=[]) (vs:=[_,_,_]) (cin_spec c.lease 1 256) rfl (noPd rfl) rfl rfl rfl rfl (fun v A' hR=>?_)
 obtain ⟨rfl,rfl⟩:=hR
 by_cases h1:1 ≤ c.lease ∧ c.lease ≤ 256
 case neg =>
  rw [decide_eq_false h1,show checkC c = 180 from if_neg (fun q=>h1 q.2.1)]
  refine zg6 ?_
  exact ze8
 rw [decide_eq_true h1]
 refine zg2 ?_
 refine Ops.callV (fi:=[]) (ca:=[]) (vs:=[_,_,_]) (cin_spec c.resend 1 16) rfl (noPd rfl) rfl rfl rfl rfl (fun v A' hR=>?_)
 obtain ⟨rfl,rfl⟩:=hR
 by_cases h2:1 ≤ c.resend ∧ c.resend ≤ 16
 case neg =>
  rw [decide_eq_false h2,show checkC c = 180 from if_neg (fun q=>h2 q.2.2.1)]
  refine zg6 ?_
  exact ze8
 rw [decide_eq_true h2]
 refine zg2 ?_
 refine Ops.callV (fi:=[]) (ca:=[]) (vs:=[_,_,_]) (cin_spec c.attempts 1 8) rfl (noPd rfl) rfl rfl rfl rfl (fun v A' hR=>?_)
 obtain ⟨rfl,rfl⟩:=hR
 by_cases h3:1 ≤ c.attempts ∧ c.attempts ≤ 8
 case neg =>
  rw [decide_eq_false h3,show checkC c = 180 from if_neg (fun q=>h3 q.2.2.2.1)]
  refine zg6 ?_
  exact ze8
 rw [decide_eq_true h3]
 refine zg2 ?_
 refine Ops.callV (fi:=[]) (ca:=[]) (vs:=[_,_,_]) (cin_spec c.window 1 8) rfl (noPd rfl) rfl rfl rfl rfl (fun v A' hR=>?_)
 obtain ⟨rfl,rfl⟩:=hR
 by_cases h4:1 ≤ c.window ∧ c.window ≤ 8
 case neg =>
  rw [decide_eq_false h4,show checkC c = 180 from if_neg (fun q=>h4 q.2.2.2.2.1)]
  refine zg6 ?_
  exact ze8
 rw [decide_eq_true h4]
 refine zg2 ?_
 refine Ops.callV (fi:=[]) (ca:=[]) (vs:=[_,_,_]) (cin_spec c.quantum 1 64) rfl (noPd rfl) rfl rfl rfl rfl (fun v A' hR=>?_)
 obtain ⟨rfl,rfl⟩:=hR
 by_cases h5:1 ≤ c.quantum ∧ c.quantum ≤ 64
 case neg =>
  rw [decide_eq_false h5,show checkC c = 180 from if_neg (fun q=>h5 q.2.2.2.2.2.1)]
  refine zg6 ?_
  exact ze8
 rw [decide_eq_true h5]
 refine zg2 ?_
 refine Ops.callV (fi:=[]) (ca:=[]) (vs:=[_,_,_]) (cin_spec c.block 1 16) rfl (noPd rfl) rfl rfl rfl rfl (fun v A' hR=>?_)
 obtain ⟨rfl,rfl⟩:=hR
 by_cases h6:1 ≤ c.block ∧ c.block ≤ 16
 case neg =>
  rw [decide_eq_false h6,show checkC c = 180 from if_neg (fun q=>h6 q.2.2.2.2.2.2.1)]
  refine zg6 ?_
  exact ze8
 rw [decide_eq_true h6]
 refine zg2 ?_
 refine Ops.callV (fi:=[]) (ca:=[]) (vs:=[_,_,_]) (cin_spec c.every 1 16) rfl (noPd rfl) rfl rfl rfl rfl (fun v A' hR=>?_)
 obtain ⟨rfl,rfl⟩:=hR
 by_cases h7:1 ≤ c.every ∧ c.every ≤ 16
 case neg =>
  rw [decide_eq_false h7,show checkC c = 180 from if_neg (fun q=>h7 q.2.2.2.2.2.2.2.1)]
  refine zg6 ?_
  exact ze8
 rw [decide_eq_true h7]
 refine zg2 ?_
 refine Ops.callV (fi:=[]) (ca:=[]) (vs:=[_,_,_]) (cin_spec c.half 160 512) rfl (noPd rfl) rfl rfl rfl rfl (fun v A' hR=>?_)
 obtain ⟨rfl,rfl⟩:=hR
 by_cases h8:160 ≤ c.half ∧ c.half ≤ 512
 case neg =>
  rw [decide_eq_false h8,show checkC c = 180 from if_neg (fun q=>h8 q.2.2.2.2.2.2.2.2)]
  refine zg10 ?_
  exact ze8
 rw [decide_eq_true h8]
 refine zg10 ?_
 rw [show checkC c = 0 from if_pos ⟨h0,h1,h2,h3,h4,h5,h6,h7,h8⟩]
 exact ze8
theorem rcheck18_spec (c:Cf):Con Tryz.prog 5 #[.agg c.row.toArray] [] fun v A=>v = .int .i64 (checkC c) ∧ A = []:=by
 refine Con.intro (vs:=[_]) Tryz.func5 rfl Tryz.ntmps5 rfl (fun B=>?_)
 repeat' (first|refine Cd.seq ?_|refine Cd.reg ?_|refine Ops.asg rfl rfl rfl rfl ?_|refine Ops.fa0 rfl rfl rfl rfl ?_|refine Ops.ld1 rfl rfl rfl rfl rfl ?_|refine Ops.box rfl rfl rfl rfl (noPd rfl) (fun b=>?_))
 refine Ops.call (rin18_spec c.runners 1 8) rfl (noPd rfl) rfl rfl rfl (fun v A' hR=>?_)
 obtain ⟨rfl,rfl⟩:=hR
 by_cases h0:1 ≤ c.runners ∧ c.runners ≤ 8
 case neg =>
  rw [decide_eq_false h0,show checkC c = 180 from if_neg (fun q=>h0 q.1)]
  refine zg6 ?_
  exact ze8
 rw [decide_eq_true h0]
 refine zg2 ?_
 refine Ops.call (rin18_spec c.lease 1 256) rfl (noPd rfl) rfl rfl rfl (fun v A' hR=>?_)
 obtain ⟨rfl,rfl⟩:=hR
 by_cases h1:1 ≤ c.lease ∧ c.lease ≤ 256
 case neg =>
  rw [decide_eq_false h1,show checkC c = 180 from if_neg (fun q=>h1 q.2.1)]
  refine zg6 ?_
  exact ze8
 rw [decide_eq_true h1]
 refine zg2 ?_
 refine Ops.call (rin18_spec c.resend 1 16) rfl (noPd rfl) rfl rfl rfl (fun v A' hR=>?_)
 obtain ⟨rfl,rfl⟩:=hR
 by_cases h2:1 ≤ c.resend ∧ c.resend ≤ 16
 case neg =>
  rw [decide_eq_false h2,show checkC c = 180 from if_neg (fun q=>h2 q.2.2.1)]
  refine zg6 ?_
  exact ze8
 rw [decide_eq_true h2]
 refine zg2 ?_
 refine Ops.call (rin18_spec c.attempts 1 8) rfl (noPd rfl) rfl rfl rfl (fun v A' hR=>?_)
 obtain ⟨rfl,rfl⟩:=hR
 by_cases h3:1 ≤ c.attempts ∧ c.attempts ≤ 8
 case neg =>
  rw [decide_eq_false h3,show checkC c = 180 from if_neg (fun q=>h3 q.2.2.2.1)]
  refine zg6 ?_
  exact ze8
 rw [decide_eq_true h3]
 refine zg2 ?_
 refine Ops.call (rin18_spec c.window 1 8) rfl (noPd rfl) rfl rfl rfl (fun v A' hR=>?_)
 obtain ⟨rfl,rfl⟩:=hR
 by_cases h4:1 ≤ c.window ∧ c.window ≤ 8
 case neg =>
  rw [decide_eq_false h4,show checkC c = 180 from if_neg (fun q=>h4 q.2.2.2.2.1)]
  refine zg6 ?_
  exact ze8
 rw [decide_eq_true h4]
 refine zg2 ?_
 refine Ops.call (rin18_spec c.quantum 1 64) rfl (noPd rfl) rfl rfl rfl (fun v A' hR=>?_)
 obtain ⟨rfl,rfl⟩:=hR
 by_cases h5:1 ≤ c.quantum ∧ c.quantum ≤ 64
 case neg =>
  rw [decide_eq_false h5,show checkC c = 180 from if_neg (fun q=>h5 q.2.2.2.2.2.1)]
  refine zg6 ?_
  exact ze8
 rw [decide_eq_true h5]
 refine zg2 ?_
 refine Ops.call (rin18_spec c.block 1 16) rfl (noPd rfl) rfl rfl rfl (fun v A' hR=>?_)
 obtain ⟨rfl,rfl⟩:=hR
 by_cases h6:1 ≤ c.block ∧ c.block ≤ 16
 case neg =>
  rw [decide_eq_false h6,show checkC c = 180 from if_neg (fun q=>h6 q.2.2.2.2.2.2.1)]
  refine zg6 ?_
  exact ze8
 rw [decide_eq_true h6]
 refine zg2 ?_
 refine Ops.call (rin18_spec c.every 1 16) rfl (noPd rfl) rfl rfl rfl (fun v A' hR=>?_)
 obtain ⟨rfl,rfl⟩:=hR
 by_cases h7:1 ≤ c.every ∧ c.every ≤ 16
 case neg =>
  rw [decide_eq_false h7,show checkC c = 180 from if_neg (fun q=>h7 q.2.2.2.2.2.2.2.1)]
  refine zg6 ?_
  exact ze8
 rw [decide_eq_true h7]
 refine zg2 ?_
 refine Ops.call (rin18_spec c.half 160 512) rfl (noPd rfl) rfl rfl rfl (fun v A' hR=>?_)
 obtain ⟨rfl,rfl⟩:=hR
 by_cases h8:160 ≤ c.half ∧ c.half ≤ 512
 case neg =>
  rw [decide_eq_false h8,show checkC c = 180 from if_neg (fun q=>h8 q.2.2.2.2.2.2.2.2)]
  refine zg10 ?_
  exact ze8
 rw [decide_eq_true h8]
 refine zg10 ?_
 rw [show checkC c = 0 from if_pos ⟨h0,h1,h2,h3,h4,h5,h6,h7,h8⟩]
 exact ze8
def fitsF (c:Cf) (x:Dk):Bool:=decide (checkC c = 0 ∧ (x.S.length:Int) = 2 + 2 * c.half)
theorem fits_spec (c:Cf) (db:Nat) (x:Dk) (k:Nat) (D:List Blk) (hD:DkA db x k D):Con Tryz.prog 34 #[.agg c.row.toArray,ptr db] D fun v A=>v = .bool (fitsF c x) ∧ A = D:=by
 refine Con.intro (vs:=[_,_]) Tryz.func34 rfl Tryz.ntmps34 rfl (fun B=>?_)
 repeat' (first|refine Cd.seq ?_|refine Cd.reg ?_|refine Ops.asg rfl rfl rfl rfl ?_|refine Ops.box rfl rfl rfl rfl (noPd rfl) (fun b=>?_))
 refine Cd.draw [(0,1,[]),(1,2,[]),(2,0,[]),(3,0,[]),(4,0,[]),(6,0,[]),(7,1,[]),(8,0,[]),(9,0,[]),(5,2,[7]),(10,0,[]),(11,0,[]),(12,0,[])] (by kernel_rfl) (by kernel_rfl) (by simp only [picked,nth];exact rfl) ?_
 refine zg9 ?_
 refine Ops.call (ccheck_spec c) rfl zp1 rfl rfl rfl (fun v A' hR=>?_)
 obtain ⟨rfl,rfl⟩:=hR
 by_cases hc:CfOk c
 case neg =>
  rw [show checkC c = 180 from if_neg hc,show fitsF c x = false from by unfold fitsF;rw [show checkC c = 180 from if_neg hc];simp]
  refine zg22 ?_
  exact ze43
 have hh:160 ≤ c.half ∧ c.half ≤ 512:=hc.2.2.2.2.2.2.2.2
 rw [show checkC c = 0 from if_pos hc,show fitsF c x = decide ((x.S.length:Int) = 2 + 2 * c.half) from by unfold fitsF;rw [show checkC c = 0 from if_pos hc];simp]
 refine zg44 ?_
 refine Ops.call (dsize_spec db x.S x.ar x.bd x.de k D hD.a) rfl zp1 rfl rfl rfl (fun v A' hR=>?_)
 obtain ⟨rfl,e⟩:=hR
 subst A'
 refine zg10 ?_
 exact ze43
end Go.Proofs.YtaecdnfkcebbeaaGreat
