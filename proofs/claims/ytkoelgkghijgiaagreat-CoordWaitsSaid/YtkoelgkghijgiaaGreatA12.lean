import Derived.Test.YtkoelgkghijgiaaGreatA11
import Derived.Test.YtkoelgkghijgiaaGreatA04
import Derived.Test.YtkoelgkghijgiaaGreatA01
import Derived.Test.YtkoelgkghijgiaaGreatA10
import Derived.Test.YtkoelgkghijgiaaGreatA08
import Derived.Test.YtkoelgkghijgiaaGreatA09
import Derived.Test.YtkoelgkghijgiaaGreatA06
import Derived.Lib.ConvBytes
set_option linter.unusedVariables false
set_option linter.unusedSimpArgs false
namespace Go.Proofs.YtkoelgkghijgiaaGreat.Se
open Go Go.Sep Go.Proofs Go.Proofs.Tryz
set_option maxRecDepth 10000
set_option maxHeartbeats 1000000
def rowAt (rs:List Dk) (slot:Int):Option Dk:=if hasB slot rs.length then rs[slot.toNat]? else none
def RowsI (rs:List Dk):Prop:=∀ r ∈ rs,0 ≤ r.last ∧ r.last ≤ 1099511627776
theorem rowAt_some {rs:List Dk} {slot:Int} {r:Dk} (h:rowAt rs slot = some r):hasB slot rs.length = true ∧ rs[slot.toNat]? = some r:=by
 unfold rowAt at h
 split at h
 ·rename_i hb;exact ⟨hb,h⟩
 ·cases h
theorem rowAt_none {rs:List Dk} {slot:Int} (h:rowAt rs slot = none):hasB slot rs.length = false:=by
 unfold rowAt at h
 split at h
 ·rename_i hb
  have:0 ≤ slot ∧ slot < rs.length:=by simpa [hasB] using hb
  rw [List.getElem?_eq_none_iff] at h
  omega
 ·rename_i hb;simpa using hb
theorem RowsI.set {rs:List Dk} {i:Nat} {r:Dk} (h:RowsI rs) (h0:0 ≤ r.last) (h1:r.last ≤ 1099511627776):RowsI (rs.set i r):=fun x hx=>by
 rcases List.mem_or_eq_of_mem_set hx with hx|hx
 ·exact h x hx
 ·subst hx;exact ⟨h0,h1⟩
theorem RowsI.fresh (k:Nat):RowsI (fresh k):=fun r hr=>by
 obtain ⟨i,_,rfl⟩:=List.mem_map.1 hr
 exact ⟨Int.le_refl _,by show (0:Int) ≤ 1099511627776;omega⟩
def helloV (o:Option Dk) (life:Int):Int × Int:=match o with
 | none=>(0,0)
 | some r=>if cntB life then (if life < r.life then (0,0) else if r.life = life then (1,r.session) else (2,0)) else (0,0)
def askV (o:Option Dk) (life session number:Int):Int × ByteArray:=match o with
 | none=>(1,⟨#[]⟩)
 | some r=>if r.life = 0 ∨ r.life ≠ life ∨ r.session ≠ session then (1,⟨#[]⟩) else if number < 1 then (0,⟨#[]⟩) else if number = r.last then (2,r.reply) else if number = r.last + 1 then (3,⟨#[]⟩) else (0,⟨#[]⟩)
def openV (o:Option Dk) (slot life session:Int):Option Dk:=match o with
 | none=>none
 | some r=>if cntB life = true ∧ cntB session = true ∧ r.life ≤ life then some ⟨slot,life,session,0,⟨#[]⟩⟩ else none
def answerV (o:Option Dk) (reply:ByteArray):Option Dk:=match o with
 | none=>none
 | some r=>if r.life ≠ 0 ∧ r.last ≠ 1099511627776 then some { r with last:=r.last + 1,reply:=reply } else none
def putRow (rs:List Dk) (slot:Int) (n:Option Dk):List Dk:=match n with
 | none=>rs
 | some r=>rs.set slot.toNat r
theorem hello_fun (n:Nat) (sv:Value) (rs:List Dk) (G:List Blk) (slot life:Int) (hO:OwnK sv rs G):Con prog 142 #[ptr n,.int .i64 slot,.int .i64 life] (TabB n sv G) fun v A=>v = .tuple #[.int .i64 (helloV (rowAt rs slot) life).1,.int .i64 (helloV (rowAt rs slot) life).2] ∧ A = TabB n sv G:=by
 cases h:rowAt rs slot with
 | none=>exact hello_nohas n sv rs G slot life hO (rowAt_none h)
 | some r =>
  obtain ⟨hh,hr⟩:=rowAt_some h
  unfold helloV
  dsimp only
  by_cases hc:cntB life = true
  ·rw [if_pos hc]
   by_cases h1:life < r.life
   ·rw [if_pos h1];exact hello_old n sv rs G slot life r hO hh hc hr h1
   ·rw [if_neg h1]
    by_cases h2:r.life = life
    ·rw [if_pos h2];exact hello_known n sv rs G slot life r hO hh hc hr h2
    ·rw [if_neg h2];exact hello_fresh n sv rs G slot life r hO hh hc hr (by omega)
  ·rw [if_neg hc];exact hello_nocnt n sv rs G slot life hO hh (by simpa using hc)
theorem ask_fun (n:Nat) (sv:Value) (rs:List Dk) (G:List Blk) (slot life session number:Int) (hO:OwnK sv rs G) (hI:RowsI rs):Con prog 147 #[ptr n,.int .i64 slot,.int .i64 life,.int .i64 session,.int .i64 number] (TabB n sv G) fun v A=>v = .tuple #[.int .i64 (askV (rowAt rs slot) life session number).1,.string (askV (rowAt rs slot) life session number).2] ∧ A = TabB n sv G:=by
 cases h:rowAt rs slot with
 | none=>exact ask_nohas n sv rs G slot life session number hO (rowAt_none h)
 | some r =>
  obtain ⟨hh,hr⟩:=rowAt_some h
  obtain ⟨hb0,hb1⟩:=hI r (List.mem_of_getElem? hr)
  unfold askV
  dsimp only
  by_cases h1:r.life = 0 ∨ r.life ≠ life ∨ r.session ≠ session
  ·rw [if_pos h1];exact task_stale n sv rs G slot life session number r hO hh hr hb0 hb1 h1
  ·rw [if_neg h1]
   by_cases h2:number < 1
   ·rw [if_pos h2];exact task_zero n sv rs G slot life session number r hO hh hr hb0 hb1 (by omega)
   ·rw [if_neg h2]
    by_cases h3:number = r.last
    ·rw [if_pos h3];exact task_again n sv rs G slot life session number r hO hh hr hb0 hb1 (by omega)
    ·rw [if_neg h3]
     by_cases h4:number = r.last + 1
     ·rw [if_pos h4];exact task_new n sv rs G slot life session number r hO hh hr hb0 hb1 (by omega)
     ·rw [if_neg h4];exact task_pass n sv rs G slot life session number r hO hh hr hb0 hb1 (by omega)
theorem open_fun (n:Nat) (sv:Value) (rs:List Dk) (G:List Blk) (slot life session:Int) (hO:OwnK sv rs G):Con prog 145 #[ptr n,.int .i64 slot,.int .i64 life,.int .i64 session] (TabB n sv G) fun v A=>(∃ x,v = .int .i64 x) ∧ ∃ G',A = TabB n sv G' ∧ OwnK sv (putRow rs slot (openV (rowAt rs slot) slot life session)) G':=by
 cases h:rowAt rs slot with
 | none=>exact (open_nohas n sv rs G slot life session hO (rowAt_none h)).mono fun v A ⟨e,h⟩=>⟨⟨_,e⟩,G,h,hO⟩
 | some r =>
  obtain ⟨hh,hr⟩:=rowAt_some h
  unfold openV
  dsimp only
  by_cases hc:cntB life = true
  ·by_cases hd:cntB session = true
   ·by_cases h1:r.life ≤ life
    ·rw [if_pos ⟨hc,hd,h1⟩];exact (open_ok n sv rs G slot life session r hO hh hc hd hr h1).mono fun v A ⟨e,h⟩=>⟨⟨_,e⟩,h⟩
    ·rw [if_neg (by simp [h1])];exact (open_old n sv rs G slot life session r hO hh hc hd hr (by omega)).mono fun v A ⟨e,h⟩=>⟨⟨_,e⟩,G,h,hO⟩
   ·rw [if_neg (by simp [hd])];exact (open_nosess n sv rs G slot life session hO hh hc (by simpa using hd)).mono fun v A ⟨e,h⟩=>⟨⟨_,e⟩,G,h,hO⟩
  ·rw [if_neg (by simp [hc])];exact (open_nolife n sv rs G slot life session hO hh (by simpa using hc)).mono fun v A ⟨e,h⟩=>⟨⟨_,e⟩,G,h,hO⟩
theorem answer_fun (n:Nat) (sv:Value) (rs:List Dk) (G:List Blk) (slot:Int) (reply:ByteArray) (hO:OwnK sv rs G) (hI:RowsI rs):Con prog 152 #[ptr n,.int .i64 slot,.string reply] (TabB n sv G) fun v A=>(∃ x,v = .int .i64 x) ∧ ∃ G',A = TabB n sv G' ∧ OwnK sv (putRow rs slot (answerV (rowAt rs slot) reply)) G':=by
 cases h:rowAt rs slot with
 | none=>exact (answer_nohas n sv rs G slot reply hO (rowAt_none h)).mono fun v A ⟨e,h⟩=>⟨⟨_,e⟩,G,h,hO⟩
 | some r =>
  obtain ⟨hh,hr⟩:=rowAt_some h
  obtain ⟨hb0,hb1⟩:=hI r (List.mem_of_getElem? hr)
  unfold answerV
  dsimp only
  by_cases h1:r.life ≠ 0 ∧ r.last ≠ 1099511627776
  ·rw [if_pos h1];exact (answer_ok n sv rs G slot reply r hO hh hr hb0 hb1 h1.1 h1.2).mono fun v A ⟨e,h⟩=>⟨⟨_,e⟩,h⟩
  ·rw [if_neg h1];exact (answer_none n sv rs G slot reply r hO hh hr (by omega)).mono fun v A ⟨e,h⟩=>⟨⟨_,e⟩,G,h,hO⟩
theorem openV_rows {rs:List Dk} {slot life session:Int} (h:RowsI rs):RowsI (putRow rs slot (openV (rowAt rs slot) slot life session)):=by
 cases h1:rowAt rs slot with
 | none=>exact h
 | some x =>
  unfold openV;dsimp only
  split
  ·exact h.set (Int.le_refl _) (by show (0:Int) ≤ 1099511627776;omega)
  ·exact h
theorem answerV_rows {rs:List Dk} {slot:Int} {reply:ByteArray} (h:RowsI rs):RowsI (putRow rs slot (answerV (rowAt rs slot) reply)):=by
 cases h1:rowAt rs slot with
 | none=>exact h
 | some x =>
  obtain ⟨h2,h3⟩:=h x (List.mem_of_getElem? (rowAt_some h1).2)
  unfold answerV;dsimp only
  split
  ·rename_i hc
   exact h.set (by show 0 ≤ x.last + 1;omega) (by show x.last + 1 ≤ 1099511627776;omega)
  ·exact h
end Go.Proofs.YtkoelgkghijgiaaGreat.Se
namespace Go.Proofs.YtkoelgkghijgiaaGreat
open Go Go.Sep Go.Proofs Go.Proofs.Tryz
set_option maxRecDepth 10000
set_option maxHeartbeats 40000000
set_option synthInstance.maxSize 2000
@[reducible] def CoB (xb lb tb cb mb db wb sb:Nat) (c:Cf) (tv:Value) (dead:Bool):Blk :=
 (xb,cl [ptr lb,ptr tb,ptr cb,.map (some mb),.int .i64 c.runners,.int .i64 c.lease,.int .i64 c.resend,.int .i64 c.attempts,.int .i64 c.window,.int .i64 c.quantum,.int .i64 c.block,.int .i64 c.every,.int .i64 c.half,ptr db,ptr wb,ptr sb,tv,.bool dead] 121)
theorem newt_int (r:Int) (h1:1 ≤ r) (h2:r ≤ 8):Con prog 190 #[.int .i64 r] [] fun v A=>∃ b sv G,v = .tuple #[ptr b,.int .i64 0] ∧ A = Se.TabB b sv G ∧ Se.OwnK sv (Se.fresh r.toNat) G:=by
 obtain ⟨n,rfl⟩:=Int.eq_ofNat_of_zero_le (show 0 ≤ r by omega)
 exact Se.newt_yes n (by omega) (by omega)
theorem begun_spec (c:Cf) (hc:CfOk c) (r:Int) (h0:0 ≤ r) (h1:r ≤ 1099511627776):Con prog 121 #[.agg c.row.toArray,.int .i64 r] [] fun v A=>∃ lb lm tb sv G cb mb,v = .agg [ptr lb,ptr tb,ptr cb,.map (some mb)].toArray ∧ A = Ls.TB lb lm c.lease [] 0 ++ (Se.TabB tb sv G ++ [CtB cb c.block r r,(mb,mpo [] 0)]) ∧ Se.OwnK sv (Se.fresh c.runners.toNat) G:=by
 obtain ⟨⟨a1,a2⟩,⟨b1,b2⟩,_,_,_,_,⟨g1,g2⟩,_,_⟩:=hc
 refine zqI (vs:=[_,_]) func121 ntmps121 fun B=>?_
 repeat' (first|refine zs0 ?_|refine Ops.box rfl rfl rfl rfl (noPd rfl) (fun b=>?_)|refine Ops.alloc rfl rfl rfl (noPd rfl) (fun b=>?_))
 refine zqA (Ls.new_yes c.lease b1 b2) fun v A' hR=>?_
 obtain ⟨lb,lm,rfl,rfl⟩:=hR
 refine zg1 ?_
 refine zqA (newt_int c.runners a1 a2) fun v A' hR=>?_
 obtain ⟨tb,sv,G,rfl,rfl,hO⟩:=hR
 refine zg1 ?_
 refine zqA (bnew_yes c.block r g1 g2 h0 h1) fun v A' hR=>?_
 obtain ⟨cb,rfl,rfl⟩:=hR
 repeat' (first|refine zs3 ?_|refine Ops.mkM rfl rfl rfl (noPd rfl) (fun b=>?_))
 rename Nat=>mb
 exact Cd.ret (ret1 (A':=Ls.TB lb lm c.lease [] 0 ++ (Se.TabB tb sv G ++ [CtB cb c.block r r,(mb,mpo [] 0)])) rfl (Res.cellN rfl) (fun _ h=>h.split) ⟨lb,lm,tb,sv,G,cb,mb,rfl,rfl,hO⟩)
theorem loaded_new (B0:Base) (n:Int) (h1:1 ≤ n) (h2:n ≤ 8) (a:Option Addr) (c:Nat):ConB prog B0 120 #[.int .i64 n,.string ⟨#[]⟩,.slice a 0 c] [] fun v A=>∃ sb,v = ptr sb ∧ StA sb ⟨n,[],0,[],[]⟩ A:=by
 refine zqJ (vs:=[_,_,_]) func120 ntmps120 fun B hB=>?_
 refine zg0 ?_
 refine zqA (snew_yes n h1 h2) fun v A' hR=>?_
 obtain ⟨sb,qb,rfl,rfl⟩:=hR
 refine zg4 ?_
 refine Cd.loopK (σ:=Unit) (fun _=>True) (fun _=>[(7,ptr sb),(31,.int .i64 0),(32,.int .i64 0)]) (fun _=>[StB sb qb 0 (.slice none 0 0) (.slice none 0 0),QuB qb n (.slice none 0 0)]) (fun _=>0) () trivial ⟨rfl,rfl,rfl,trivial⟩ (fun w h=>h.split) (fun _ _=>?_)
 refine zg4 ?_
 exact Cd.ret (ret1 (A':=[StB sb qb 0 (.slice none 0 0) (.slice none 0 0),QuB qb n (.slice none 0 0)]) rfl (Res.tmp rfl) (fun _ h=>h.split) ⟨sb,rfl,qb,.slice none 0 0,[],.slice none 0 0,[],.slice none 0 0,[],[],rfl,Own.none,Own.none,Own.none,fun x hx=>(by cases hx),rfl⟩)
theorem stOk_new {n:Int} (h1:1 ≤ n) (h2:n ≤ 8):StOk ⟨n,[],0,[],[]⟩:=⟨h1,h2,by simp,rfl,rfl,fun l h=>(by cases h),fun i r h=>(by cases h),fun r h=>(by cases h)⟩
theorem view_own (B0:Base) (sb:Nat) (s:StP) (D:List Blk) (hD:StA sb s D) (ok:StOk s):ConB prog B0 49 #[ptr sb] D fun v X=>∃ A',ViewA v s A' ∧ X = A' ++ D :=
 ConB.lend (A1:=[]) fun B1 e hG=>view_spec B1 sb s (hD.in_ hG) ok
theorem res_own (sb:Nat) (s:StP) (D:List Blk) (hD:StA sb s D):Con prog 122 #[ptr sb] D fun v A=>v = .int .i64 s.res ∧ A = D:=by
 obtain ⟨qb,rv,RG,pv,PG,lv,LG,ls,rfl,h⟩:=hD
 refine ((reserved_spec sb qb s.res pv lv).beside (F:=QuB qb s.att rv :: (RG ++ (PG ++ (LG ++ ls.flatMap Lg.G))))).mono fun v A hR=>?_
 obtain ⟨A',⟨rfl,rfl⟩,rfl⟩:=hR
 exact ⟨rfl,rfl⟩
@[reducible] def CoN (xb lb lm tb cb mb db wb sb:Nat) (c:Cf) (sv:Value) (G SD D:List Blk) (h:Hd):List Blk :=
 CoB xb lb tb cb mb db wb sb c (.slice none 0 0) false :: (Ls.TB lb lm c.lease [] 0 ++ (Se.TabB tb sv G ++ (CtB cb c.block 0 0 :: (mb,mpo [] 0) :: WlB wb db ⟨h,0,false⟩ :: (SD ++ D))))
def OpenN (c:Cf) (db:Nat) (D:List Blk) (h:Hd) (v:Value) (A:List Blk):Prop :=
 ∃ xb lb lm tb cb mb wb sb sv G SD,v = .tuple #[ptr xb,.int .i64 0] ∧ A = CoN xb lb lm tb cb mb db wb sb c sv G SD D h ∧ Se.OwnK sv (Se.fresh c.runners.toNat) G ∧ StA sb ⟨c.attempts,[],0,[],[]⟩ SD
theorem open_new (B0:Base) (c:Cf) (hc:CfOk c) (db:Nat) (x:Dk) (k:Nat) (D:List Blk) (hD:DkA db x k D) (hf:(x.S.length:Int) = 2 + 2 * c.half) (h:Hd) (how:openW x = (some (h,⟨#[]⟩,[]),0)) :
  ConB prog B0 75 #[.agg c.row.toArray,ptr db] D (OpenN c db D h):=by
 refine zqJ (vs:=[_,_]) func75 ntmps75 fun B hB=>?_
 have hfit:fitsF c x = true:=by unfold fitsF;rw [show checkC c = 0 from if_pos hc];simp [hf]
 repeat' (first|refine zs1 ?_|refine Ops.box rfl rfl rfl rfl (noPd rfl) (fun b=>?_))
 rename Nat=>bc
 refine zqA (fits_spec c db x k D hD) fun v A' hR=>?_
 obtain ⟨rfl,e⟩:=hR
 subst A'
 rw [hfit]
 refine zg4 ?_
 refine zqB (wopen_spec B0 db x k D hD) hB fun v A' hR=>?_
 rcases hR with ⟨hn,_⟩|⟨h2,s2,l2,wb,rv,RG,ho2,rfl,rfl,hrs⟩
 ·rw [how] at hn;cases hn
 rw [how] at ho2
 injection ho2 with ho2 _
 injection ho2 with ho2
 injection ho2 with e1 ho2
 injection ho2 with e2 e3
 subst e1
 subst e2
 subst e3
 obtain ⟨ra,rc,rfl⟩:=hrs.form
 refine zg4 ?_
 rw [show ([]:List ByteArray).length = 0 from rfl,show (((0:Nat):Int)) = 0 from rfl]
 obtain ⟨⟨a1,a2⟩,⟨b1,b2⟩,_,⟨c1,c2⟩,_⟩:=id hc
 refine zqB (loaded_new B0 c.attempts c1 c2 ra rc) hB fun v A' hR=>?_
 obtain ⟨sb,rfl,hS⟩:=hR
 rename List Blk=>SD
 refine zg7 ?_
 refine zdr [qy 0,qz 1,qy 4,qz 5,qz 6,qz 7,(2,2,[0,4]),(3,2,[4]),qz 8,(9,2,[]),qz 10] ?_
 refine zg3 ?_
 refine Ops.call (res_own sb _ SD hS) rfl zp1 rfl rfl rfl (fun v A' hR=>?_)
 obtain ⟨rfl,e⟩:=hR
 subst A'
 refine Ops.call (begun_spec c hc 0 (by omega) (by omega)) rfl (by intro v A' hR i hi;obtain ⟨A2,hR,rfl⟩:=hR;obtain ⟨lb,lm,tb,sv,G,cb,mb,rfl,rfl,hO⟩:=hR;(repeat (rcases List.mem_cons.1 hi with rfl|hi;· (first|exact Still.ld1 rfl rfl rfl rfl rfl|exact Still.ldN rfl rfl rfl rfl|exact Still.len rfl rfl rfl rfl rfl|exact Still.skip rfl rfl rfl|exact Still.ldRow1 rfl rfl rfl (by assumption) (by assumption) rfl rfl|exact Still.ldR rfl rfl rfl (by apply_assumption) rfl)));cases hi) rfl rfl rfl (fun v A' hR=>?_)
 obtain ⟨lb,lm,tb,sv,G,cb,mb,rfl,rfl,hO⟩:=hR
 repeat' (first|refine zs3 ?_|refine Ops.box rfl rfl rfl rfl zp3 (fun b=>?_))
 rename Nat=>xb
 refine Ops.callB (view_own B0 sb _ SD hS (stOk_new c1 c2)) hB rfl (noPd rfl) rfl rfl rfl (fun v A' hR=>?_)
 obtain ⟨VG,⟨va,ps,JG,rfl,rfl,hJ,hT,hps⟩,rfl⟩:=hR
 dsimp only [List.length_nil]
 refine Ops.fld ⟨_,_,_,underlying49,rfl,underlying47,rfl,rfl⟩ rfl rfl rfl rfl rfl ?_
 refine zg1 ?_
 refine Cd.loopK (σ:=Unit) (fun _=>True) (fun _=>[(11,ptr xb),(60,.int .i64 0),(61,.int .i64 0)]) (fun _=>CoN xb lb lm tb cb mb db wb sb c sv G SD D h) (fun _=>0) () trivial ⟨rfl,rfl,rfl,trivial⟩ (fun w h=>h.split) (fun _ _=>?_)
 refine zg4 ?_
 exact Cd.ret (ret2 (A':=CoN xb lb lm tb cb mb db wb sb c sv G SD D h) rfl (Res.tmp rfl) (Res.tmp rfl) (fun _ h=>h.split) ⟨xb,lb,lm,tb,cb,mb,wb,sb,sv,G,SD,rfl,rfl,hO,hS⟩)
theorem new_new (B0:Base) (c:Cf) (hc:CfOk c) (db:Nat) (x x1:Dk) (k:Nat) (D:List Blk) (hD:DkA db x k D) (hk:k < 900000000000) (hf:(x.S.length:Int) = 2 + 2 * c.half) (hfm:formatF x = (x1,0)) (hf1:(x1.S.length:Int) = 2 + 2 * c.half) (h:Hd) (how:openW x1 = (some (h,⟨#[]⟩,[]),0)) :
  ConB prog B0 34 #[.agg c.row.toArray,ptr db] D (fun v A=>∃ D',DkA db x1 (k + 1) D' ∧ OpenN c db D' h v A):=by
 refine zqJ (vs:=[_,_]) func34 ntmps34 fun B hB=>?_
 have hfit:fitsF c x = true:=by unfold fitsF;rw [show checkC c = 0 from if_pos hc];simp [hf]
 repeat' (first|refine zs1 ?_|refine Ops.box rfl rfl rfl rfl (noPd rfl) (fun b=>?_))
 rename Nat=>bc
 refine zqA (fits_spec c db x k D hD) fun v A' hR=>?_
 obtain ⟨rfl,e⟩:=hR
 subst A'
 rw [hfit]
 refine zg4 ?_
 refine zqB (format_spec B0 db x k D hD hk) hB fun v A' hR=>?_
 rw [hfm] at hR
 obtain ⟨rfl,hD1⟩:=hR
 rename List Blk=>D1
 refine zg4 ?_
 refine zqB (open_new B0 c hc db x1 (k + 1) D1 hD1 hf1 h how) hB fun v A' hR=>?_
 obtain ⟨xb,lb,lm,tb,cb,mb,wb,sb,sv,G,SD,rfl,rfl,hO,hS⟩:=hR
 refine zg1 ?_
 exact Cd.ret (ret2 (A':=CoN xb lb lm tb cb mb db wb sb c sv G SD D1 h) rfl (Res.tmp rfl) (Res.tmp rfl) (fun _ h=>h.split) ⟨D1,hD1,xb,lb,lm,tb,cb,mb,wb,sb,sv,G,SD,rfl,rfl,hO,hS⟩)
theorem lives_spec (xb lb tb cb mb db wb sb:Nat) (c:Cf) (tv:Value) (dead:Bool) (x:Dk) (k:Nat) (D:List Blk) (hD:DkA db x k D) :
  Con prog 78 #[ptr xb] (CoB xb lb tb cb mb db wb sb c tv dead :: D) fun v A=>v = .bool (!(dead || x.de)) ∧ A = CoB xb lb tb cb mb db wb sb c tv (dead || x.de) :: D:=by
 refine zqI (vs:=[_]) func78 ntmps78 fun B=>?_
 cases dead with
 | true =>
  refine zg7 ?_
  exact Cd.ret (ret1 (A':=CoB xb lb tb cb mb db wb sb c tv true :: D) rfl (Res.tmp rfl) (fun _ h=>h.split) ⟨rfl,rfl⟩)
 | false =>
  refine zg1 ?_
  refine zqA (ddead_spec db x.S x.ar x.bd x.de k D hD.a) fun v A' hR=>?_
  obtain ⟨rfl,e⟩:=hR
  subst A'
  refine zg7 ?_
  exact Cd.ret (ret1 (A':=CoB xb lb tb cb mb db wb sb c tv x.de :: D) rfl (Res.tmp rfl) (fun _ h=>h.split) ⟨by rw [Bool.false_or],by rw [Bool.false_or]⟩)
theorem records_spec (wb db:Nat) (w:Wl):Con prog 106 #[ptr wb] [WlB wb db w] fun v A=>v = .int .i64 w.recs ∧ A = [WlB wb db w]:=by
 refine zqI (vs:=[_]) func106 ntmps106 fun B=>?_
 refine zg1 ?_
 exact Cd.ret (ret1 (A':=[WlB wb db w]) rfl (Res.tmp rfl) (fun _ h=>h.split) ⟨rfl,rfl⟩)
def OwnC (sv:Value) (l:List Cg) (G:List Blk):Prop:=Own 103 10 sv (l.map Cg.row) G
theorem OwnC.form {sv:Value} {l:List Cg} {G:List Blk} (h:OwnC sv l G):∃ a c,sv = .slice a l.length c:=by
 obtain ⟨a,c,h⟩:=Own.form h
 exact ⟨a,c,by rw [h,List.length_map]⟩
theorem makes_nil (B0:Base) (xb:Nat) (a:Option Addr) (cp:Nat):ConB prog B0 69 #[ptr xb,.slice a 0 cp] [] fun v A=>A = []:=by
 refine zqJ (vs:=[_,_]) func69 ntmps69 fun B hB=>?_
 refine zg7 ?_
 exact Cd.ret (ret0 (A':=[]) rfl (fun _ h=>h.split) rfl)
theorem makes_spec (B0:Base) (xb lb tb cb mb db wb sb:Nat) (c:Cf) (dead:Bool) (w w1:Wl) (x x1:Dk) (k:Nat) (D:List Blk) (hD:DkA db x k D) (s:StP) (SD:List Blk) (hS:StA sb s SD) (ok:StOk s) (tv:Value) (tl:List Cg) (TG:List Blk) (hT:OwnC tv tl TG) (htl:tl.length ≤ 1000000000)
  (a:Option Addr) (cp:Nat) (l:List Cg) (hC:CIn B0 a l) (h0:0 < l.length) (hl:l.length ≤ 2000000) (hst:∀ g ∈ l,checkF g.c = 0 → StepOk B0 g.c) (wok:WlOk w x.S.length) (hk:k ≤ 800000000000)
  (hz:(encodeF (l.map Cg.c)).1.size ≤ 900000) (hev:w.recs < c.every) (hrm:(encodeF (l.map Cg.c)).1.size ≤ roomW w x.S.length) (hap:appendF w x (encodeF (l.map Cg.c)).1 = ((w1,x1),0)) :
  ConB prog B0 69 #[ptr xb,.slice a l.length cp] (CoB xb lb tb cb mb db wb sb c tv dead :: WlB wb db w :: (SD ++ (D ++ TG)))
   fun v A=>∃ SD1 D1 tv1 TG1,A = CoB xb lb tb cb mb db wb sb c tv1 dead :: WlB wb db w1 :: (SD1 ++ (D1 ++ TG1)) ∧ StA sb (applyF s (l.map Cg.c)).2 SD1 ∧ DkA db x1 (k + (encodeF (l.map Cg.c)).1.size + 20) D1 ∧ OwnC tv1 (tl ++ l) TG1:=by
 obtain ⟨ta,tc,rfl⟩:=hT.form
 refine zqJ (vs:=[_,_]) func69 ntmps69 fun B hB=>?_
 have h0':¬ ((l.length:Nat):Int) = 0:=by omega
 refine zg2 ?_
 refine zqB (encode_spec B0 a cp l hC hl) hB fun v A' hR=>?_
 obtain ⟨rfl,rfl⟩:=hR
 generalize encodeF (l.map Cg.c) = en at hz hrm hap ⊢
 obtain ⟨r,er⟩:=en
 dsimp only at hz hrm hap ⊢
 have hev':¬ c.every ≤ w.recs:=by omega
 have hrm':¬ ((roomW w x.S.length:Nat):Int) < (r.size:Int):=by omega
 refine zg1 ?_
 refine zdr [qz 0,qz 1,qz 2,qy 3,qz 5,qz 6,qz 7,qz 8,qy 9,(4,2,[9]),qz 10,qz 11,qz 12,qz 13,qz 14,qy 15,qz 17,qz 18,(16,2,[]),qz 19,qz 20] ?_
 refine zg5 ?_
 refine Ops.call (records_spec wb db w) rfl zp1 rfl rfl rfl (fun v A' hR=>?_)
 obtain ⟨rfl,rfl⟩:=hR
 refine zg11 ?_
 refine Ops.callB (roomw_spec B0 wb db w x k D hD wok) hB rfl zp1 rfl rfl rfl (fun v A' hR=>?_)
 obtain ⟨rfl,rfl⟩:=hR
 refine zg8 ?_
 refine zqB (append_spec B0 wb db w x k D hD r wok hz hk) hB fun v A' hR=>?_
 rw [hap] at hR
 obtain ⟨rfl,D1,rfl,hD1⟩:=hR
 dsimp only at hD1 ⊢
 refine zg7 ?_
 refine zqB (apply_spec B0 sb s SD hS ok a cp l hC (by omega) hst) hB fun v A' hR=>?_
 obtain ⟨rfl,hS1⟩:=hR
 rename List Blk=>SD1
 refine zg1 ?_
 refine Ops.appS (rows:=tl.map Cg.row) (news:=l.map Cg.row) hT ((by simpa using (hC.ext hB).r.reads (cgs_ok l) (by decide) cp _):Reads _ _ _ 10 (.slice a l.length cp) _) (by simp only [List.length_map];omega) (by simp only [List.length_map];omega) rfl rfl rfl rfl rfl (noPd rfl) rfl (fun v G' hG'=>?_)
 rw [← List.map_append] at hG'
 have hG2:OwnC v (tl ++ l) G':=hG'
 obtain ⟨ta1,tc1,rfl⟩:=hG2.form
 refine zg1 ?_
 exact Ops.nilN (end0 (A':=CoB xb lb tb cb mb db wb sb c (.slice ta1 (tl ++ l).length tc1) dead :: WlB wb db w1 :: (SD1 ++ (D1 ++ G'))) rfl (fun _ h=>h.split) ⟨SD1,D1,_,G',rfl,hS1,hD1,hG2⟩)
@[reducible] def MgB (mb:Nat) (L:List Value):Blk:=(mb,cl L 38)
@[reducible] def fnV (f:FuncId):Value:=.func (.func f) #[] #[]
theorem sel_fields_1 (mb:Nat):Con prog 128 #[ptr mb] [] fun v A=>v = .pointer (some ⟨mb,1,none⟩) ∧ A = []:=by
 refine zqI (vs:=[_]) func128 ntmps128 fun B=>?_
 refine zg1 ?_
 exact ze9
theorem sel_fields_2 (mb:Nat):Con prog 129 #[ptr mb] [] fun v A=>v = .pointer (some ⟨mb,2,none⟩) ∧ A = []:=by
 refine zqI (vs:=[_]) func129 ntmps129 fun B=>?_
 refine zg1 ?_
 exact ze9
theorem sel_fields_3 (mb:Nat):Con prog 130 #[ptr mb] [] fun v A=>v = .pointer (some ⟨mb,3,none⟩) ∧ A = []:=by
 refine zqI (vs:=[_]) func130 ntmps130 fun B=>?_
 refine zg1 ?_
 exact ze9
theorem sel_fields_4 (mb:Nat):Con prog 131 #[ptr mb] [] fun v A=>v = .pointer (some ⟨mb,4,none⟩) ∧ A = []:=by
 refine zqI (vs:=[_]) func131 ntmps131 fun B=>?_
 refine zg1 ?_
 exact ze9
theorem sel_fields_5_1 (mb:Nat):Con prog 133 #[ptr mb] [] fun v A=>v = .pointer (some ⟨mb,5,none⟩) ∧ A = []:=by
 refine zqI (vs:=[_]) func133 ntmps133 fun B=>?_
 refine zg1 ?_
 exact ze9
theorem sel_fields_6_1 (mb:Nat):Con prog 135 #[ptr mb] [] fun v A=>v = .pointer (some ⟨mb,6,none⟩) ∧ A = []:=by
 refine zqI (vs:=[_]) func135 ntmps135 fun B=>?_
 refine zg1 ?_
 exact ze9
theorem sel_fields_7 (mb:Nat):Con prog 137 #[ptr mb] [] fun v A=>v = .pointer (some ⟨mb,9,none⟩) ∧ A = []:=by
 refine zqI (vs:=[_]) func137 ntmps137 fun B=>?_
 refine zg1 ?_
 exact ze9
theorem sel_fields_8 (mb:Nat):Con prog 138 #[ptr mb] [] fun v A=>v = .pointer (some ⟨mb,10,none⟩) ∧ A = []:=by
 refine zqI (vs:=[_]) func138 ntmps138 fun B=>?_
 refine zg1 ?_
 exact ze9
class SelOk (sel:FuncId) (off:outParam Nat):Prop where
 s:∀ mb:Nat,Con prog sel #[ptr mb] [] fun v A=>v = .pointer (some ⟨mb,off,none⟩) ∧ A = []
instance :SelOk 128 1:=⟨sel_fields_1⟩
instance :SelOk 129 2:=⟨sel_fields_2⟩
instance :SelOk 130 3:=⟨sel_fields_3⟩
instance :SelOk 131 4:=⟨sel_fields_4⟩
instance :SelOk 133 5:=⟨sel_fields_5_1⟩
instance :SelOk 135 6:=⟨sel_fields_6_1⟩
instance :SelOk 137 9:=⟨sel_fields_7⟩
instance :SelOk 138 10:=⟨sel_fields_8⟩
theorem whole1_spec (mb ob lb hb:Nat) (sel:FuncId) [FnOk prog sel] (L:List Value) (off:Nat) (n lo hi:Int) [hs:SelOk sel off] (hv:L[off]? = some (.int .i64 n)) :
  Con prog 195 #[ptr mb,ptr ob,ptr lb,ptr hb] [MgB mb L,(ob,cl [fnV sel] 226),(lb,cl [.int .i64 lo] 3),(hb,cl [.int .i64 hi] 3)] fun v A=>v = .bool (decide (lo ≤ n ∧ n ≤ hi)) ∧ A = [MgB mb L,(ob,cl [fnV sel] 226),(lb,cl [.int .i64 lo] 3),(hb,cl [.int .i64 hi] 3)]:=by
 refine zqI (vs:=[_,_,_,_]) func195 ntmps195 fun B=>?_
 by_cases h1:lo ≤ n
 ·refine zg0 ?_
  refine zdr [qy 0,qz 1,qy 5,(2,2,[5]),qz 3,qy 4,qz 6,qz 7,qy 8,qz 9,qy 13,(10,2,[13]),qz 11,qy 12,qz 14,qz 15,qz 16] ?_
  refine zg5 ?_
  refine Ops.callV (fi:=[]) (ca:=[]) (vs:=[_]) (hs.s mb) rfl zp1 rfl rfl rfl rfl (fun v A' hR=>?_)
  obtain ⟨rfl,rfl⟩:=hR
  refine zg5 ?_
  refine Ops.ld1 rfl rfl rfl hv rfl ?_
  refine zg7 ?_
  refine Ops.callV (fi:=[]) (ca:=[]) (vs:=[_]) (hs.s mb) rfl zp1 rfl rfl rfl rfl (fun v A' hR=>?_)
  obtain ⟨rfl,rfl⟩:=hR
  refine zg5 ?_
  refine Ops.ld1 rfl rfl rfl hv rfl ?_
  refine zg3 ?_
  exact Cd.ret (ret1 (A':=[MgB mb L,(ob,cl [fnV sel] 226),(lb,cl [.int .i64 lo] 3),(hb,cl [.int .i64 hi] 3)]) rfl (Res.tmp rfl) (fun _ h=>h.split) ⟨by congr 1;exact decide_eq_decide.2 ⟨fun h=>⟨h1,h⟩,fun h=>h.2⟩,rfl⟩)
 ·refine zg0 ?_
  refine zdr [qy 0,qz 1,qy 5,(2,2,[5]),qz 3,qy 4,qz 6,qz 7,qy 8,qz 9,qy 13,(10,2,[13]),qz 11,qy 12,qz 14,qz 15,qz 16] ?_
  refine zg5 ?_
  refine Ops.callV (fi:=[]) (ca:=[]) (vs:=[_]) (hs.s mb) rfl zp1 rfl rfl rfl rfl (fun v A' hR=>?_)
  obtain ⟨rfl,rfl⟩:=hR
  refine zg5 ?_
  refine Ops.ld1 rfl rfl rfl hv rfl ?_
  refine zg12 ?_
  exact Cd.ret (ret1 (A':=[MgB mb L,(ob,cl [fnV sel] 226),(lb,cl [.int .i64 lo] 3),(hb,cl [.int .i64 hi] 3)]) rfl (Res.tmp rfl) (fun _ h=>h.split) ⟨by rw [decide_eq_false (fun h:lo ≤ n ∧ n ≤ hi=>h1 h.1)],rfl⟩)
theorem whole2_spec (mb ob:Nat) (sel:FuncId) [FnOk prog sel] (L:List Value) (off:Nat) (n:Int) [hs:SelOk sel off] (hv:L[off]? = some (.int .i64 n)) (h0:0 ≤ n) (h1:n < 9223372036854775808) :
  Con prog 196 #[ptr mb,ptr ob] [MgB mb L,(ob,cl [fnV sel] 226)] fun v A=>v = .string (numB n.toNat) ∧ A = [MgB mb L,(ob,cl [fnV sel] 226)]:=by
 obtain ⟨m,rfl⟩:∃ m:Nat,n = m:=⟨n.toNat,by omega⟩
 refine zqI (vs:=[_,_]) func196 ntmps196 fun B=>?_
 refine zg1 ?_
 refine Ops.callV (fi:=[]) (ca:=[]) (vs:=[_]) (hs.s mb) rfl (noPd rfl) rfl rfl rfl rfl (fun v A' hR=>?_)
 obtain ⟨rfl,rfl⟩:=hR
 refine zg5 ?_
 refine Ops.ld1 rfl rfl rfl hv rfl ?_
 refine Ops.cvI rfl rfl rfl rfl ?_
 rw [wrap_u64 (by omega),Int.toNat_natCast]
 refine zqA (num_spec m (by omega)) fun v A' hR=>?_
 obtain ⟨rfl,rfl⟩:=hR
 refine zg0 ?_
 exact Cd.ret (ret1 (A':=[MgB mb L,(ob,cl [fnV sel] 226)]) rfl (Res.tmp rfl) (fun _ h=>h.split) ⟨rfl,rfl⟩)
theorem rdNum_le {b:ByteArray} {most p:Nat} {e:Int}:(rdNum b most p e).1 ≤ most:=by
 unfold rdNum
 split
 ·exact Nat.zero_le _
 ·split
  ·exact Nat.zero_le _
  ·rename_i n q h
   exact numGo_le _ _ _ _ h
theorem whole3_spec (B0:Base) (mb ob rb:Nat) (sel:FuncId) [FnOk prog sel] (L:List Value) (off:Nat) (v0:Value) [hs:SelOk sel off] (hv:L[off]? = some v0) (bs:ByteArray) (p:Nat) (e:Int) (hp:p ≤ bs.size) (hb:bs.size ≤ 1000000) :
  ConB prog B0 197 #[ptr mb,ptr rb,ptr ob] [MgB mb L,RdB rb bs p e,(ob,cl [fnV sel] 226)]
   fun v A=>A = [MgB mb (L.set off (.int .i64 (((rdNum bs 1099511627776 p e).1:Nat):Int))),RdB rb bs (((rdNum bs 1099511627776 p e).2.1:Nat):Int) (rdNum bs 1099511627776 p e).2.2,(ob,cl [fnV sel] 226)]:=by
 have hle:=rdNum_le (b:=bs) (most:=1099511627776) (p:=p) (e:=e)
 have hlt:=(List.getElem?_eq_some_iff.1 hv).1
 refine zqJ (vs:=[_,_,_]) func197 ntmps197 fun B hB=>?_
 refine zg1 ?_
 refine Ops.callV (fi:=[]) (ca:=[]) (vs:=[_]) (hs.s mb) rfl (noPd rfl) rfl rfl rfl rfl (fun v A' hR=>?_)
 obtain ⟨rfl,rfl⟩:=hR
 refine zg0 ?_
 refine zqB (rnum_spec B0 rb bs p 1099511627776 e hp hb (by decide)) hB fun v A' hR=>?_
 obtain ⟨rfl,rfl⟩:=hR
 refine Ops.cvI rfl rfl rfl rfl ?_
 rw [wrap_i64 (by omega)]
 refine zg5 ?_
 refine Ops.st1 (L':=L.set off (.int .i64 (((rdNum bs 1099511627776 p e).1:Nat):Int))) rfl rfl rfl rfl rfl (hs:=⟨rfl,hlt⟩) (noPd rfl) ?_
 exact Ops.nilN (end0 (A':=[MgB mb (L.set off (.int .i64 (((rdNum bs 1099511627776 p e).1:Nat):Int))),RdB rb bs (((rdNum bs 1099511627776 p e).2.1:Nat):Int) (rdNum bs 1099511627776 p e).2.2,(ob,cl [fnV sel] 226)]) rfl (fun _ h=>h.split) rfl)
theorem text_1_spec (mb ob lb hb:Nat) (sel:FuncId) [FnOk prog sel] (L:List Value) (off:Nat) (s:ByteArray) (lo hi:Int) [hs:SelOk sel off] (hv:L[off]? = some (.string s)) :
  Con prog 198 #[ptr mb,ptr ob,ptr lb,ptr hb] [MgB mb L,(ob,cl [fnV sel] 230),(hb,cl [.int .i64 hi] 3),(lb,cl [.int .i64 lo] 3)] fun v A=>v = .bool (decide (lo ≤ (s.size:Nat) ∧ ((s.size:Nat):Int) ≤ hi)) ∧ A = [MgB mb L,(ob,cl [fnV sel] 230),(hb,cl [.int .i64 hi] 3),(lb,cl [.int .i64 lo] 3)]:=by
 refine zqI (vs:=[_,_,_,_]) func198 ntmps198 fun B=>?_
 by_cases h1:lo ≤ (s.size:Nat)
 ·refine zg0 ?_
  refine zdr [qy 0,qz 1,qy 6,(2,2,[6]),qz 3,qy 4,qz 5,qz 7,qz 8,qy 9,qz 10,qy 15,(11,2,[15]),qz 12,qy 13,qz 14,qz 16,qz 17,qz 18] ?_
  refine zg5 ?_
  refine Ops.callV (fi:=[]) (ca:=[]) (vs:=[_]) (hs.s mb) rfl zp1 rfl rfl rfl rfl (fun v A' hR=>?_)
  obtain ⟨rfl,rfl⟩:=hR
  refine zg5 ?_
  refine Ops.ld1 rfl rfl rfl hv rfl ?_
  refine zg7 ?_
  refine Ops.callV (fi:=[]) (ca:=[]) (vs:=[_]) (hs.s mb) rfl zp1 rfl rfl rfl rfl (fun v A' hR=>?_)
  obtain ⟨rfl,rfl⟩:=hR
  refine zg5 ?_
  refine Ops.ld1 rfl rfl rfl hv rfl ?_
  refine zg3 ?_
  exact Cd.ret (ret1 (A':=[MgB mb L,(ob,cl [fnV sel] 230),(hb,cl [.int .i64 hi] 3),(lb,cl [.int .i64 lo] 3)]) rfl (Res.tmp rfl) (fun _ h=>h.split) ⟨by congr 1;exact decide_eq_decide.2 ⟨fun h=>⟨h1,h⟩,fun h=>h.2⟩,rfl⟩)
 ·refine zg0 ?_
  refine zdr [qy 0,qz 1,qy 6,(2,2,[6]),qz 3,qy 4,qz 5,qz 7,qz 8,qy 9,qz 10,qy 15,(11,2,[15]),qz 12,qy 13,qz 14,qz 16,qz 17,qz 18] ?_
  refine zg5 ?_
  refine Ops.callV (fi:=[]) (ca:=[]) (vs:=[_]) (hs.s mb) rfl zp1 rfl rfl rfl rfl (fun v A' hR=>?_)
  obtain ⟨rfl,rfl⟩:=hR
  refine zg5 ?_
  refine Ops.ld1 rfl rfl rfl hv rfl ?_
  refine zg12 ?_
  exact Cd.ret (ret1 (A':=[MgB mb L,(ob,cl [fnV sel] 230),(hb,cl [.int .i64 hi] 3),(lb,cl [.int .i64 lo] 3)]) rfl (Res.tmp rfl) (fun _ h=>h.split) ⟨by rw [decide_eq_false (fun h:lo ≤ (s.size:Nat) ∧ ((s.size:Nat):Int) ≤ hi=>h1 h.1)],rfl⟩)
theorem text_2_spec (mb ob:Nat) (sel:FuncId) [FnOk prog sel] (L:List Value) (off:Nat) (s:ByteArray) [hs:SelOk sel off] (hv:L[off]? = some (.string s)) (hz:s.size ≤ 1000000) :
  Con prog 199 #[ptr mb,ptr ob] [MgB mb L,(ob,cl [fnV sel] 230)] fun v A=>v = .string (frameF s) ∧ A = [MgB mb L,(ob,cl [fnV sel] 230)]:=by
 refine zqI (vs:=[_,_]) func199 ntmps199 fun B=>?_
 refine zg1 ?_
 refine Ops.callV (fi:=[]) (ca:=[]) (vs:=[_]) (hs.s mb) rfl (noPd rfl) rfl rfl rfl rfl (fun v A' hR=>?_)
 obtain ⟨rfl,rfl⟩:=hR
 refine zg5 ?_
 refine Ops.ld1 rfl rfl rfl hv rfl ?_
 refine zqA (text_spec s (by omega)) fun v A' hR=>?_
 obtain ⟨rfl,rfl⟩:=hR
 refine zg0 ?_
 exact Cd.ret (ret1 (A':=[MgB mb L,(ob,cl [fnV sel] 230)]) rfl (Res.tmp rfl) (fun _ h=>h.split) ⟨rfl,rfl⟩)
theorem text_3_spec (B0:Base) (mb ob hb rb:Nat) (sel:FuncId) [FnOk prog sel] (L:List Value) (off:Nat) (v0:Value) (hi:Nat) [hs:SelOk sel off] (hv:L[off]? = some v0) (bs:ByteArray) (p:Nat) (e:Int) (hp:p ≤ bs.size) (hb2:bs.size ≤ 1000000) (hhi:hi ≤ 1000000) :
  ConB prog B0 200 #[ptr mb,ptr rb,ptr hb,ptr ob] [MgB mb L,RdB rb bs p e,(ob,cl [fnV sel] 230),(hb,cl [.int .i64 hi] 3)]
   fun v A=>A = [MgB mb (L.set off (.string (rdText bs hi p e).1)),RdB rb bs (((rdText bs hi p e).2.1:Nat):Int) (rdText bs hi p e).2.2,(ob,cl [fnV sel] 230),(hb,cl [.int .i64 hi] 3)]:=by
 have hlt:=(List.getElem?_eq_some_iff.1 hv).1
 refine zqJ (vs:=[_,_,_,_]) func200 ntmps200 fun B hB=>?_
 refine zdr [qy 0,qz 1,qz 3,qy 4,(2,2,[4]),(5,2,[]),qz 6,(7,2,[])] ?_
 refine zg5 ?_
 refine Ops.callV (fi:=[]) (ca:=[]) (vs:=[_]) (hs.s mb) rfl zp1 rfl rfl rfl rfl (fun v A' hR=>?_)
 obtain ⟨rfl,rfl⟩:=hR
 refine zqB (rtext_spec B0 rb bs p hi e hp hb2 hhi) hB fun v A' hR=>?_
 obtain ⟨rfl,rfl⟩:=hR
 refine zg5 ?_
 refine Ops.st1 (L':=L.set off (.string (rdText bs hi p e).1)) rfl rfl rfl rfl rfl (hs:=⟨rfl,hlt⟩) (noPd rfl) ?_
 exact Ops.nilN (end0 (A':=[MgB mb (L.set off (.string (rdText bs hi p e).1)),RdB rb bs (((rdText bs hi p e).2.1:Nat):Int) (rdText bs hi p e).2.2,(ob,cl [fnV sel] 230),(hb,cl [.int .i64 hi] 3)]) rfl (fun _ h=>h.split) rfl)
structure Ms where
 kind:Int
 session:Int
 number:Int
 job:Int
 badge:Int
 index:Int
 count:Int
 rcode:Int
 rbits:Int
 text:ByteArray
 prog:ByteArray
@[reducible] def Ms.row (m:Ms):List Value:=[.int .i64 m.kind,.int .i64 m.session,.int .i64 m.number,.int .i64 m.job,.int .i64 m.badge,.int .i64 m.index,.int .i64 m.count,.int .i64 m.rcode,.int .u64 m.rbits,.string m.text,.string m.prog]
@[reducible] def Ms.zero:Ms:=⟨0,0,0,0,0,0,0,0,0,⟨#[]⟩,⟨#[]⟩⟩
inductive Wh where
 | session|number|job|badge|index|count
def Wh.off:Wh → Nat
 | .session=>1|.number=>2|.job=>3|.badge=>4|.index=>5|.count=>6
def Wh.get (m:Ms):Wh → Int
 | .session=>m.session|.number=>m.number|.job=>m.job|.badge=>m.badge|.index=>m.index|.count=>m.count
def Wh.set (m:Ms) (n:Int):Wh → Ms
 | .session=>{ m with session:=n }|.number=>{ m with number:=n }|.job=>{ m with job:=n }|.badge=>{ m with badge:=n }|.index=>{ m with index:=n }|.count=>{ m with count:=n }
theorem Wh.at_ (m:Ms) (w:Wh):m.row[w.off]? = some (.int .i64 (w.get m)):=by cases w <;> rfl
theorem Wh.put (m:Ms) (w:Wh) (n:Int):m.row.set w.off (.int .i64 n) = (w.set m n).row:=by cases w <;> rfl
inductive Th where
 | text|prog
def Th.off:Th → Nat
 | .text=>9|.prog=>10
def Th.get (m:Ms):Th → ByteArray
 | .text=>m.text|.prog=>m.prog
def Th.set (m:Ms) (s:ByteArray):Th → Ms
 | .text=>{ m with text:=s }|.prog=>{ m with prog:=s }
theorem Th.at_ (m:Ms) (w:Th):m.row[w.off]? = some (.string (w.get m)):=by cases w <;> rfl
theorem Th.put (m:Ms) (w:Th) (s:ByteArray):m.row.set w.off (.string s) = (w.set m s).row:=by cases w <;> rfl
inductive Fd where
 | whole (w:Wh) (lo hi:Int)
 | text (t:Th) (lo hi:Nat)
 | result
def canonF (n:Nat):Nat:=if 9218868437227405312 < n % 9223372036854775808 then 9221120237041090561 else n
def Fd.may (m:Ms):Fd → Bool
 | .whole w lo hi=>decide (lo ≤ w.get m ∧ w.get m ≤ hi)
 | .text t lo hi=>decide ((lo:Int) ≤ ((t.get m).size:Nat) ∧ (((t.get m).size:Nat):Int) ≤ (hi:Int))
 | .result=>(decide (m.rcode = 0) && decide (((canonF m.rbits.toNat:Nat):Int) = m.rbits)) || (decide (0 < m.rcode ∧ m.rcode ≤ 7) && decide (m.rbits = 0))
def Fd.lay (m:Ms):Fd → ByteArray
 | .whole w _ _=>numB (w.get m).toNat
 | .text t _ _=>frameF (t.get m)
 | .result=>numB m.rcode.toNat ++ hiB m.rbits.toNat 8
def rdBits (b:ByteArray) (p:Nat) (e:Int):Nat × Nat × Int:=if e ≠ 0 then (0,p,e) else if p + 8 ≤ b.size then (ofn (b.extract p (p + 8)) 8,p + 8,0) else (0,p,20)
def Fd.read (b:ByteArray) (s:Ms × Nat × Int):Fd → Ms × Nat × Int
 | .whole w _ _=>(w.set s.1 ((rdNum b 1099511627776 s.2.1 s.2.2).1:Nat),(rdNum b 1099511627776 s.2.1 s.2.2).2)
 | .text t _ hi=>(t.set s.1 (rdText b hi s.2.1 s.2.2).1,(rdText b hi s.2.1 s.2.2).2)
 | .result=>({ s.1 with rcode:=((rdNum b 7 s.2.1 s.2.2).1:Nat),rbits:=((rdBits b (rdNum b 7 s.2.1 s.2.2).2.1 (rdNum b 7 s.2.1 s.2.2).2.2).1:Nat) },(rdBits b (rdNum b 7 s.2.1 s.2.2).2.1 (rdNum b 7 s.2.1 s.2.2).2.2).2)
structure MsOk (m:Ms):Prop where
 t:m.text.size ≤ 100000
 p:m.prog.size ≤ 100000
 x:0 ≤ m.rbits ∧ m.rbits < 18446744073709551616
structure FdA (fd:Fd) (v1 v2 v3:Value) (G:List Blk):Prop where
 may:∃ f ca,v1 = .func (.func f) #[] ca.toArray ∧ FnOk prog f ∧ ∀ mb m,MsOk m → Con prog f ([ptr mb] ++ ca).toArray (MgB mb m.row :: G) fun v A=>v = .bool (fd.may m) ∧ A = MgB mb m.row :: G
 lay:∃ f ca,v2 = .func (.func f) #[] ca.toArray ∧ FnOk prog f ∧ ∀ mb m,MsOk m → fd.may m = true → Con prog f ([ptr mb] ++ ca).toArray (MgB mb m.row :: G) fun v A=>v = .string (fd.lay m) ∧ A = MgB mb m.row :: G
 read:∃ f ca,v3 = .func (.func f) #[] ca.toArray ∧ FnOk prog f ∧ ∀ B0 mb m rb (bs:ByteArray) (p:Nat) (e:Int),p ≤ bs.size → bs.size ≤ 1000000 → ConB prog B0 f ([ptr mb,ptr rb] ++ ca).toArray (MgB mb m.row :: RdB rb bs p e :: G) fun v A=>A = MgB mb (fd.read bs (m,p,e)).1.row :: RdB rb bs ((fd.read bs (m,p,e)).2.1:Nat) (fd.read bs (m,p,e)).2.2 :: G
theorem whole_fd (ob lb hb:Nat) (sel:FuncId) [FnOk prog sel] (w:Wh) [hs:SelOk sel w.off] (lo hi:Int) (h0:0 ≤ lo) (h1:hi < 9223372036854775808) :
  FdA (.whole w lo hi) (.func (.func 195) #[] [ptr ob,ptr lb,ptr hb].toArray) (.func (.func 196) #[] [ptr ob].toArray) (.func (.func 197) #[] [ptr ob].toArray) [(ob,cl [fnV sel] 226),(lb,cl [.int .i64 lo] 3),(hb,cl [.int .i64 hi] 3)]:=by
 refine ⟨⟨_,_,rfl,inferInstance,fun mb m _=>?_⟩,⟨_,_,rfl,inferInstance,fun mb m _ hm=>?_⟩,⟨_,_,rfl,inferInstance,fun B0 mb m rb bs p e hp hb2=>?_⟩⟩
 ·exact whole1_spec mb ob lb hb sel m.row w.off (w.get m) lo hi (w.at_ m)
 ·have hm:lo ≤ w.get m ∧ w.get m ≤ hi:=by simpa [Fd.may] using hm
  refine ((whole2_spec mb ob sel m.row w.off (w.get m) (w.at_ m) (by omega) (by omega)).beside (F:=[(lb,cl [.int .i64 lo] 3),(hb,cl [.int .i64 hi] 3)])).mono fun v A hR=>?_
  obtain ⟨A',⟨rfl,rfl⟩,rfl⟩:=hR
  exact ⟨rfl,rfl⟩
 ·refine ((whole3_spec B0 mb ob rb sel m.row w.off _ (w.at_ m) bs p e hp hb2).beside (F:=[(lb,cl [.int .i64 lo] 3),(hb,cl [.int .i64 hi] 3)])).mono fun v A hR=>?_
  obtain ⟨A',rfl,rfl⟩:=hR
  rw [w.put]
  rfl
theorem text_fd (ob lb hb:Nat) (sel:FuncId) [FnOk prog sel] (w:Th) [hs:SelOk sel w.off] (lo hi:Nat) (h1:hi ≤ 100000) :
  FdA (.text w lo hi) (.func (.func 198) #[] [ptr ob,ptr lb,ptr hb].toArray) (.func (.func 199) #[] [ptr ob].toArray) (.func (.func 200) #[] [ptr hb,ptr ob].toArray) [(ob,cl [fnV sel] 230),(hb,cl [.int .i64 hi] 3),(lb,cl [.int .i64 lo] 3)]:=by
 refine ⟨⟨_,_,rfl,inferInstance,fun mb m _=>?_⟩,⟨_,_,rfl,inferInstance,fun mb m hok hm=>?_⟩,⟨_,_,rfl,inferInstance,fun B0 mb m rb bs p e hp hb2=>?_⟩⟩
 ·exact text_1_spec mb ob lb hb sel m.row w.off (w.get m) lo hi (w.at_ m)
 ·have hz:(w.get m).size ≤ 1000000:=by
   have h2:=hok.t
   have h3:=hok.p
   cases w
   ·show m.text.size ≤ _;omega
   ·show m.prog.size ≤ _;omega
  refine ((text_2_spec mb ob sel m.row w.off (w.get m) (w.at_ m) hz).beside (F:=[(hb,cl [.int .i64 hi] 3),(lb,cl [.int .i64 lo] 3)])).mono fun v A hR=>?_
  obtain ⟨A',⟨rfl,rfl⟩,rfl⟩:=hR
  exact ⟨rfl,rfl⟩
 ·refine ((text_3_spec B0 mb ob hb rb sel m.row w.off _ hi (w.at_ m) bs p e hp hb2 (by omega)).beside (F:=[(lb,cl [.int .i64 lo] 3)])).mono fun v A hR=>?_
  obtain ⟨A',rfl,rfl⟩:=hR
  rw [w.put]
  rfl
theorem whole_spec (sel:FuncId) [FnOk prog sel] (w:Wh) [hs:SelOk sel w.off] (lo hi:Int) (h0:0 ≤ lo) (h1:hi < 9223372036854775808) :
  Con prog 127 #[fnV sel,.int .i64 lo,.int .i64 hi] [] fun v A=>∃ v1 v2 v3,v = .agg [v1,v2,v3].toArray ∧ FdA (.whole w lo hi) v1 v2 v3 A:=by
 refine zqI (vs:=[_,_,_]) func127 ntmps127 fun B=>?_
 repeat' (first|refine zs0 ?_|refine Ops.box rfl rfl rfl rfl (noPd rfl) (fun b=>?_)|refine Ops.alloc rfl rfl rfl (noPd rfl) (fun b=>?_))
 rename_i ob lb hb
 rename Nat=>rz
 exact Cd.ret (ret1 (A':=[(ob,cl [fnV sel] 226),(lb,cl [.int .i64 lo] 3),(hb,cl [.int .i64 hi] 3)]) rfl (Res.cellN rfl) (fun _ h=>h.split) ⟨_,_,_,rfl,whole_fd ob lb hb sel w lo hi h0 h1⟩)
theorem textf_spec (sel:FuncId) [FnOk prog sel] (w:Th) [hs:SelOk sel w.off] (lo hi:Nat) (h1:hi ≤ 100000) :
  Con prog 136 #[fnV sel,.int .i64 lo,.int .i64 hi] [] fun v A=>∃ v1 v2 v3,v = .agg [v1,v2,v3].toArray ∧ FdA (.text w lo hi) v1 v2 v3 A:=by
 refine zqI (vs:=[_,_,_]) func136 ntmps136 fun B=>?_
 repeat' (first|refine zs0 ?_|refine Ops.box rfl rfl rfl rfl (noPd rfl) (fun b=>?_)|refine Ops.alloc rfl rfl rfl (noPd rfl) (fun b=>?_))
 rename_i ob lb hb
 rename Nat=>rz
 exact Cd.ret (ret1 (A':=[(ob,cl [fnV sel] 230),(hb,cl [.int .i64 hi] 3),(lb,cl [.int .i64 lo] 3)]) rfl (Res.cellN rfl) (fun _ h=>h.split) ⟨_,_,_,rfl,text_fd ob lb hb sel w lo hi h1⟩)
theorem indexf_spec (most:Int) (h1:most < 9223372036854775808):Con prog 132 #[.int .i64 most] [] fun v A=>∃ v1 v2 v3,v = .agg [v1,v2,v3].toArray ∧ FdA (.whole .index 0 most) v1 v2 v3 A:=by
 refine zqI (vs:=[_]) func132 ntmps132 fun B=>?_
 haveI:SelOk 133 Wh.index.off:=(inferInstance:SelOk 133 5)
 repeat' (first|refine zs1 ?_|refine Ops.alloc rfl rfl rfl (noPd rfl) (fun b=>?_))
 refine zqA (whole_spec 133 .index 0 most (by decide) h1) fun v A' hR=>?_
 obtain ⟨v1,v2,v3,rfl,hF⟩:=hR
 obtain ⟨⟨f1,c1,rfl,q1⟩,⟨f2,c2,rfl,q2⟩,⟨f3,c3,rfl,q3⟩⟩:=hF
 refine zg4 ?_
 exact ze53
theorem countf_spec (most:Int) (h1:most < 9223372036854775808):Con prog 134 #[.int .i64 most] [] fun v A=>∃ v1 v2 v3,v = .agg [v1,v2,v3].toArray ∧ FdA (.whole .count 0 most) v1 v2 v3 A:=by
 refine zqI (vs:=[_]) func134 ntmps134 fun B=>?_
 haveI:SelOk 135 Wh.count.off:=(inferInstance:SelOk 135 6)
 repeat' (first|refine zs1 ?_|refine Ops.alloc rfl rfl rfl (noPd rfl) (fun b=>?_))
 refine zqA (whole_spec 135 .count 0 most (by decide) h1) fun v A' hR=>?_
 obtain ⟨v1,v2,v3,rfl,hF⟩:=hR
 obtain ⟨⟨f1,c1,rfl,q1⟩,⟨f2,c2,rfl,q2⟩,⟨f3,c3,rfl,q3⟩⟩:=hF
 refine zg4 ?_
 exact ze53
end Go.Proofs.YtkoelgkghijgiaaGreat
namespace Go.Sep
open Go
def nanQ (n:Nat):Bool:=decide (9218868437227405312 < n % 9223372036854775808)
theorem nan_order (n:Nat):(FloatKind.f64.format.order n n != some .eq) = nanQ n:=by
 have hs:Ieee.double.signWeight = 9223372036854775808:=rfl
 have hb:Ieee.double.binade = 4503599627370496:=rfl
 have hi:Ieee.double.infRung = 9218868437227405312:=rfl
 show (Ieee.double.order n n != some .eq) = nanQ n
 unfold Ieee.Format.order Ieee.Format.read nanQ
 rw [hs,hb,hi]
 dsimp only
 generalize n % 9223372036854775808 = r
 by_cases h1:r < 4503599627370496
 ·rw [if_pos h1,decide_eq_false (by omega)]
  simp [Ieee.Datum.order]
 ·rw [if_neg h1]
  by_cases h2:r < 9218868437227405312
  ·rw [if_pos h2,decide_eq_false (by omega)]
   simp [Ieee.Datum.order]
  ·rw [if_neg h2]
   by_cases h3:r = 9218868437227405312
   ·rw [if_pos h3,decide_eq_false (by omega)]
    simp [Ieee.Datum.order]
   ·rw [if_neg h3,decide_eq_true (by omega)]
    simp [Ieee.Datum.order]
instance BinRun.neqF {P:Program} {t:TypeId} {a:Nat}:BinRun P .neq t (.float .f64 a) (.float .f64 a) (.bool (nanQ a)):=⟨fun _ _ w=>by
 rw [← nan_order]
 simp [eqGuard,binOp,Op.floatCmp]⟩
def clX (l:List Value) (E:TypeId) (p:Nat × Nat):Obj:=.cells l.toArray E p
theorem clX_cell {w:World} {b:Nat} {l:List Value} {E:TypeId} {p:Nat × Nat} (h:w.heap[b]? = some (clX l E p)) (off:Nat):w.cell? ⟨b,off,none⟩ = l[off]?:=by
 simp [World.cell?,h,clX]
section
variable {P:Program} {N:Fi} {B:Base} {Q:Exit → Act → World → Prop} {T:Tm} {A:List Blk} {ops:Array Oper} {l:List Oper}
variable {d:Nat} {ty:TypeId} {pos:String} {af:Array Edge} {m:Md} {gd:Option (Nat × Bool)}
theorem Ops.ldX {t:TypeId} {x:Operand} {b off:Nat} {sz bs:Nat} {zc:List Value} {L:List Value} {E:TypeId} {p:Nat × Nat} {v:Value} (hm:m.rd false = true) (hg:gst ops T gd = some true) [ht:Ty P t false sz bs zc]
  (hx:ev T x = some (.pointer (some ⟨b,off,none⟩))) [hb:Has A b (clX L E p)] (hv:L[off]? = some v) (hd:Nat.blt d N.n = true)
  (k:Ops P N B Q ops m.tl l ((d,v) :: T) A):Ops P N B Q ops m (⟨some d,.load t x,ty,pos,af,gd⟩ :: l) T A :=
 Ops.readV hm hg hd (fun a w hF hS=>by
  have h0:=hS.here _ hb.mem
  simp [execOp,hF.eval hx,run_loadAt1 ht ((clX_cell h0 off).trans hv)]) k
theorem Ops.cvSB {s t e:TypeId} {x:Operand} {u:ByteArray} (hm:m.eff = true) (hg:gst ops T gd = some true) [hs:TyD P s .string] [ht:TyD P t (.slice e)] [he:TyD P e (.int .u8)] (hx:ev T x = some (.string u)) (hd:Nat.blt d N.n = true)
  (hp:Pd P N B ops m T (some d) (fun v X=>∃ g c L p,v = .slice (some ⟨g,0,none⟩) u.size c ∧ (∀ (j:Nat) (z:Value),(bv u)[j]? = some z → L[j]? = some z) ∧ X = (g,clX L e p) :: A))
  (k:∀ g c L p,(∀ (j:Nat) (z:Value),(bv u)[j]? = some z → L[j]? = some z) → Ops P N B Q ops m.tl l ((d,.slice (some ⟨g,0,none⟩) u.size c) :: T) ((g,clX L e p) :: A)) :
  Ops P N B Q ops m (⟨some d,.convert s t x,ty,pos,af,gd⟩ :: l) T A :=
 Ops.effV hm hp hg hd (fun a w hF hS=>by
  have h1:=Lib.run_convert_string_bytes (P:=P) w s t e u hs.und ht.und he.und
  simp only [execOp,hF.eval hx,Sem.run_bind,h1,Result.andThen_ok,Sem.run_pure,effPost]
  refine ⟨_,⟨w.heap.size,_,(Lib.bytesCells w e u).toList,((Lib.bytesCells w e u).size,(Lib.bytesCells w e u).size + 1),rfl,?_,rfl⟩,?_⟩
  ·intro j z hz
   have:(bv u)[j]? = (u.data.map fun b=>Value.int .u8 b.toNat).toList[j]?:=by simp [bv]
   rw [this] at hz
   unfold Lib.bytesCells
   rw [Array.toList_append]
   exact (List.getElem?_append_left (List.getElem?_eq_some_iff.1 hz).1).trans hz
  ·have h2:Sat B ([] ++ (w.heap.size,Obj.cells (Lib.bytesCells w e u) e) :: A) (w.drew.alloc (.cells (Lib.bytesCells w e u) e)):=hS.drew.alloc (.cells (Lib.bytesCells w e u) e)
   refine h2.put (w':=Lib.bytesWorld w e u) (by simp [Lib.bytesWorld,World.freeze]) (by simp [Lib.bytesWorld,World.freeze]) (by simp [Lib.bytesWorld,World.freeze]) ?_ fun n hn=>?_
   ·rw [Lib.bytesWorld_at_new]
    simp [clX]
   ·simp [Lib.bytesWorld,World.freeze,Array.getElem?_modify,Ne.symm hn]) fun v X ⟨g,c,L,p,h1,h2,h3⟩=>by rw [h1,h3];exact k g c L p h2
end
end Go.Sep
namespace Go.Proofs.YtkoelgkghijgiaaGreat
open Go Go.Sep Go.Proofs Go.Proofs.Tryz
set_option maxRecDepth 10000
set_option maxHeartbeats 40000000
set_option synthInstance.maxSize 2000
instance :ExtOk prog 276 Extern.MathFloatBits.float64bits:=⟨⟨_,func276,by kernel_rfl,by kernel_rfl,by kernel_rfl,by kernel_rfl⟩⟩
instance :ExtOk prog 278 Extern.MathFloatBits.float64frombits:=⟨⟨_,func278,by kernel_rfl,by kernel_rfl,by kernel_rfl,by kernel_rfl⟩⟩
theorem run_tobits (n:Nat):∀ w:World,(Extern.MathFloatBits.float64bits [Value.float .f64 n].toArray).run prog w = .ok (.int .u64 n) w:=fun w=>rfl
theorem run_frombits (n:Nat):∀ w:World,(Extern.MathFloatBits.float64frombits [Value.int .u64 (n:Nat)].toArray).run prog w = .ok (.float .f64 n) w:=fun w=>rfl
theorem isnan_spec (n:Nat):Con prog 275 #[.float .f64 n] [] fun v A=>v = .bool (nanQ n) ∧ A = []:=by
 refine zqI (vs:=[_]) func275 ntmps275 fun B=>?_
 refine zg3 ?_
 exact ze9
theorem nan_spec:Con prog 277 #[] [] fun v A=>v = .float .f64 9221120237041090561 ∧ A = []:=by
 refine zqI (vs:=[]) func277 ntmps277 fun B=>?_
 refine zg0 ?_
 refine Ops.extR (vs:=[.int .u64 ((9221120237041090561:Nat):Int)]) rfl rfl rfl (run_frombits 9221120237041090561) rfl (noPd rfl) ?_
 refine zg0 ?_
 exact ze9
theorem float_spec (n:Nat):Con prog 226 #[.int .u64 n] [] fun v A=>v = .float .f64 n ∧ A = []:=by
 refine zqI (vs:=[_]) func226 ntmps226 fun B=>?_
 refine zg0 ?_
 refine Ops.extR (vs:=[.int .u64 (n:Nat)]) rfl rfl rfl (run_frombits n) rfl (noPd rfl) ?_
 refine zg0 ?_
 exact ze9
theorem raw_spec (n:Nat):Con prog 225 #[.float .f64 n] [] fun v A=>v = .int .u64 (canonF n:Nat) ∧ A = []:=by
 refine zqI (vs:=[_]) func225 ntmps225 fun B=>?_
 refine zg0 ?_
 refine zqA (isnan_spec n) fun v A' hR=>?_
 obtain ⟨rfl,rfl⟩:=hR
 by_cases hn:9218868437227405312 < n % 9223372036854775808
 ·rw [show nanQ n = true from decide_eq_true hn,show canonF n = 9221120237041090561 from if_pos hn]
  refine zg6 ?_
  refine Ops.call nan_spec rfl (noPd rfl) rfl rfl rfl (fun v A' hR=>?_)
  obtain ⟨rfl,rfl⟩:=hR
  refine Ops.extR (vs:=[.float .f64 9221120237041090561]) rfl rfl rfl (run_tobits 9221120237041090561) rfl (noPd rfl) ?_
  refine zg0 ?_
  exact ze9
 ·rw [show nanQ n = false from decide_eq_false hn,show canonF n = n from if_neg hn]
  refine zg4 ?_
  refine Ops.extR (vs:=[.float .f64 n]) rfl rfl rfl (run_tobits n) rfl (noPd rfl) ?_
  refine zg0 ?_
  exact ze9
theorem canon_spec (n:Nat):Con prog 163 #[.int .u64 n] [] fun v A=>v = .int .u64 (canonF n:Nat) ∧ A = []:=by
 refine zqI (vs:=[_]) func163 ntmps163 fun B=>?_
 refine zg0 ?_
 refine zqA (float_spec n) fun v A' hR=>?_
 obtain ⟨rfl,rfl⟩:=hR
 refine zqA (raw_spec n) fun v A' hR=>?_
 obtain ⟨rfl,rfl⟩:=hR
 refine zg0 ?_
 exact ze9
theorem ofn_step {a b:Nat} (ha:a < 72057594037927936) (hb:b < 256):orI .u64 (IntKind.wrap .u64 ((a:Int) * 2 ^ 8)) (b:Int) = ((a * 256 + b:Nat):Int):=by
 have e:IntKind.wrap .u64 ((a:Int) * 2 ^ 8) = ((a <<< 8:Nat):Int):=by
  rw [Nat.shiftLeft_eq]
  simp [IntKind.wrap,IntKind.bits,IntKind.signed]
  omega
 rw [e,orI_u64 (by rw [Nat.shiftLeft_eq];omega) (by omega),← Nat.shiftLeft_add_eq_or_of_lt (by simpa using hb),Nat.shiftLeft_eq]
theorem bv_bat {s:ByteArray} {i:Nat} (h:i < s.size):(bv s)[i]? = some (.int .u8 ((bat s i:Nat):Int)):=by
 have e:s.data.toList[i]? = some s[i]:=by simp [ByteArray.getElem_eq_getElem_data]
 unfold bv
 rw [List.getElem?_map,e,bat_some (getElem?_pos s i h)]
 rfl
def bitsR (b:ByteArray) (p:Nat):Int ⊕ (Nat × Nat):=if p + 8 ≤ b.size then .inr (ofn (b.extract p (p + 8)) 8,p + 8) else .inl 20
theorem bits1_spec (B0:Base) (rb xr:Nat) (bs:ByteArray) (p:Nat) (hp:p ≤ bs.size) (hb:bs.size ≤ 1000000) :
  ConX prog B0 167 #[ptr xr] (RdB rb bs p 0 :: [(xr,cl [ptr rb] 161)])
   (fun v A=>∃ u q,bitsR bs p = .inr (u,q) ∧ v = .int .u64 ((u:Nat):Int) ∧ A = RdB rb bs (q:Nat) 0 :: [(xr,cl [ptr rb] 161)])
   (fun c A=>∃ er,bitsR bs p = .inl er ∧ c = [gave er] ∧ ∃ q:Nat,A = RdB rb bs q 0 :: [(xr,cl [ptr rb] 161)]):=by
 refine ConX.intro (vs:=[_]) func167 rfl ntmps167 rfl (fun B hB=>?_)
 refine zg6 ?_
 refine Ops.callX (take_spec B0 rb bs p 0 8 hp hb (by omega)) hB rfl rfl rfl (fun c A' hX=>?_) (fun v A' hR=>?_)
 ·obtain ⟨hlt,rfl,rfl⟩:=hX
  exact panX (A':=RdB rb bs p 0 :: [(xr,cl [ptr rb] 161)]) (fun _ h=>h.split) ⟨20,if_neg hlt,rfl,p,rfl⟩
 ·obtain ⟨hlt,rfl,rfl⟩:=hR
  have hsz:(bs.extract p (p + 8)).size = 8:=by rw [ByteArray.size_extract];omega
  have hres:bitsR bs p = .inr (ofn (bs.extract p (p + 8)) 8,p + 8):=if_pos hlt
  generalize bs.extract p (p + 8) = u at hsz hres
  refine Ops.cvSB rfl rfl rfl rfl (noPd rfl) (fun g c L f hL=>?_)
  rw [hsz]
  refine zg1 ?_
  refine Cd.loopK (σ:=Nat) (fun i=>i ≤ 8) (fun i=>[(0,ptr xr),(2,.int .u64 ((ofn u i:Nat):Int)),(7,.slice (some ⟨g,0,none⟩) 8 c),(8,.int .i64 ((8:Nat):Int)),(9,.int .i64 ((i:Nat):Int))]) (fun i=>[(g,clX L 5 f),RdB rb bs ((p + 8:Nat):Int) 0,(xr,cl [ptr rb] 161)]) (fun i=>8 - i) 0 (Nat.zero_le _) ⟨rfl,rfl,rfl,rfl,rfl,trivial⟩ (fun w h=>h.split) (fun i hi=>?_)
  by_cases hlt:i < 8
  ·have hlt':((i:Nat):Int) < ((8:Nat):Int):=by omega
   have hv:L[((i:Nat):Int).toNat * 1]? = some (.int .u8 ((bat u i:Nat):Int)):=by
    rw [show ((i:Nat):Int).toNat * 1 = i from by omega]
    exact hL i _ (bv_bat (s:=u) (i:=i) (by omega))
   have ho:=ofn_lt u i
   have ho2:256 ^ i ≤ 256 ^ 7:=Nat.pow_le_pow_right (by decide) (by omega)
   have hbl:=bat_lt u i
   refine zg14 ?_
   refine Ops.ldX rfl rfl rfl hv rfl ?_
   refine zg0 ?_
   refine Ops.shlI rfl rfl rfl rfl (by decide) rfl ?_
   refine zg0 ?_
   refine Ops.cvI rfl rfl rfl rfl ?_
   rw [wrap_u64 (by omega)]
   rw [show (2:Int) ^ min (Int.toNat 8) (IntKind.bits .u64) = 2 ^ 8 from rfl]
   refine zg13 ?_
   rw [ofn_step (by omega) hbl]
   exact Ops.nilN (round_end (i + 1:Nat) (by show i + 1 ≤ 8;omega) (by show 8 - (i + 1) < 8 - i;omega) ⟨rfl,rfl,rfl,rfl,rfl,trivial⟩ (fun w h=>h.split))
  ·have hlt':¬ ((i:Nat):Int) < ((8:Nat):Int):=by omega
   have he:i = 8:=by omega
   subst he
   refine zg4 ?_
   exact Cd.ret (retX (ret1 (A':=RdB rb bs ((p + 8:Nat):Int) 0 :: [(xr,cl [ptr rb] 161)]) rfl (Res.tmp rfl) (fun _ h=>h.split) ⟨_,_,hres,rfl,rfl⟩))
theorem rbits_spec (B0:Base) (rb:Nat) (bs:ByteArray) (p:Nat) (e:Int) (hp:p ≤ bs.size) (hb:bs.size ≤ 1000000) :
  ConB prog B0 104 #[ptr rb] [RdB rb bs p e] fun v A=>v = .int .u64 (((rdBits bs p e).1:Nat):Int) ∧ A = [RdB rb bs (((rdBits bs p e).2.1:Nat):Int) (rdBits bs p e).2.2]:=by
 refine zqJ (vs:=[_]) func104 ntmps104 fun B hB=>?_
 repeat' (first|refine zs0 ?_|refine Ops.box rfl rfl rfl rfl (noPd rfl) (fun b=>?_))
 rename Nat=>xr
 by_cases he:e = 0
 ·subst he
  refine Ops.callB (faceuint64_new B0 rb bs p 167 [ptr xr] [(xr,cl [ptr rb] 161)] _ (bits1_spec B0 rb xr bs p hp hb)) hB rfl (noPd rfl) rfl rfl rfl (fun v A' hR=>?_)
  by_cases hlt:p + 8 ≤ bs.size
  ·have hu:rdBits bs p 0 = (ofn (bs.extract p (p + 8)) 8,p + 8,0):=(if_neg (by simp)).trans (if_pos hlt)
   have hr2:bitsR bs p = .inr (ofn (bs.extract p (p + 8)) 8,p + 8):=if_pos hlt
   rcases hR with ⟨u,q,hr,rfl,rfl⟩|⟨er,hr,rfl,rfl⟩
   ·rw [hr2] at hr
    injection hr with hr
    injection hr with h1 h2
    subst h1;subst h2
    rw [hu]
    refine zg0 ?_
    exact Cd.ret (ret1 (A':=[RdB rb bs ((p + 8:Nat):Int) 0]) rfl (Res.tmp rfl) (fun _ h=>h.split) ⟨rfl,rfl⟩)
   ·rw [hr2] at hr;cases hr
  ·have hu:rdBits bs p 0 = (0,p,20):=(if_neg (by simp)).trans (if_neg hlt)
   have hr2:bitsR bs p = .inl 20:=if_neg hlt
   rcases hR with ⟨u,q,hr,rfl,rfl⟩|⟨er,hr,rfl,rfl⟩
   ·rw [hr2] at hr;cases hr
   ·rw [hr2] at hr
    injection hr with h1
    subst h1
    rw [hu]
    refine zg0 ?_
    exact Cd.ret (ret1 (A':=[RdB rb bs p 20]) rfl (Res.tmp rfl) (fun _ h=>h.split) ⟨rfl,rfl⟩)
 ·refine zqB (faceuint64_old B0 rb bs p e 167 [ptr xr] he) hB fun v A' hR=>?_
  obtain ⟨rfl,rfl⟩:=hR
  rw [show rdBits bs p e = (0,p,e) from if_pos he]
  refine zg0 ?_
  exact ze29
theorem result1_spec (mb:Nat) (m:Ms) (hx:0 ≤ m.rbits) :
  Con prog 202 #[ptr mb] [MgB mb m.row] fun v A=>v = .bool (Fd.may m .result) ∧ A = [MgB mb m.row]:=by
 obtain ⟨kd,se,nu,jo,ba,ix,co,rc,rb,tx,pr⟩:=m
 dsimp only at hx
 obtain ⟨x,rfl⟩:∃ x:Nat,rb = x:=⟨rb.toNat,by omega⟩
 refine zqI (vs:=[_]) func202 ntmps202 fun B=>?_
 simp only [Fd.may,Int.toNat_natCast]
 by_cases h0:rc = 0
 ·by_cases hc:((canonF x:Nat):Int) = (x:Int)
  ·repeat' (first|refine zs3 ?_|refine Ops.alloc rfl rfl rfl (noPd rfl) (fun b=>?_))
   refine zdr [qz 0,qy 1,qz 2,qz 3,qz 4,qy 5,qz 7,qy 8,(6,2,[8]),qz 9,qz 10,qz 11,qz 12,qy 13,qz 14,qz 15,qz 16,qy 17,qz 18,qz 19,qz 20,qz 21,qy 22,qz 23,qz 24,qz 25,qz 26] ?_
   refine zg7 ?_
   refine Ops.call (canon_spec x) rfl zp1 rfl rfl rfl (fun v A' hR=>?_)
   obtain ⟨rfl,rfl⟩:=hR
   refine zg18 ?_
   exact ze54
  ·repeat' (first|refine zs3 ?_|refine Ops.alloc rfl rfl rfl (noPd rfl) (fun b=>?_))
   refine zdr [qz 0,qy 1,qz 2,qz 3,qz 4,qy 5,qz 7,qy 8,(6,2,[8]),qz 9,qz 10,qz 11,qz 12,qy 13,qz 14,qz 15,qz 16,qy 17,qz 18,qz 19,qz 20,qz 21,qy 22,qz 23,qz 24,qz 25,qz 26] ?_
   refine zg7 ?_
   refine Ops.call (canon_spec x) rfl zp1 rfl rfl rfl (fun v A' hR=>?_)
   obtain ⟨rfl,rfl⟩:=hR
   refine zg11 ?_
   exact ze54
 ·by_cases h1:0 < rc
  ·by_cases h2:rc ≤ 7
   ·repeat' (first|refine zs3 ?_|refine Ops.alloc rfl rfl rfl (noPd rfl) (fun b=>?_))
    refine zdr [qz 0,qy 1,qz 2,qz 3,qz 4,qy 5,qz 7,qy 8,(6,2,[8]),qz 9,qz 10,qz 11,qz 12,qy 13,qz 14,qz 15,qz 16,qy 17,qz 18,qz 19,qz 20,qz 21,qy 22,qz 23,qz 24,qz 25,qz 26] ?_
    refine zg12 ?_
    exact ze55
   ·repeat' (first|refine zs3 ?_|refine Ops.alloc rfl rfl rfl (noPd rfl) (fun b=>?_))
    refine zdr [qz 0,qy 1,qz 2,qz 3,qz 4,qy 5,qz 7,qy 8,(6,2,[8]),qz 9,qz 10,qz 11,qz 12,qy 13,qz 14,qz 15,qz 16,qy 17,qz 18,qz 19,qz 20,qz 21,qy 22,qz 23,qz 24,qz 25,qz 26] ?_
    refine zg12 ?_
    exact ze55
  ·repeat' (first|refine zs3 ?_|refine Ops.alloc rfl rfl rfl (noPd rfl) (fun b=>?_))
   refine zdr [qz 0,qy 1,qz 2,qz 3,qz 4,qy 5,qz 7,qy 8,(6,2,[8]),qz 9,qz 10,qz 11,qz 12,qy 13,qz 14,qz 15,qz 16,qy 17,qz 18,qz 19,qz 20,qz 21,qy 22,qz 23,qz 24,qz 25,qz 26] ?_
   refine zg12 ?_
   exact Cd.ret (ret1 (A':=[MgB mb [.int .i64 kd,.int .i64 se,.int .i64 nu,.int .i64 jo,.int .i64 ba,.int .i64 ix,.int .i64 co,.int .i64 rc,.int .u64 x,.string tx,.string pr]]) rfl (Res.tmp rfl) (fun _ h=>h.split) ⟨by simp [h0,h1],rfl⟩)
theorem result2_spec (mb:Nat) (m:Ms) (hx:0 ≤ m.rbits ∧ m.rbits < 18446744073709551616) (h0:0 ≤ m.rcode) (h1:m.rcode < 18446744073709551616) :
  Con prog 203 #[ptr mb] [MgB mb m.row] fun v A=>v = .string (Fd.lay m .result) ∧ A = [MgB mb m.row]:=by
 obtain ⟨kd,se,nu,jo,ba,ix,co,rc,rb,tx,pr⟩:=m
 dsimp only at hx h0 h1
 obtain ⟨x,rfl⟩:∃ x:Nat,rb = x:=⟨rb.toNat,by omega⟩
 obtain ⟨r,rfl⟩:∃ r:Nat,rc = r:=⟨rc.toNat,by omega⟩
 refine zqI (vs:=[_]) func203 ntmps203 fun B=>?_
 simp only [Fd.lay,Int.toNat_natCast]
 have hs:=numB_size (n:=r) (by omega)
 have hs2:=hiB_size x 8
 refine zg0 ?_
 refine zdr [qz 0,qz 1,qz 2,qz 3,qy 4,qz 5,qz 7,qz 8,qz 9,qz 10,qy 11,(6,2,[11]),(12,2,[]),qz 13,qz 14] ?_
 refine zg5 ?_
 refine Ops.cvI rfl rfl rfl rfl ?_
 rw [wrap_u64 (by omega)]
 refine zg5 ?_
 refine Ops.call (num_spec r (by omega)) rfl zp1 rfl rfl rfl (fun v A' hR=>?_)
 obtain ⟨rfl,rfl⟩:=hR
 refine Ops.call (bits_spec x (by omega)) rfl zp1 rfl rfl rfl (fun v A' hR=>?_)
 obtain ⟨rfl,rfl⟩:=hR
 refine Ops.cat rfl rfl rfl rfl (by omega) rfl ?_
 refine zg0 ?_
 exact Cd.ret (ret1 (A':=[MgB mb [.int .i64 kd,.int .i64 se,.int .i64 nu,.int .i64 jo,.int .i64 ba,.int .i64 ix,.int .i64 co,.int .i64 r,.int .u64 x,.string tx,.string pr]]) rfl (Res.tmp rfl) (fun _ h=>h.split) ⟨rfl,rfl⟩)
theorem result3_spec (B0:Base) (mb rb:Nat) (m:Ms) (bs:ByteArray) (p:Nat) (e:Int) (hp:p ≤ bs.size) (hb:bs.size ≤ 1000000) :
  ConB prog B0 204 #[ptr mb,ptr rb] [MgB mb m.row,RdB rb bs p e] fun v A=>A = [MgB mb (Fd.read bs (m,p,e) .result).1.row,RdB rb bs ((Fd.read bs (m,p,e) .result).2.1:Nat) (Fd.read bs (m,p,e) .result).2.2]:=by
 obtain ⟨kd,se,nu,jo,ba,ix,co,rc,rbt,tx,pr⟩:=m
 refine zqJ (vs:=[_,_]) func204 ntmps204 fun B hB=>?_
 refine zg0 ?_
 refine zqB (rnum_spec B0 rb bs p 7 e hp hb (by omega)) hB fun v A' hR=>?_
 obtain ⟨rfl,rfl⟩:=hR
 have h1:(rdNum bs 7 p e).1 ≤ 7:=rdNum_le
 have h2:(rdNum bs 7 p e).2.1 ≤ bs.size:=rdNum_at hp
 refine Ops.cvI rfl rfl rfl rfl ?_
 rw [wrap_i64 (by omega)]
 refine zg0 ?_
 refine zqB (rbits_spec B0 rb bs (rdNum bs 7 p e).2.1 (rdNum bs 7 p e).2.2 h2 hb) hB fun v A' hR=>?_
 obtain ⟨rfl,rfl⟩:=hR
 refine zg16 ?_
 exact Ops.nilN (end0 (A':=[MgB mb [.int .i64 kd,.int .i64 se,.int .i64 nu,.int .i64 jo,.int .i64 ba,.int .i64 ix,.int .i64 co,.int .i64 (((rdNum bs 7 p e).1:Nat):Int),.int .u64 (((rdBits bs (rdNum bs 7 p e).2.1 (rdNum bs 7 p e).2.2).1:Nat):Int),.string tx,.string pr],RdB rb bs (((rdBits bs (rdNum bs 7 p e).2.1 (rdNum bs 7 p e).2.2).2.1:Nat):Int) (rdBits bs (rdNum bs 7 p e).2.1 (rdNum bs 7 p e).2.2).2.2]) rfl (fun _ h=>h.split) rfl)
theorem result_fd:FdA .result (fnV 202) (fnV 203) (fnV 204) []:=by
 refine ⟨⟨_,[],rfl,inferInstance,fun mb m hok=>?_⟩,⟨_,[],rfl,inferInstance,fun mb m hok hm=>?_⟩,⟨_,[],rfl,inferInstance,fun B0 mb m rb bs p e hp hb=>?_⟩⟩
 ·exact result1_spec mb m hok.x.1
 ·have h:0 ≤ m.rcode ∧ m.rcode ≤ 7:=by
   simp only [Fd.may,Bool.or_eq_true,Bool.and_eq_true,decide_eq_true_eq] at hm
   omega
  exact result2_spec mb m hok.x h.1 (by omega)
 ·exact result3_spec B0 mb rb m bs p e hp hb
theorem result_spec:Con prog 139 #[] [] fun v A=>∃ v1 v2 v3,v = .agg [v1,v2,v3].toArray ∧ FdA .result v1 v2 v3 A:=by
 refine zqI (vs:=[]) func139 ntmps139 fun B=>?_
 repeat' (first|refine zs0 ?_|refine Ops.alloc rfl rfl rfl (noPd rfl) (fun b=>?_))
 exact Cd.ret (ret1 (A':=[]) rfl (Res.cellN rfl) (fun _ h=>h.split) ⟨_,_,_,rfl,result_fd⟩)
abbrev fS:Fd:=.whole .session 1 1099511627776
abbrev fN:Fd:=.whole .number 1 1099511627776
abbrev fJ:Fd:=.whole .job 1 8
abbrev fB:Fd:=.whole .badge 1 1099511627776
abbrev fI (n:Int):Fd:=.whole .index 0 n
abbrev fC (n:Int):Fd:=.whole .count 0 n
abbrev fL:Fd:=.text .text 0 32
abbrev fP:Fd:=.text .prog 1 1024
def fieldsF (kind:Int):List Fd:=if kind = 3 then [fS,fN,fB] else if kind = 4 then [fS,fN,fB,fC 32,.result] else if kind = 5 then [fB,fI 31,fL] else if kind = 6 then [fJ,fB,fI 16,fL] else if kind = 7 then [fS] else if kind = 9 then [fS,fN,fJ,fB,fP] else if kind = 14 then [fB,fC 32] else if kind = 15 then [fJ,fB,fC 17] else if kind = 16 then [fJ,fB] else if kind = 1 then [] else [fS,fN]
inductive FdsA:List Fd → List (List Value) → List Blk → Prop where
 | nil:FdsA [] [] []
 | cons {fd:Fd} {fds:List Fd} {v1 v2 v3:Value} {rows:List (List Value)} {G H:List Blk}:FdA fd v1 v2 v3 G → FdsA fds rows H → FdsA (fd :: fds) ([v1,v2,v3] :: rows) (G ++ H)
def FdsR (fds:List Fd) (v:Value) (A:List Blk):Prop:=(fds = [] ∧ v = .slice none 0 0 ∧ A = []) ∨ (∃ b rows G,v = .slice (some ⟨b,0,none⟩) fds.length fds.length ∧ A = (b,cl (rows.flatten ++ []) 169) :: G ∧ FdsA fds rows G)
theorem fields_spec (kind:Int):Con prog 82 #[.int .i64 kind] [] fun v A=>FdsR (fieldsF kind) v A:=by
 refine zqI (vs:=[_]) func82 ntmps82 fun B=>?_
 haveI:SelOk 128 Wh.session.off:=(inferInstance:SelOk 128 1)
 haveI:SelOk 129 Wh.number.off:=(inferInstance:SelOk 129 2)
 haveI:SelOk 130 Wh.job.off:=(inferInstance:SelOk 130 3)
 haveI:SelOk 131 Wh.badge.off:=(inferInstance:SelOk 131 4)
 haveI:SelOk 137 Th.text.off:=(inferInstance:SelOk 137 9)
 haveI:SelOk 138 Th.prog.off:=(inferInstance:SelOk 138 10)
 refine zg0 ?_
 refine Ops.call (whole_spec 128 .session 1 1099511627776 (by decide) (by decide)) rfl (noPd rfl) rfl rfl rfl (fun v AS hR=>?_)
 obtain ⟨v1,v2,v3,rfl,hS⟩:=hR
 have hc:=hS
 obtain ⟨⟨fS1,cS1,rfl,_⟩,⟨fS2,cS2,rfl,_⟩,⟨fS3,cS3,rfl,_⟩⟩:=hc
 repeat' (first|refine zs0 ?_|refine Ops.alloc rfl rfl rfl (noPd rfl) (fun b=>?_))
 refine Ops.call (whole_spec 129 .number 1 1099511627776 (by decide) (by decide)) rfl (noPd rfl) rfl rfl rfl (fun v AN hR=>?_)
 obtain ⟨v1,v2,v3,rfl,hN⟩:=hR
 have hc:=hN
 obtain ⟨⟨fN1,cN1,rfl,_⟩,⟨fN2,cN2,rfl,_⟩,⟨fN3,cN3,rfl,_⟩⟩:=hc
 repeat' (first|refine zs0 ?_|refine Ops.alloc rfl rfl rfl (noPd rfl) (fun b=>?_))
 refine Ops.call (whole_spec 130 .job 1 8 (by decide) (by decide)) rfl (noPd rfl) rfl rfl rfl (fun v AJ hR=>?_)
 obtain ⟨v1,v2,v3,rfl,hJ⟩:=hR
 have hc:=hJ
 obtain ⟨⟨fJ1,cJ1,rfl,_⟩,⟨fJ2,cJ2,rfl,_⟩,⟨fJ3,cJ3,rfl,_⟩⟩:=hc
 repeat' (first|refine zs0 ?_|refine Ops.alloc rfl rfl rfl (noPd rfl) (fun b=>?_))
 refine Ops.call (whole_spec 131 .badge 1 1099511627776 (by decide) (by decide)) rfl (noPd rfl) rfl rfl rfl (fun v AB hR=>?_)
 obtain ⟨v1,v2,v3,rfl,hB⟩:=hR
 have hc:=hB
 obtain ⟨⟨fB1,cB1,rfl,_⟩,⟨fB2,cB2,rfl,_⟩,⟨fB3,cB3,rfl,_⟩⟩:=hc
 repeat' (first|refine zs2 ?_|refine Ops.alloc rfl rfl rfl (noPd rfl) (fun b=>?_))
 refine Ops.call (textf_spec 137 .text 0 32 (by decide)) rfl (noPd rfl) rfl rfl rfl (fun v AL hR=>?_)
 obtain ⟨v1,v2,v3,rfl,hL⟩:=hR
 have hc:=hL
 obtain ⟨⟨fL1,cL1,rfl,_⟩,⟨fL2,cL2,rfl,_⟩,⟨fL3,cL3,rfl,_⟩⟩:=hc
 repeat' (first|refine zs0 ?_|refine Ops.alloc rfl rfl rfl (noPd rfl) (fun b=>?_))
 refine Ops.call (textf_spec 138 .prog 1 1024 (by decide)) rfl (noPd rfl) rfl rfl rfl (fun v AP hR=>?_)
 obtain ⟨v1,v2,v3,rfl,hP⟩:=hR
 have hc:=hP
 obtain ⟨⟨fP1,cP1,rfl,_⟩,⟨fP2,cP2,rfl,_⟩,⟨fP3,cP3,rfl,_⟩⟩:=hc
 generalize hcc:Code.block 0 _ = cc
 repeat' (first|refine zs0 ?_|refine Ops.alloc rfl rfl rfl (noPd rfl) (fun b=>?_))
 subst hcc
 by_cases h3:kind = 3
 ·rw [show fieldsF kind = [fS,fN,fB] from if_pos h3]
  refine zg15 ?_
  refine Ops.bsN [[.func (.func fS1) #[] cS1.toArray,.func (.func fS2) #[] cS2.toArray,.func (.func fS3) #[] cS3.toArray],[.func (.func fN1) #[] cN1.toArray,.func (.func fN2) #[] cN2.toArray,.func (.func fN3) #[] cN3.toArray],[.func (.func fB1) #[] cB1.toArray,.func (.func fB2) #[] cB2.toArray,.func (.func fB3) #[] cB3.toArray]] rfl rfl rfl rfl rfl rfl rfl rfl rfl rfl (noPd rfl) (fun rb=>?_)
  refine zg0 ?_
  exact Cd.ret (ret1 (A':=(rb,cl (([[.func (.func fS1) #[] cS1.toArray,.func (.func fS2) #[] cS2.toArray,.func (.func fS3) #[] cS3.toArray],[.func (.func fN1) #[] cN1.toArray,.func (.func fN2) #[] cN2.toArray,.func (.func fN3) #[] cN3.toArray],[.func (.func fB1) #[] cB1.toArray,.func (.func fB2) #[] cB2.toArray,.func (.func fB3) #[] cB3.toArray]]:List (List Value)).flatten ++ []) 169) :: (AS ++ (AN ++ (AB ++ [])))) rfl (Res.tmp rfl) (fun _ h=>h.split) (.inr ⟨rb,_,_,rfl,rfl,(.cons hS (.cons hN (.cons hB .nil)))⟩))
 by_cases h4:kind = 4
 ·rw [show fieldsF kind = [fS,fN,fB,fC 32,.result] from (if_neg h3).trans (if_pos h4)]
  refine zg2 ?_
  refine zdr [qy 0,qy 1,qy 2,qz 3,(4,2,[0,1,2]),(5,2,[0,1,2]),(6,2,[]),qz 7] ?_
  refine zg3 ?_
  refine Ops.callV (fi:=[]) (ca:=[]) (vs:=[_]) (countf_spec 32 (by decide)) rfl zp1 rfl rfl rfl rfl (fun v AC hR=>?_)
  obtain ⟨v1,v2,v3,rfl,hC⟩:=hR
  have hc:=hC
  obtain ⟨⟨fC1,cC1,rfl,_⟩,⟨fC2,cC2,rfl,_⟩,⟨fC3,cC3,rfl,_⟩⟩:=hc
  refine Ops.call result_spec rfl zp1 rfl rfl rfl (fun v AR hR=>?_)
  obtain ⟨v1,v2,v3,rfl,hR⟩:=hR
  have hc:=hR
  obtain ⟨⟨fR1,cR1,rfl,_⟩,⟨fR2,cR2,rfl,_⟩,⟨fR3,cR3,rfl,_⟩⟩:=hc
  refine Ops.bsN [[.func (.func fS1) #[] cS1.toArray,.func (.func fS2) #[] cS2.toArray,.func (.func fS3) #[] cS3.toArray],[.func (.func fN1) #[] cN1.toArray,.func (.func fN2) #[] cN2.toArray,.func (.func fN3) #[] cN3.toArray],[.func (.func fB1) #[] cB1.toArray,.func (.func fB2) #[] cB2.toArray,.func (.func fB3) #[] cB3.toArray],[.func (.func fC1) #[] cC1.toArray,.func (.func fC2) #[] cC2.toArray,.func (.func fC3) #[] cC3.toArray],[.func (.func fR1) #[] cR1.toArray,.func (.func fR2) #[] cR2.toArray,.func (.func fR3) #[] cR3.toArray]] rfl rfl rfl rfl rfl rfl rfl rfl rfl rfl (noPd rfl) (fun rb=>?_)
  refine zg0 ?_
  exact Cd.ret (ret1 (A':=(rb,cl (([[.func (.func fS1) #[] cS1.toArray,.func (.func fS2) #[] cS2.toArray,.func (.func fS3) #[] cS3.toArray],[.func (.func fN1) #[] cN1.toArray,.func (.func fN2) #[] cN2.toArray,.func (.func fN3) #[] cN3.toArray],[.func (.func fB1) #[] cB1.toArray,.func (.func fB2) #[] cB2.toArray,.func (.func fB3) #[] cB3.toArray],[.func (.func fC1) #[] cC1.toArray,.func (.func fC2) #[] cC2.toArray,.func (.func fC3) #[] cC3.toArray],[.func (.func fR1) #[] cR1.toArray,.func (.func fR2) #[] cR2.toArray,.func (.func fR3) #[] cR3.toArray]]:List (List Value)).flatten ++ []) 169) :: (AS ++ (AN ++ (AB ++ (AC ++ (AR ++ [])))))) rfl (Res.tmp rfl) (fun _ h=>h.split) (.inr ⟨rb,_,_,rfl,rfl,(.cons hS (.cons hN (.cons hB (.cons hC (.cons hR .nil)))))⟩))
 by_cases h5:kind = 5
 ·rw [show fieldsF kind = [fB,fI 31,fL] from (if_neg h3).trans ((if_neg h4).trans (if_pos h5))]
  refine zg2 ?_
  refine zdr [qy 0,qz 1,qy 3,(2,2,[0,3]),(4,2,[]),qz 5] ?_
  refine zg3 ?_
  refine Ops.callV (fi:=[]) (ca:=[]) (vs:=[_]) (indexf_spec 31 (by decide)) rfl zp1 rfl rfl rfl rfl (fun v AI hR=>?_)
  obtain ⟨v1,v2,v3,rfl,hI⟩:=hR
  have hc:=hI
  obtain ⟨⟨fI1,cI1,rfl,_⟩,⟨fI2,cI2,rfl,_⟩,⟨fI3,cI3,rfl,_⟩⟩:=hc
  refine Ops.bsN [[.func (.func fB1) #[] cB1.toArray,.func (.func fB2) #[] cB2.toArray,.func (.func fB3) #[] cB3.toArray],[.func (.func fI1) #[] cI1.toArray,.func (.func fI2) #[] cI2.toArray,.func (.func fI3) #[] cI3.toArray],[.func (.func fL1) #[] cL1.toArray,.func (.func fL2) #[] cL2.toArray,.func (.func fL3) #[] cL3.toArray]] rfl rfl rfl rfl rfl rfl rfl rfl rfl rfl (noPd rfl) (fun rb=>?_)
  refine zg0 ?_
  exact Cd.ret (ret1 (A':=(rb,cl (([[.func (.func fB1) #[] cB1.toArray,.func (.func fB2) #[] cB2.toArray,.func (.func fB3) #[] cB3.toArray],[.func (.func fI1) #[] cI1.toArray,.func (.func fI2) #[] cI2.toArray,.func (.func fI3) #[] cI3.toArray],[.func (.func fL1) #[] cL1.toArray,.func (.func fL2) #[] cL2.toArray,.func (.func fL3) #[] cL3.toArray]]:List (List Value)).flatten ++ []) 169) :: (AB ++ (AI ++ (AL ++ [])))) rfl (Res.tmp rfl) (fun _ h=>h.split) (.inr ⟨rb,_,_,rfl,rfl,(.cons hB (.cons hI (.cons hL .nil)))⟩))
 by_cases h6:kind = 6
 ·rw [show fieldsF kind = [fJ,fB,fI 16,fL] from (if_neg h3).trans ((if_neg h4).trans ((if_neg h5).trans (if_pos h6)))]
  refine zg2 ?_
  refine zdr [qy 0,qy 1,qz 2,qy 4,(3,2,[0,1,4]),(5,2,[]),qz 6] ?_
  refine zg3 ?_
  refine Ops.callV (fi:=[]) (ca:=[]) (vs:=[_]) (indexf_spec 16 (by decide)) rfl zp1 rfl rfl rfl rfl (fun v AI hR=>?_)
  obtain ⟨v1,v2,v3,rfl,hI⟩:=hR
  have hc:=hI
  obtain ⟨⟨fI1,cI1,rfl,_⟩,⟨fI2,cI2,rfl,_⟩,⟨fI3,cI3,rfl,_⟩⟩:=hc
  refine Ops.bsN [[.func (.func fJ1) #[] cJ1.toArray,.func (.func fJ2) #[] cJ2.toArray,.func (.func fJ3) #[] cJ3.toArray],[.func (.func fB1) #[] cB1.toArray,.func (.func fB2) #[] cB2.toArray,.func (.func fB3) #[] cB3.toArray],[.func (.func fI1) #[] cI1.toArray,.func (.func fI2) #[] cI2.toArray,.func (.func fI3) #[] cI3.toArray],[.func (.func fL1) #[] cL1.toArray,.func (.func fL2) #[] cL2.toArray,.func (.func fL3) #[] cL3.toArray]] rfl rfl rfl rfl rfl rfl rfl rfl rfl rfl (noPd rfl) (fun rb=>?_)
  refine zg0 ?_
  exact Cd.ret (ret1 (A':=(rb,cl (([[.func (.func fJ1) #[] cJ1.toArray,.func (.func fJ2) #[] cJ2.toArray,.func (.func fJ3) #[] cJ3.toArray],[.func (.func fB1) #[] cB1.toArray,.func (.func fB2) #[] cB2.toArray,.func (.func fB3) #[] cB3.toArray],[.func (.func fI1) #[] cI1.toArray,.func (.func fI2) #[] cI2.toArray,.func (.func fI3) #[] cI3.toArray],[.func (.func fL1) #[] cL1.toArray,.func (.func fL2) #[] cL2.toArray,.func (.func fL3) #[] cL3.toArray]]:List (List Value)).flatten ++ []) 169) :: (AJ ++ (AB ++ (AI ++ (AL ++ []))))) rfl (Res.tmp rfl) (fun _ h=>h.split) (.inr ⟨rb,_,_,rfl,rfl,(.cons hJ (.cons hB (.cons hI (.cons hL .nil))))⟩))
 by_cases h7:kind = 7
 ·rw [show fieldsF kind = [fS] from (if_neg h3).trans ((if_neg h4).trans ((if_neg h5).trans ((if_neg h6).trans (if_pos h7))))]
  repeat' (first|refine zs5 ?_|refine Ops.bs1 rfl rfl rfl rfl rfl rfl rfl (noPd rfl) (fun b=>?_))
  rename Nat=>rb
  exact Cd.ret (ret1 (A':=(rb,cl [.func (.func fS1) #[] cS1.toArray,.func (.func fS2) #[] cS2.toArray,.func (.func fS3) #[] cS3.toArray] 169) :: (AS ++ [])) rfl (Res.tmp rfl) (fun _ h=>h.split) (.inr ⟨rb,[[.func (.func fS1) #[] cS1.toArray,.func (.func fS2) #[] cS2.toArray,.func (.func fS3) #[] cS3.toArray]],_,rfl,rfl,.cons hS .nil⟩))
 by_cases h9:kind = 9
 ·rw [show fieldsF kind = [fS,fN,fJ,fB,fP] from (if_neg h3).trans ((if_neg h4).trans ((if_neg h5).trans ((if_neg h6).trans ((if_neg h7).trans (if_pos h9)))))]
  refine zg8 ?_
  refine Ops.bsN [[.func (.func fS1) #[] cS1.toArray,.func (.func fS2) #[] cS2.toArray,.func (.func fS3) #[] cS3.toArray],[.func (.func fN1) #[] cN1.toArray,.func (.func fN2) #[] cN2.toArray,.func (.func fN3) #[] cN3.toArray],[.func (.func fJ1) #[] cJ1.toArray,.func (.func fJ2) #[] cJ2.toArray,.func (.func fJ3) #[] cJ3.toArray],[.func (.func fB1) #[] cB1.toArray,.func (.func fB2) #[] cB2.toArray,.func (.func fB3) #[] cB3.toArray],[.func (.func fP1) #[] cP1.toArray,.func (.func fP2) #[] cP2.toArray,.func (.func fP3) #[] cP3.toArray]] rfl rfl rfl rfl rfl rfl rfl rfl rfl rfl (noPd rfl) (fun rb=>?_)
  refine zg0 ?_
  exact Cd.ret (ret1 (A':=(rb,cl (([[.func (.func fS1) #[] cS1.toArray,.func (.func fS2) #[] cS2.toArray,.func (.func fS3) #[] cS3.toArray],[.func (.func fN1) #[] cN1.toArray,.func (.func fN2) #[] cN2.toArray,.func (.func fN3) #[] cN3.toArray],[.func (.func fJ1) #[] cJ1.toArray,.func (.func fJ2) #[] cJ2.toArray,.func (.func fJ3) #[] cJ3.toArray],[.func (.func fB1) #[] cB1.toArray,.func (.func fB2) #[] cB2.toArray,.func (.func fB3) #[] cB3.toArray],[.func (.func fP1) #[] cP1.toArray,.func (.func fP2) #[] cP2.toArray,.func (.func fP3) #[] cP3.toArray]]:List (List Value)).flatten ++ []) 169) :: (AS ++ (AN ++ (AJ ++ (AB ++ (AP ++ [])))))) rfl (Res.tmp rfl) (fun _ h=>h.split) (.inr ⟨rb,_,_,rfl,rfl,(.cons hS (.cons hN (.cons hJ (.cons hB (.cons hP .nil)))))⟩))
 by_cases h14:kind = 14
 ·rw [show fieldsF kind = [fB,fC 32] from (if_neg h3).trans ((if_neg h4).trans ((if_neg h5).trans ((if_neg h6).trans ((if_neg h7).trans ((if_neg h9).trans (if_pos h14))))))]
  refine zg2 ?_
  refine zdr [qy 0,qz 1,(2,2,[0]),(3,2,[]),qz 4] ?_
  refine zg3 ?_
  refine Ops.callV (fi:=[]) (ca:=[]) (vs:=[_]) (countf_spec 32 (by decide)) rfl zp1 rfl rfl rfl rfl (fun v AC hR=>?_)
  obtain ⟨v1,v2,v3,rfl,hC⟩:=hR
  have hc:=hC
  obtain ⟨⟨fC1,cC1,rfl,_⟩,⟨fC2,cC2,rfl,_⟩,⟨fC3,cC3,rfl,_⟩⟩:=hc
  refine Ops.bsN [[.func (.func fB1) #[] cB1.toArray,.func (.func fB2) #[] cB2.toArray,.func (.func fB3) #[] cB3.toArray],[.func (.func fC1) #[] cC1.toArray,.func (.func fC2) #[] cC2.toArray,.func (.func fC3) #[] cC3.toArray]] rfl rfl rfl rfl rfl rfl rfl rfl rfl rfl (noPd rfl) (fun rb=>?_)
  refine zg0 ?_
  exact Cd.ret (ret1 (A':=(rb,cl (([[.func (.func fB1) #[] cB1.toArray,.func (.func fB2) #[] cB2.toArray,.func (.func fB3) #[] cB3.toArray],[.func (.func fC1) #[] cC1.toArray,.func (.func fC2) #[] cC2.toArray,.func (.func fC3) #[] cC3.toArray]]:List (List Value)).flatten ++ []) 169) :: (AB ++ (AC ++ []))) rfl (Res.tmp rfl) (fun _ h=>h.split) (.inr ⟨rb,_,_,rfl,rfl,(.cons hB (.cons hC .nil))⟩))
 by_cases h15:kind = 15
 ·rw [show fieldsF kind = [fJ,fB,fC 17] from (if_neg h3).trans ((if_neg h4).trans ((if_neg h5).trans ((if_neg h6).trans ((if_neg h7).trans ((if_neg h9).trans ((if_neg h14).trans (if_pos h15)))))))]
  refine zg2 ?_
  refine zdr [qy 0,qy 1,qz 2,(3,2,[0,1]),(4,2,[]),qz 5] ?_
  refine zg3 ?_
  refine Ops.callV (fi:=[]) (ca:=[]) (vs:=[_]) (countf_spec 17 (by decide)) rfl zp1 rfl rfl rfl rfl (fun v AC hR=>?_)
  obtain ⟨v1,v2,v3,rfl,hC⟩:=hR
  have hc:=hC
  obtain ⟨⟨fC1,cC1,rfl,_⟩,⟨fC2,cC2,rfl,_⟩,⟨fC3,cC3,rfl,_⟩⟩:=hc
  refine Ops.bsN [[.func (.func fJ1) #[] cJ1.toArray,.func (.func fJ2) #[] cJ2.toArray,.func (.func fJ3) #[] cJ3.toArray],[.func (.func fB1) #[] cB1.toArray,.func (.func fB2) #[] cB2.toArray,.func (.func fB3) #[] cB3.toArray],[.func (.func fC1) #[] cC1.toArray,.func (.func fC2) #[] cC2.toArray,.func (.func fC3) #[] cC3.toArray]] rfl rfl rfl rfl rfl rfl rfl rfl rfl rfl (noPd rfl) (fun rb=>?_)
  refine zg0 ?_
  exact Cd.ret (ret1 (A':=(rb,cl (([[.func (.func fJ1) #[] cJ1.toArray,.func (.func fJ2) #[] cJ2.toArray,.func (.func fJ3) #[] cJ3.toArray],[.func (.func fB1) #[] cB1.toArray,.func (.func fB2) #[] cB2.toArray,.func (.func fB3) #[] cB3.toArray],[.func (.func fC1) #[] cC1.toArray,.func (.func fC2) #[] cC2.toArray,.func (.func fC3) #[] cC3.toArray]]:List (List Value)).flatten ++ []) 169) :: (AJ ++ (AB ++ (AC ++ [])))) rfl (Res.tmp rfl) (fun _ h=>h.split) (.inr ⟨rb,_,_,rfl,rfl,(.cons hJ (.cons hB (.cons hC .nil)))⟩))
 by_cases h16:kind = 16
 ·rw [show fieldsF kind = [fJ,fB] from (if_neg h3).trans ((if_neg h4).trans ((if_neg h5).trans ((if_neg h6).trans ((if_neg h7).trans ((if_neg h9).trans ((if_neg h14).trans ((if_neg h15).trans (if_pos h16))))))))]
  refine zg8 ?_
  refine Ops.bsN [[.func (.func fJ1) #[] cJ1.toArray,.func (.func fJ2) #[] cJ2.toArray,.func (.func fJ3) #[] cJ3.toArray],[.func (.func fB1) #[] cB1.toArray,.func (.func fB2) #[] cB2.toArray,.func (.func fB3) #[] cB3.toArray]] rfl rfl rfl rfl rfl rfl rfl rfl rfl rfl (noPd rfl) (fun rb=>?_)
  refine zg0 ?_
  exact Cd.ret (ret1 (A':=(rb,cl (([[.func (.func fJ1) #[] cJ1.toArray,.func (.func fJ2) #[] cJ2.toArray,.func (.func fJ3) #[] cJ3.toArray],[.func (.func fB1) #[] cB1.toArray,.func (.func fB2) #[] cB2.toArray,.func (.func fB3) #[] cB3.toArray]]:List (List Value)).flatten ++ []) 169) :: (AJ ++ (AB ++ []))) rfl (Res.tmp rfl) (fun _ h=>h.split) (.inr ⟨rb,_,_,rfl,rfl,(.cons hJ (.cons hB .nil))⟩))
 by_cases h1:kind = 1
 ·rw [show fieldsF kind = [] from (if_neg h3).trans ((if_neg h4).trans ((if_neg h5).trans ((if_neg h6).trans ((if_neg h7).trans ((if_neg h9).trans ((if_neg h14).trans ((if_neg h15).trans ((if_neg h16).trans (if_pos h1)))))))))]
  refine zg2 ?_
  exact Cd.ret (ret1 (A':=[]) rfl (Res.tmp rfl) (fun _ h=>h.split) (.inl ⟨rfl,rfl,rfl⟩))
 rw [show fieldsF kind = [fS,fN] from (if_neg h3).trans ((if_neg h4).trans ((if_neg h5).trans ((if_neg h6).trans ((if_neg h7).trans ((if_neg h9).trans ((if_neg h14).trans ((if_neg h15).trans ((if_neg h16).trans (if_neg h1)))))))))]
 refine zg2 ?_
 refine Ops.bsN [[.func (.func fS1) #[] cS1.toArray,.func (.func fS2) #[] cS2.toArray,.func (.func fS3) #[] cS3.toArray],[.func (.func fN1) #[] cN1.toArray,.func (.func fN2) #[] cN2.toArray,.func (.func fN3) #[] cN3.toArray]] rfl rfl rfl rfl rfl rfl rfl rfl rfl rfl (noPd rfl) (fun rb=>?_)
 refine zg0 ?_
 exact Cd.ret (ret1 (A':=(rb,cl (([[.func (.func fS1) #[] cS1.toArray,.func (.func fS2) #[] cS2.toArray,.func (.func fS3) #[] cS3.toArray],[.func (.func fN1) #[] cN1.toArray,.func (.func fN2) #[] cN2.toArray,.func (.func fN3) #[] cN3.toArray]]:List (List Value)).flatten ++ []) 169) :: (AS ++ (AN ++ []))) rfl (Res.tmp rfl) (fun _ h=>h.split) (.inr ⟨rb,_,_,rfl,rfl,(.cons hS (.cons hN .nil))⟩))
def setL (m n:Ms) (c:Nat):Ms:=if c = 115 then { n with session:=m.session } else if c = 110 then { n with number:=m.number } else if c = 106 then { n with job:=m.job } else if c = 98 then { n with badge:=m.badge } else if c = 105 then { n with index:=m.index } else if c = 99 then { n with count:=m.count } else if c = 114 then { n with rcode:=m.rcode,rbits:=m.rbits } else if c = 116 then { n with text:=m.text } else if c = 112 then { n with prog:=m.prog } else n
theorem named_115 (nb mb:Nat) (n m:Ms):Con prog 205 #[ptr nb,ptr mb] [MgB nb n.row,MgB mb m.row] fun v A=>A = [MgB nb (setL m n 115).row,MgB mb m.row]:=by
 obtain ⟨kd,se,nu,jo,ba,ix,co,rc,rb,tx,pr⟩:=n
 obtain ⟨kd2,se2,nu2,jo2,ba2,ix2,co2,rc2,rb2,tx2,pr2⟩:=m
 refine zqI (vs:=[_,_]) func205 ntmps205 fun B=>?_
 refine zg1 ?_
 exact Ops.nilN (end0 (A':=[MgB nb [.int .i64 kd,.int .i64 se2,.int .i64 nu,.int .i64 jo,.int .i64 ba,.int .i64 ix,.int .i64 co,.int .i64 rc,.int .u64 rb,.string tx,.string pr],MgB mb [.int .i64 kd2,.int .i64 se2,.int .i64 nu2,.int .i64 jo2,.int .i64 ba2,.int .i64 ix2,.int .i64 co2,.int .i64 rc2,.int .u64 rb2,.string tx2,.string pr2]]) rfl (fun _ h=>h.split) rfl)
theorem named_110 (nb mb:Nat) (n m:Ms):Con prog 206 #[ptr nb,ptr mb] [MgB nb n.row,MgB mb m.row] fun v A=>A = [MgB nb (setL m n 110).row,MgB mb m.row]:=by
 obtain ⟨kd,se,nu,jo,ba,ix,co,rc,rb,tx,pr⟩:=n
 obtain ⟨kd2,se2,nu2,jo2,ba2,ix2,co2,rc2,rb2,tx2,pr2⟩:=m
 refine zqI (vs:=[_,_]) func206 ntmps206 fun B=>?_
 refine zg1 ?_
 exact Ops.nilN (end0 (A':=[MgB nb [.int .i64 kd,.int .i64 se,.int .i64 nu2,.int .i64 jo,.int .i64 ba,.int .i64 ix,.int .i64 co,.int .i64 rc,.int .u64 rb,.string tx,.string pr],MgB mb [.int .i64 kd2,.int .i64 se2,.int .i64 nu2,.int .i64 jo2,.int .i64 ba2,.int .i64 ix2,.int .i64 co2,.int .i64 rc2,.int .u64 rb2,.string tx2,.string pr2]]) rfl (fun _ h=>h.split) rfl)
theorem named_106 (nb mb:Nat) (n m:Ms):Con prog 207 #[ptr nb,ptr mb] [MgB nb n.row,MgB mb m.row] fun v A=>A = [MgB nb (setL m n 106).row,MgB mb m.row]:=by
 obtain ⟨kd,se,nu,jo,ba,ix,co,rc,rb,tx,pr⟩:=n
 obtain ⟨kd2,se2,nu2,jo2,ba2,ix2,co2,rc2,rb2,tx2,pr2⟩:=m
 refine zqI (vs:=[_,_]) func207 ntmps207 fun B=>?_
 refine zg1 ?_
 exact Ops.nilN (end0 (A':=[MgB nb [.int .i64 kd,.int .i64 se,.int .i64 nu,.int .i64 jo2,.int .i64 ba,.int .i64 ix,.int .i64 co,.int .i64 rc,.int .u64 rb,.string tx,.string pr],MgB mb [.int .i64 kd2,.int .i64 se2,.int .i64 nu2,.int .i64 jo2,.int .i64 ba2,.int .i64 ix2,.int .i64 co2,.int .i64 rc2,.int .u64 rb2,.string tx2,.string pr2]]) rfl (fun _ h=>h.split) rfl)
theorem named_98 (nb mb:Nat) (n m:Ms):Con prog 208 #[ptr nb,ptr mb] [MgB nb n.row,MgB mb m.row] fun v A=>A = [MgB nb (setL m n 98).row,MgB mb m.row]:=by
 obtain ⟨kd,se,nu,jo,ba,ix,co,rc,rb,tx,pr⟩:=n
 obtain ⟨kd2,se2,nu2,jo2,ba2,ix2,co2,rc2,rb2,tx2,pr2⟩:=m
 refine zqI (vs:=[_,_]) func208 ntmps208 fun B=>?_
 refine zg1 ?_
 exact Ops.nilN (end0 (A':=[MgB nb [.int .i64 kd,.int .i64 se,.int .i64 nu,.int .i64 jo,.int .i64 ba2,.int .i64 ix,.int .i64 co,.int .i64 rc,.int .u64 rb,.string tx,.string pr],MgB mb [.int .i64 kd2,.int .i64 se2,.int .i64 nu2,.int .i64 jo2,.int .i64 ba2,.int .i64 ix2,.int .i64 co2,.int .i64 rc2,.int .u64 rb2,.string tx2,.string pr2]]) rfl (fun _ h=>h.split) rfl)
theorem named_105 (nb mb:Nat) (n m:Ms):Con prog 209 #[ptr nb,ptr mb] [MgB nb n.row,MgB mb m.row] fun v A=>A = [MgB nb (setL m n 105).row,MgB mb m.row]:=by
 obtain ⟨kd,se,nu,jo,ba,ix,co,rc,rb,tx,pr⟩:=n
 obtain ⟨kd2,se2,nu2,jo2,ba2,ix2,co2,rc2,rb2,tx2,pr2⟩:=m
 refine zqI (vs:=[_,_]) func209 ntmps209 fun B=>?_
 refine zg1 ?_
 exact Ops.nilN (end0 (A':=[MgB nb [.int .i64 kd,.int .i64 se,.int .i64 nu,.int .i64 jo,.int .i64 ba,.int .i64 ix2,.int .i64 co,.int .i64 rc,.int .u64 rb,.string tx,.string pr],MgB mb [.int .i64 kd2,.int .i64 se2,.int .i64 nu2,.int .i64 jo2,.int .i64 ba2,.int .i64 ix2,.int .i64 co2,.int .i64 rc2,.int .u64 rb2,.string tx2,.string pr2]]) rfl (fun _ h=>h.split) rfl)
theorem named_99 (nb mb:Nat) (n m:Ms):Con prog 210 #[ptr nb,ptr mb] [MgB nb n.row,MgB mb m.row] fun v A=>A = [MgB nb (setL m n 99).row,MgB mb m.row]:=by
 obtain ⟨kd,se,nu,jo,ba,ix,co,rc,rb,tx,pr⟩:=n
 obtain ⟨kd2,se2,nu2,jo2,ba2,ix2,co2,rc2,rb2,tx2,pr2⟩:=m
 refine zqI (vs:=[_,_]) func210 ntmps210 fun B=>?_
 refine zg1 ?_
 exact Ops.nilN (end0 (A':=[MgB nb [.int .i64 kd,.int .i64 se,.int .i64 nu,.int .i64 jo,.int .i64 ba,.int .i64 ix,.int .i64 co2,.int .i64 rc,.int .u64 rb,.string tx,.string pr],MgB mb [.int .i64 kd2,.int .i64 se2,.int .i64 nu2,.int .i64 jo2,.int .i64 ba2,.int .i64 ix2,.int .i64 co2,.int .i64 rc2,.int .u64 rb2,.string tx2,.string pr2]]) rfl (fun _ h=>h.split) rfl)
theorem named_114 (nb mb:Nat) (n m:Ms):Con prog 211 #[ptr nb,ptr mb] [MgB nb n.row,MgB mb m.row] fun v A=>A = [MgB nb (setL m n 114).row,MgB mb m.row]:=by
 obtain ⟨kd,se,nu,jo,ba,ix,co,rc,rb,tx,pr⟩:=n
 obtain ⟨kd2,se2,nu2,jo2,ba2,ix2,co2,rc2,rb2,tx2,pr2⟩:=m
 refine zqI (vs:=[_,_]) func211 ntmps211 fun B=>?_
 refine zg16 ?_
 exact Ops.nilN (end0 (A':=[MgB nb [.int .i64 kd,.int .i64 se,.int .i64 nu,.int .i64 jo,.int .i64 ba,.int .i64 ix,.int .i64 co,.int .i64 rc2,.int .u64 rb2,.string tx,.string pr],MgB mb [.int .i64 kd2,.int .i64 se2,.int .i64 nu2,.int .i64 jo2,.int .i64 ba2,.int .i64 ix2,.int .i64 co2,.int .i64 rc2,.int .u64 rb2,.string tx2,.string pr2]]) rfl (fun _ h=>h.split) rfl)
theorem named_116 (nb mb:Nat) (n m:Ms):Con prog 212 #[ptr nb,ptr mb] [MgB nb n.row,MgB mb m.row] fun v A=>A = [MgB nb (setL m n 116).row,MgB mb m.row]:=by
 obtain ⟨kd,se,nu,jo,ba,ix,co,rc,rb,tx,pr⟩:=n
 obtain ⟨kd2,se2,nu2,jo2,ba2,ix2,co2,rc2,rb2,tx2,pr2⟩:=m
 refine zqI (vs:=[_,_]) func212 ntmps212 fun B=>?_
 refine zg1 ?_
 exact Ops.nilN (end0 (A':=[MgB nb [.int .i64 kd,.int .i64 se,.int .i64 nu,.int .i64 jo,.int .i64 ba,.int .i64 ix,.int .i64 co,.int .i64 rc,.int .u64 rb,.string tx2,.string pr],MgB mb [.int .i64 kd2,.int .i64 se2,.int .i64 nu2,.int .i64 jo2,.int .i64 ba2,.int .i64 ix2,.int .i64 co2,.int .i64 rc2,.int .u64 rb2,.string tx2,.string pr2]]) rfl (fun _ h=>h.split) rfl)
theorem named_112 (nb mb:Nat) (n m:Ms):Con prog 213 #[ptr nb,ptr mb] [MgB nb n.row,MgB mb m.row] fun v A=>A = [MgB nb (setL m n 112).row,MgB mb m.row]:=by
 obtain ⟨kd,se,nu,jo,ba,ix,co,rc,rb,tx,pr⟩:=n
 obtain ⟨kd2,se2,nu2,jo2,ba2,ix2,co2,rc2,rb2,tx2,pr2⟩:=m
 refine zqI (vs:=[_,_]) func213 ntmps213 fun B=>?_
 refine zg1 ?_
 exact Ops.nilN (end0 (A':=[MgB nb [.int .i64 kd,.int .i64 se,.int .i64 nu,.int .i64 jo,.int .i64 ba,.int .i64 ix,.int .i64 co,.int .i64 rc,.int .u64 rb,.string tx,.string pr2],MgB mb [.int .i64 kd2,.int .i64 se2,.int .i64 nu2,.int .i64 jo2,.int .i64 ba2,.int .i64 ix2,.int .i64 co2,.int .i64 rc2,.int .u64 rb2,.string tx2,.string pr2]]) rfl (fun _ h=>h.split) rfl)
end Go.Proofs.YtkoelgkghijgiaaGreat
namespace Go.Proofs.YtkoelgkghijgiaaGreat
open Go Go.Sep Go.Proofs
set_option maxRecDepth 10000
set_option maxHeartbeats 40000000
set_option synthInstance.maxSize 2000
def allL (mb:Nat):List Value:=[.nilFunc,.nilFunc,.nilFunc,.nilFunc,.nilFunc,.nilFunc,.nilFunc,.nilFunc,.nilFunc,.nilFunc,.nilFunc,.nilFunc,.nilFunc,.nilFunc,.nilFunc,.nilFunc,.nilFunc,.nilFunc,.nilFunc,.nilFunc,.nilFunc,.nilFunc,.nilFunc,.nilFunc,.nilFunc,.nilFunc,.nilFunc,.nilFunc,.nilFunc,.nilFunc,.nilFunc,.nilFunc,.nilFunc,.nilFunc,.nilFunc,.nilFunc,.nilFunc,.nilFunc,.nilFunc,.nilFunc,.nilFunc,.nilFunc,.nilFunc,.nilFunc,.nilFunc,.nilFunc,.nilFunc,.nilFunc,.nilFunc,.nilFunc,.nilFunc,.nilFunc,.nilFunc,.nilFunc,.nilFunc,.nilFunc,.nilFunc,.nilFunc,.nilFunc,.nilFunc,.nilFunc,.nilFunc,.nilFunc,.nilFunc,.nilFunc,.nilFunc,.nilFunc,.nilFunc,.nilFunc,.nilFunc,.nilFunc,.nilFunc,.nilFunc,.nilFunc,.nilFunc,.nilFunc,.nilFunc,.nilFunc,.nilFunc,.nilFunc,.nilFunc,.nilFunc,.nilFunc,.nilFunc,.nilFunc,.nilFunc,.nilFunc,.nilFunc,.nilFunc,.nilFunc,.nilFunc,.nilFunc,.nilFunc,.nilFunc,.nilFunc,.nilFunc,.nilFunc,.nilFunc,.func (.func 208) #[] #[ptr mb],.func (.func 210) #[] #[ptr mb],.nilFunc,.nilFunc,.nilFunc,.nilFunc,.nilFunc,.func (.func 209) #[] #[ptr mb],.func (.func 207) #[] #[ptr mb],.nilFunc,.nilFunc,.nilFunc,.func (.func 206) #[] #[ptr mb],.nilFunc,.func (.func 213) #[] #[ptr mb],.nilFunc,.func (.func 211) #[] #[ptr mb],.func (.func 205) #[] #[ptr mb],.func (.func 212) #[] #[ptr mb]]
def wordsL:List Value:=[.string ⟨#[]⟩,.string ⟨#[]⟩,.string ⟨#[115,110]⟩,.string ⟨#[115,110,98]⟩,.string ⟨#[115,110,98,99,114]⟩,.string ⟨#[98,105,116]⟩,.string ⟨#[106,98,105,116]⟩,.string ⟨#[115]⟩,.string ⟨#[115,110]⟩,.string ⟨#[115,110,106,98,112]⟩,.string ⟨#[115,110]⟩,.string ⟨#[115,110]⟩,.string ⟨#[115,110]⟩,.string ⟨#[115,110]⟩,.string ⟨#[98,99]⟩,.string ⟨#[106,98,99]⟩,.string ⟨#[106,98]⟩]
def wordF (k:Int):ByteArray:=match wordsL[k.toNat]? with
 | some (.string s)=>s
 | _=>.empty
theorem words_at {k:Int} (h0:1 ≤ k) (h1:k ≤ 16):wordsL[k.toNat]? = some (.string (wordF k)):=by
 have h:k = 1 ∨ k = 2 ∨ k = 3 ∨ k = 4 ∨ k = 5 ∨ k = 6 ∨ k = 7 ∨ k = 8 ∨ k = 9 ∨ k = 10 ∨ k = 11 ∨ k = 12 ∨ k = 13 ∨ k = 14 ∨ k = 15 ∨ k = 16:=by omega
 rcases h with rfl|rfl|rfl|rfl|rfl|rfl|rfl|rfl|rfl|rfl|rfl|rfl|rfl|rfl|rfl|rfl <;> rfl
def letters:List Nat:=[115,110,106,98,105,99,114,116,112]
theorem words_ok {k:Int} (h0:1 ≤ k) (h1:k ≤ 16):(wordF k).size ≤ 5 ∧ ∀ i,i < (wordF k).size → bat (wordF k) i ∈ letters:=by
 have h:k = 1 ∨ k = 2 ∨ k = 3 ∨ k = 4 ∨ k = 5 ∨ k = 6 ∨ k = 7 ∨ k = 8 ∨ k = 9 ∨ k = 10 ∨ k = 11 ∨ k = 12 ∨ k = 13 ∨ k = 14 ∨ k = 15 ∨ k = 16:=by omega
 rcases h with rfl|rfl|rfl|rfl|rfl|rfl|rfl|rfl|rfl|rfl|rfl|rfl|rfl|rfl|rfl|rfl <;> decide
def lettersG (m:Ms) (u:ByteArray):Nat → Ms
 | 0=>{ Ms.zero with kind:=m.kind }
 | i + 1=>setL m (lettersG m u i) (bat u i)
def namedF (m:Ms):Ms:=lettersG m (wordF m.kind) (wordF m.kind).size
end Go.Proofs.YtkoelgkghijgiaaGreat
