import Derived.Test.YtaecdnfkcebbeaaGreatA01
import Derived.Test.YtaecdnfkcebbeaaGreatA12
import Derived.Test.YtaecdnfkcebbeaaGreatA10
set_option linter.unusedVariables false
set_option linter.unusedSimpArgs false
namespace Go.Proofs.YtaecdnfkcebbeaaGreat.Ls
open Go Go.Sep Go.Proofs
set_option maxRecDepth 10000
set_option maxHeartbeats 2000000
set_option synthInstance.maxSize 2000
theorem u64_small {n:Int} (h0:0 ≤ n) (h1:n ≤ 12):IntKind.u64.wrap n = n:=by simp [IntKind.wrap,IntKind.bits,IntKind.signed];omega
theorem u8_small {n:Int} (h0:0 ≤ n) (h1:n ≤ 12):IntKind.u8.wrap n = n:=by simp [IntKind.wrap,IntKind.bits,IntKind.signed];omega
theorem nan_spec (a:Int):Con Tryz.prog 292 #[.int .i64 a] [] fun v A=>v = .bool false ∧ A = []:=by
 refine Con.intro (vs:=[_]) Tryz.func292 rfl Tryz.ntmps292 rfl (fun B=>?_)
 refine zg8 ?_
 exact Cd.ret (ret1 rfl (Res.tmp rfl) (fun _ h=>h) ⟨by simp,rfl⟩)
theorem less_spec (a b:Int):Con Tryz.prog 281 #[.int .i64 a,.int .i64 b] [] fun v A=>v = .bool (decide (a < b)) ∧ A = []:=by
 refine Con.intro (vs:=[_,_]) Tryz.func281 rfl Tryz.ntmps281 rfl (fun B=>?_)
 refine zg0 ?_
 refine Ops.call (nan_spec a) rfl (noPd rfl) rfl rfl rfl (fun v A' hR=>?_)
 obtain ⟨rfl,rfl⟩:=hR
 refine zg20 ?_
 exact Cd.ret (ret1 rfl (Res.tmp rfl) (fun _ h=>h) ⟨rfl,rfl⟩)
theorem len64_spec (n:Int) (h0:0 ≤ n) (h1:n ≤ 12):Con Tryz.prog 285 #[.int .u64 n] [] fun v A=>(∃ k,v = .int .i64 k) ∧ A = []:=by
 refine Con.intro (vs:=[_]) Tryz.func285 rfl Tryz.ntmps285 rfl (fun B=>?_)
 refine zg17 ?_
 refine Ops.cvI rfl rfl rfl rfl ?_
 rw [u8_small h0 h1]
 refine Ops.ixE rfl rfl rfl rfl h0 (Nat.lt_of_le_of_lt (show n.toNat ≤ 12 from by omega) (by decide +kernel)) rfl (fun b _=>?_)
 skip
 refine Ops.cvI rfl rfl rfl rfl ?_
 refine zg10 ?_
 exact Cd.ret (ret1 rfl (Res.tmp rfl) (fun _ h=>h) ⟨⟨_,rfl⟩,rfl⟩)
theorem blen_spec (n:Int) (h0:0 ≤ n) (h1:n ≤ 12):Con Tryz.prog 262 #[.int .u64 n] [] fun v A=>(∃ k,v = .int .i64 k) ∧ A = []:=by
 refine Con.intro (vs:=[_]) Tryz.func262 rfl Tryz.ntmps262 rfl (fun B=>?_)
 refine zg6 ?_
 refine Ops.call (len64_spec n h0 h1) rfl (noPd rfl) rfl rfl rfl (fun v A' hR=>?_)
 obtain ⟨⟨k,rfl⟩,rfl⟩:=hR
 refine zg1 ?_
 exact Cd.ret (ret1 rfl (Res.tmp rfl) (fun _ h=>h) ⟨⟨_,rfl⟩,rfl⟩)
@[reducible] def irow (x:Int):List Value:=[.int .i64 x]
theorem irows_ok (xs:List Int):RowsOk 1 (xs.map irow):=rows_map (f:=irow) (fun _=>⟨rfl,rfl⟩) xs
def OwnI (sv:Value) (xs:List Int) (G:List Blk):Prop:=Own 3 1 sv (xs.map irow) G
@[reducible] def IB (g:Nat) (xs:List Int) (sp:List Value):List Blk:=[(g,cl ((xs.map irow).flatten ++ sp) 3)]
theorem pw_app {a b:List Int} (h:(a ++ b).Pairwise (· ≤ ·)):a.Pairwise (· ≤ ·) ∧ b.Pairwise (· ≤ ·) ∧ ∀ x ∈ a,∀ y ∈ b,x ≤ y:=List.pairwise_append.1 h
theorem swap_rows (L' R':List Int) (x y:Int):((((L' ++ [y]) ++ x :: R').map irow).set (L'.length + 1) [.int .i64 y]).set L'.length [.int .i64 x] = (L' ++ x :: (y :: R')).map irow:=by
 simp [List.set_append]
theorem ins_spec (g n c:Nat) (xs:List Int) (sp:List Value) (hn:xs.length = n) (hc:n ≤ c) (hbig:n ≤ 1000000) :
  Con Tryz.prog 275 #[.slice (some ⟨g,0,none⟩) n c,.int .i64 0,.int .i64 n] (IB g xs sp) fun v A=>∃ ys,A = IB g ys sp ∧ ys.Perm xs ∧ ys.Pairwise (· ≤ ·):=by
 refine Con.intro (vs:=[_,_,_]) Tryz.func275 rfl Tryz.ntmps275 rfl (fun B=>?_)
 refine zg23 ?_
 refine Cd.loopK (fun s:Nat × List Int=>1 ≤ s.1 ∧ (s.1 ≤ n ∨ s.1 = 1) ∧ s.2.Perm xs ∧ (s.2.take s.1).Pairwise (· ≤ ·)) (fun s=>[(0,.slice (some ⟨g,0,none⟩) n c),(1,.int .i64 0),(2,.int .i64 n),(6,.int .i64 s.1)])
  (fun s=>IB g s.2 sp) (fun s=>n - s.1) (1,xs) ⟨Nat.le_refl _,.inr rfl,.refl _,by
   cases xs with
   | nil=>exact List.Pairwise.nil
   | cons x xs=>simp⟩ ⟨rfl,rfl,rfl,rfl,trivial⟩ (fun w h=>h) (fun s hI=>?_)
 obtain ⟨i,zs⟩:=s
 obtain ⟨hi1,hin,hp,hs⟩:=hI
 dsimp only at hi1 hin hp hs ⊢
 have hzl:zs.length = n:=by rw [hp.length_eq,hn]
 by_cases hil:i < n
 ·have hil':(i:Int) < n:=by omega
  obtain ⟨x,hx⟩:∃ x,zs[i]? = some x:=⟨_,List.getElem?_eq_getElem (by omega)⟩
  have hsplit:zs = zs.take i ++ x :: zs.drop (i + 1):=by
   obtain ⟨h1,h2⟩:=List.getElem?_eq_some_iff.1 hx
   have e:=List.take_append_drop i zs
   rw [List.drop_eq_getElem_cons h1,h2] at e
   exact e.symm
  have htl:(zs.take i).length = i:=by rw [List.length_take];omega
  generalize zs.take i = L0 at hsplit hs htl
  generalize hrest:zs.drop (i + 1) = rest at hsplit
  refine zg14 ?_
  refine Cd.loopK (fun s:List Int × List Int=>s.1.length + s.2.length = i ∧ (s.1 ++ s.2).Pairwise (· ≤ ·) ∧ (∀ y ∈ s.2,x ≤ y) ∧ (s.1 ++ x :: (s.2 ++ rest)).Perm xs) (fun s=>[(0,.slice (some ⟨g,0,none⟩) n c),(1,.int .i64 0),(2,.int .i64 n),(6,.int .i64 i),(7,.int .i64 s.1.length)])
   (fun s=>IB g (s.1 ++ x :: (s.2 ++ rest)) sp) (fun s=>s.1.length) (L0,[]) ⟨by simp [htl],by simpa using hs,by simp,by rw [List.nil_append,← hsplit];exact hp⟩
   ⟨rfl,rfl,rfl,rfl,by rw [htl];rfl,trivial⟩ (fun w h=>by rw [List.nil_append,← hsplit];exact h) (fun s hJ=>?_)
  obtain ⟨L,R⟩:=s
  obtain ⟨hl,hpw,hge,hperm⟩:=hJ
  dsimp only at hl hpw hge hperm ⊢
  have hlen:(L ++ x :: (R ++ rest)).length = n:=by rw [hperm.length_eq,hn]
  have hk:=irows_ok (L ++ x :: (R ++ rest))
  have hxj:((L ++ x :: (R ++ rest)).map irow)[(L.length:Int).toNat]? = some [.int .i64 x]:=by
   rw [Int.toNat_natCast,List.getElem?_map,List.getElem?_append_right (Nat.le_refl _),Nat.sub_self];rfl
  have fin2:(∀ y ∈ L,y ≤ x) → ((L ++ x :: (R ++ rest)).take (i + 1)).Pairwise (· ≤ ·):=fun hle=>by
   rw [show L ++ x :: (R ++ rest) = (L ++ x :: R) ++ rest from by simp,List.take_left' (by simp;omega)]
   obtain ⟨a1,a2,a3⟩:=pw_app hpw
   rw [List.pairwise_append]
   refine ⟨a1,List.pairwise_cons.2 ⟨hge,a2⟩,fun y hy z hz=>?_⟩
   rcases List.mem_cons.1 hz with rfl|hz
   ·exact hle y hy
   ·exact a3 y hy z hz
  have done:∀ y':List Int,y'.Perm xs → (y'.take (i + 1)).Pairwise (· ≤ ·) → 1 ≤ i + 1 ∧ (i + 1 ≤ n ∨ i + 1 = 1) ∧ y'.Perm xs ∧ (y'.take (i + 1)).Pairwise (· ≤ ·):=fun y' h1 h2=>⟨by omega,.inl (by omega),h1,h2⟩
  clear hsplit hs htl hx hrest hp hzl
  rcases List.eq_nil_or_concat L with rfl|⟨L',y,rfl⟩
  ·have hz:([]:List Int).length = 0:=rfl
   rw [hz]
   refine zg0 ?_
   refine Cd.draw [(0,0,[]),(1,0,[]),(2,0,[]),(3,0,[]),(4,0,[]),(5,0,[]),(6,0,[]),(7,1,[]),(8,0,[]),(9,0,[]),(10,0,[]),(11,0,[]),(12,1,[]),(13,2,[]),(14,0,[])] (by kernel_rfl) (by kernel_rfl) (by simp only [picked,nth];exact rfl) ?_
   refine zg27 ?_
   have h9:=fin2 (fun y hy=>by cases hy)
   exact Ops.nilN (round_end (i + 1,([]:List Int) ++ x :: (R ++ rest)) (done _ hperm h9) (by show n - (i + 1) < n - i;omega) ⟨rfl,rfl,rfl,rfl,trivial⟩ (fun w h=>h))
  ·rw [List.concat_eq_append] at *
   have hyj:(((L' ++ [y]) ++ x :: (R ++ rest)).map irow)[(((L'.length + 1:Nat):Int) - 1).toNat]? = some [.int .i64 y]:=by
    rw [show (((L'.length + 1:Nat):Int) - 1).toNat = L'.length from by omega,List.getElem?_map,List.getElem?_append_left (by simp),List.getElem?_append_right (Nat.le_refl _),Nat.sub_self];try rfl
   rw [show (L' ++ [y]).length = L'.length + 1 from by simp] at hxj hl
   have hbd:L'.length + 1 < n:=by rw [← hlen];simp
   rw [show (L' ++ [y]).length = L'.length + 1 from by simp]
   refine zg0 ?_
   refine Cd.draw [(0,0,[]),(1,0,[]),(2,0,[]),(3,0,[]),(4,0,[]),(5,0,[]),(6,0,[]),(7,1,[]),(8,0,[]),(9,0,[]),(10,0,[]),(11,0,[]),(12,1,[]),(13,2,[]),(14,0,[])] (by kernel_rfl) (by kernel_rfl) (by simp only [picked,nth];exact rfl) ?_
   refine zg37 ?_
   refine Ops.call (less_spec x y) rfl (noPd rfl) rfl rfl rfl (fun v A' hR=>?_)
   obtain ⟨rfl,rfl⟩:=hR
   by_cases hlt:x < y
   ·refine zg29 ?_
    refine Cd.draw [(0,0,[]),(1,0,[]),(2,0,[]),(3,0,[]),(4,0,[]),(5,0,[]),(6,0,[]),(7,0,[]),(8,0,[]),(9,1,[]),(10,0,[]),(11,0,[]),(12,0,[]),(13,1,[]),(14,0,[]),(15,2,[]),(16,0,[]),(17,2,[])] (by kernel_rfl) (by kernel_rfl) (by simp only [picked,nth];exact rfl) ?_
    refine zg37 ?_
    refine Ops.stRow rfl rfl rfl rfl rfl rfl hk (by rw [List.length_map,hlen,Int.toNat_natCast];omega) (noPd rfl) ?_
    refine zg39 ?_
    refine Ops.stRow rfl rfl rfl rfl rfl rfl (hk.set rfl rfl) (by rw [List.length_set,List.length_map,hlen];omega) (noPd rfl) ?_
    refine zg32 ?_
    have e1:(((L'.length + 1:Nat):Int) - 1).toNat = L'.length:=by omega
    obtain ⟨a1,a2,a3⟩:=pw_app hpw
    obtain ⟨b1,b2,b3⟩:=pw_app a1
    have g1:∀ z ∈ y :: R,x ≤ z:=fun z hz=>by
     rcases List.mem_cons.1 hz with rfl|hz
     ·omega
     ·have:=a3 y (by simp) z hz;omega
    have g2:(L' ++ x :: (y :: R ++ rest)).Perm xs:=by
     refine List.Perm.trans ?_ hperm
     simp only [List.append_assoc,List.cons_append,List.nil_append]
     exact (List.Perm.swap y x _).append_left L'
    exact Ops.nilN (round_end ((L',y :: R):List Int × List Int) ⟨by show L'.length + (y :: R).length = i;simp;omega,by show (L' ++ y :: R).Pairwise (· ≤ ·);simpa using hpw,g1,g2⟩ (by show L'.length < L'.length + 1;omega) ⟨rfl,rfl,rfl,rfl,congrArg (fun x=>some (Value.int .i64 x)) (by show ((L'.length + 1:Nat):Int) - 1 = L'.length;omega),trivial⟩ (fun w h=>by
     rw [e1,Int.toNat_natCast,swap_rows] at h
     exact h))
   ·refine zg27 ?_
    have h9:=fin2 (fun z hz=>by
     rcases List.mem_append.1 hz with hz|hz
     ·have:=(pw_app (pw_app hpw).1).2.2 z hz y (by simp);omega
     ·obtain rfl:=List.mem_singleton.1 hz;omega)
    exact Ops.nilN (round_end (i + 1,(L' ++ [y]) ++ x :: (R ++ rest)) (done _ hperm h9) (by show n - (i + 1) < n - i;omega) ⟨rfl,rfl,rfl,rfl,trivial⟩ (fun w h=>h))
 ·have hil':¬ (i:Int) < n:=by omega
  have:zs.take i = zs:=List.take_of_length_le (by omega)
  rw [this] at hs
  refine zg12 ?_
  exact Cd.exit (end0 (A':=IB g zs sp) rfl (fun w h=>h) ⟨zs,rfl,hp,hs⟩)
theorem ins_nil_spec (a:Option Addr) (c:Nat):Con Tryz.prog 275 #[.slice a 0 c,.int .i64 0,.int .i64 0] [] fun v A=>A = []:=by
 refine Con.intro (vs:=[_,_,_]) Tryz.func275 rfl Tryz.ntmps275 rfl (fun B=>?_)
 refine zg23 ?_
 refine Cd.loopK (σ:=Unit) (fun _=>True) (fun _=>[(2,.int .i64 0),(6,.int .i64 1)]) (fun _=>[]) (fun _=>0) () trivial ⟨rfl,rfl,trivial⟩ (fun w h=>h) (fun _ _=>?_)
 refine zg10 ?_
 exact Cd.exit (end0 rfl (fun w h=>h) rfl)
theorem pdq_nil_spec (a:Option Addr) (c:Nat) (k:Int):Con Tryz.prog 261 #[.slice a 0 c,.int .i64 0,.int .i64 0,.int .i64 k] [] fun v A=>A = []:=by
 refine Con.intro (vs:=[_,_,_,_]) Tryz.func261 rfl Tryz.ntmps261 rfl (fun B=>?_)
 refine zg3 ?_
 refine Cd.loopK (σ:=Unit) (fun _=>True) (fun _=>[(0,.slice a 0 c),(1,.int .i64 0),(2,.int .i64 0)]) (fun _=>[]) (fun _=>0) () trivial ⟨rfl,rfl,rfl,trivial⟩ (fun w h=>h) (fun _ _=>?_)
 refine zg30 ?_
 refine Ops.call (ins_nil_spec a c) rfl (noPd rfl) rfl rfl rfl (fun v A' hR=>?_)
 obtain rfl:=hR
 refine zg1 ?_
 exact Cd.ret (ret0 rfl (fun w h=>h) rfl)
theorem pdq_spec (g n c:Nat) (xs:List Int) (sp:List Value) (k:Int) (hn:xs.length = n) (hc:n ≤ c) (h12:n ≤ 12) :
  Con Tryz.prog 261 #[.slice (some ⟨g,0,none⟩) n c,.int .i64 0,.int .i64 n,.int .i64 k] (IB g xs sp) fun v A=>∃ ys,A = IB g ys sp ∧ ys.Perm xs ∧ ys.Pairwise (· ≤ ·):=by
 refine Con.intro (vs:=[_,_,_,_]) Tryz.func261 rfl Tryz.ntmps261 rfl (fun B=>?_)
 refine zg3 ?_
 refine Cd.loopK (σ:=Unit) (fun _=>True) (fun _=>[(0,.slice (some ⟨g,0,none⟩) n c),(1,.int .i64 0),(2,.int .i64 n)]) (fun _=>IB g xs sp) (fun _=>0) () trivial ⟨rfl,rfl,rfl,trivial⟩ (fun w h=>h) (fun _ _=>?_)
 have h12':(n:Int) - 0 ≤ 12:=by omega
 refine zg33 ?_
 refine Ops.call (ins_spec g n c xs sp hn hc (by omega)) rfl (noPd rfl) rfl rfl rfl (fun v A' hR=>?_)
 obtain ⟨ys,rfl,hp,hs⟩:=hR
 refine zg1 ?_
 exact Cd.ret (ret0 (A':=IB g ys sp) rfl (fun w h=>h.split) ⟨ys,rfl,hp,hs⟩)
theorem sort_spec (sv:Value) (xs:List Int) (G:List Blk) (h:OwnI sv xs G) (h12:xs.length ≤ 12) :
  Con Tryz.prog 235 #[sv] G fun v A=>∃ ys,OwnI sv ys A ∧ ys.Perm xs ∧ ys.Pairwise (· ≤ ·):=by
 rcases h.2 with ⟨rfl,hb,rfl⟩|⟨g,c,spare,rfl,rfl,hsp,hle⟩
 ·obtain rfl:xs = []:=by simpa using hb
  refine Con.intro (vs:=[_]) Tryz.func235 rfl Tryz.ntmps235 rfl (fun B=>?_)
  refine zg3 ?_
  refine Ops.cvI rfl rfl rfl rfl ?_
  rw [u64_small (n:=((0:Nat):Int)) (by simp) (by simp)]
  refine Ops.call (blen_spec ((0:Nat):Int) (by simp) (by simp)) rfl (noPd rfl) rfl rfl rfl (fun v A' hR=>?_)
  obtain ⟨⟨k,rfl⟩,rfl⟩:=hR
  skip
  refine Ops.call (pdq_nil_spec none 0 k) rfl (noPd rfl) rfl rfl rfl (fun v A' hR=>?_)
  obtain rfl:=hR
  exact Ops.nilN (end0 (A':=[]) rfl (fun w h=>h) ⟨[],Own.none,.refl _,List.Pairwise.nil⟩)
 ·have hl:(xs.map irow).length = xs.length:=by simp
  rw [hl] at hle ⊢
  refine Con.intro (vs:=[_]) Tryz.func235 rfl Tryz.ntmps235 rfl (fun B=>?_)
  refine zg3 ?_
  refine Ops.cvI rfl rfl rfl rfl ?_
  rw [u64_small (Int.natCast_nonneg _) (by omega)]
  refine Ops.call (blen_spec _ (Int.natCast_nonneg _) (by omega)) rfl (noPd rfl) rfl rfl rfl (fun v A' hR=>?_)
  obtain ⟨⟨k,rfl⟩,rfl⟩:=hR
  skip
  refine Ops.call (pdq_spec g xs.length c xs spare k rfl hle h12) rfl (noPd rfl) rfl rfl rfl (fun v A' hR=>?_)
  obtain ⟨ys,rfl,hp,hs⟩:=hR
  have e1:ys.length = xs.length:=hp.length_eq
  refine Ops.nilN (end0 (A':=IB g ys spare) rfl (fun w h=>h.split) ⟨ys,⟨irows_ok ys,.inr ⟨g,c,spare,by rw [List.length_map,e1],rfl,?_,by rw [List.length_map,e1];exact hle⟩⟩,hp,hs⟩)
  rw [(irows_ok ys).len,List.length_map,e1,← hl,← h.1.len]
  exact hsp
@[reducible] def encI (x:Int):List Value:=[.int .i64 x]
def KeyRow (es:List ME) (pre:List Int):Prop:=pre.Nodup ∧ ∀ x ∈ pre,x ∈ es.map ME.k
def KeyAll (es:List ME) (xs:List Int):Prop:=xs.Perm (es.map ME.k)
theorem nodup_len:∀ {a b:List Int},a.Nodup → (∀ x ∈ a,x ∈ b) → a.length ≤ b.length
 | [],b,_,_=>Nat.zero_le _
 | x :: a,b,hn,hs=>by
  have hn':=List.nodup_cons.1 hn
  have hx:=hs x (List.mem_cons_self ..)
  have:=nodup_len (a:=a) (b:=b.erase x) hn'.2 fun y hy=>(List.mem_erase_of_ne (fun e=>by subst e;exact hn'.1 hy)).2 (hs y (List.mem_cons_of_mem _ hy))
  rw [List.length_erase_of_mem hx] at this
  have hp:=List.length_pos_of_mem hx
  simp only [List.length_cons]
  omega
theorem KeyRow.len {es:List ME} {pre:List Int} (h:KeyRow es pre):pre.length ≤ es.length:=by
 have:=nodup_len h.1 h.2
 simpa using this
theorem keys_spec (b:Nat):Con Tryz.prog 170 #[.map (some b)] [] fun v A=>∃ bx,v = .func (.func 236) #[] #[.pointer (some ⟨bx,0,none⟩)] ∧ A = [(bx,cl [.map (some b)] 173)]:=by
 refine Con.intro (vs:=[_]) Tryz.func170 rfl Tryz.ntmps170 rfl (fun B=>?_)
 repeat' (first|refine Ops.mkF rfl rfl rfl rfl rfl ?_|refine Cd.seq ?_|refine Cd.reg ?_|refine Ops.nil ?_|refine Ops.asg rfl rfl rfl rfl ?_|refine Ops.box rfl rfl rfl rfl (noPd rfl) (fun b=>?_))
 exact Cd.ret (ret1 rfl (Res.tmp rfl) (fun _ h=>h) ⟨_,rfl,rfl⟩)
theorem keys_iter (bx b:Nat) (es:List ME) (ck:Nat) (hok:MOk es ck) :
  IterC Tryz.prog 236 [.pointer (some ⟨bx,0,none⟩)] encI (KeyRow es) (KeyAll es) [(bx,cl [.map (some b)] 173),(b,mpo es ck)] []:=by
 intro B0 l Y Z hG hY C hC
 refine ConB.intro (vs:=[.func (.yield l) #[] #[],.pointer (some ⟨bx,0,none⟩)]) Tryz.func236 rfl Tryz.ntmps236 rfl (fun B hx=>?_)
 refine zg4 ?_
 refine Ops.rngM rfl rfl rfl rfl (noPd rfl) (fun r=>?_)
 refine zg3 ?_
 refine Cd.loopK (fun s:(List Nat × List Int) × List Blk=>Y s.1.2 s.2 ∧ KeyRow es s.1.2 ∧ (es.map ME.k).Perm (s.1.2 ++ (mleft es s.1.1).map ME.k)) (fun s=>[(0,.func (.yield l) #[] #[]),(5,.pointer (some ⟨r,0,none⟩))])
  (fun s=>(r,mit b ck s.1.1) :: (bx,cl [.map (some b)] 173) :: (b,mpo es ck) :: s.2) (fun s=>(mleft es s.1.1).length) (([],[]),C) ⟨hC,⟨List.nodup_nil,by simp⟩,by
   have:mleft es [] = es:=by unfold mleft;rw [List.filter_eq_self];simp
   rw [this];exact .refl _⟩ ⟨rfl,rfl,trivial⟩
  (fun w hw=>hw) (fun s hI=>?_)
 obtain ⟨⟨seen,pre⟩,C1⟩:=s
 obtain ⟨hYC,hkr,hperm⟩:=hI
 dsimp only at hYC hkr hperm ⊢
 clear hC hG
 refine Cd.seq ?_
 refine Cd.reg ?_
 refine Ops.nxM hok rfl rfl rfl rfl (noPd rfl) (fun hl=>?_) (fun e he=>?_)
 ·rw [hl] at hperm
  refine zg13 ?_
  exact Cd.exit (end0 (A':=[(bx,cl [.map (some b)] 173),(b,mpo es ck)] ++ C1) rfl (fun w h=>h.tail) ⟨C1,.inl ⟨pre,by simpa [KeyAll] using hperm.symm,hYC⟩,rfl⟩)
 ·have hmem:=(List.mem_filter.1 he).1
  have hnx:=mleft_next hok he
  have hperm':(es.map ME.k).Perm ((pre ++ [e.k]) ++ (mleft es (seen ++ [e.b])).map ME.k):=by
   refine hperm.trans ?_
   rw [List.append_assoc]
   exact (hnx.map ME.k).append_left pre
  have hkr':KeyRow es (pre ++ [e.k]):=by
   have hnd:=(hperm'.nodup_iff).1 hok.keys
   refine ⟨(List.nodup_append.1 hnd).1,fun x hx=>?_⟩
   exact hperm'.mem_iff.2 (List.mem_append_left _ hx)
  refine zg19 ?_
  refine Ops.enM hok hmem rfl rfl rfl rfl ?_
  refine zg5 ?_
  refine Ops.callY (hY pre e.k hkr' C1 hYC) hx rfl (noPd rfl) rfl rfl rfl rfl (fun v A' hR=>?_)
  rcases hR with ⟨rfl,hY'⟩|⟨rfl,hZ⟩
  ·refine zg6 ?_
   have hlt:(mleft es (seen ++ [e.b])).length < (mleft es seen).length:=by rw [hnx.length_eq];exact Nat.lt_succ_self _
   exact Cd.skip (inB (round_end (((seen ++ [e.b],pre ++ [e.k]),A'):(List Nat × List Int) × List Blk) ⟨hY',hkr',hperm'⟩ hlt ⟨rfl,rfl,trivial⟩
    (fun w h=>(h.split:Sat _ ((r,mit b ck (seen ++ [e.b])) :: (bx,cl [.map (some b)] 173) :: (b,mpo es ck) :: A') w))))
  ·refine zg15 ?_
   exact Cd.ret (ret0 (A':=[(bx,cl [.map (some b)] 173),(b,mpo es ck)] ++ A') rfl (fun w h=>(h.split:Sat _ ((bx,cl [.map (some b)] 173) :: (b,mpo es ck) :: A') w)) ⟨A',.inr ⟨_,hZ⟩,rfl⟩)
theorem appseq_spec (gf:FuncId) (lb:List Value) (Ok Done:List Int → Prop) (AI:List Blk) [hfn:FnOk Tryz.prog gf] (hit:IterC Tryz.prog gf lb encI Ok Done AI []) (hlen:∀ pre,Ok pre → pre.length ≤ 1000000) :
  Con Tryz.prog 260 #[.slice none 0 0,.func (.func gf) #[] lb.toArray] AI fun v A=>∃ xs G,Done xs ∧ OwnI v xs G ∧ A = AI ++ G:=by
 refine Con.intro (vs:=[_,_]) Tryz.func260 rfl Tryz.ntmps260 rfl (fun B=>?_)
 refine Cd.seq ?_
 refine Cd.reg ?_
 refine Ops.box rfl rfl rfl rfl (noPd rfl) (fun b2=>?_)
 refine zg3 ?_
 refine Cd.range (X:=Int) (C0:=[(b2,cl [.slice none 0 0] 226)]) hit rfl rfl (ps:=[7]) rfl (fun _=>rfl)
  (fun pre C=>∃ sv G,OwnI sv pre G ∧ C = (b2,cl [sv] 226) :: G)
  (fun _ _ _=>False)
  (fun pre x T C=>Ok (pre ++ [x]) ∧ ∃ sv G,OwnI sv pre G ∧ T = [(2,.pointer (some ⟨b2,0,none⟩)),(5,.int .i64 x)] ∧ C = (b2,cl [sv] 226) :: G)
  (fun w hw=>(hw.split:Sat _ (AI ++ [(b2,cl [.slice none 0 0] 226)]) w)) ⟨_,[],Own.none,rfl⟩ (fun C _=>⟨C,.refl _⟩) ?_ ?_ ?_ ?_
 ·rintro B2 pre x C hx hok ⟨sv,G,hO,rfl⟩
  refine zg0 ?_
  exact Ops.nilN (asg_end ⟨hok,sv,G,hO,rfl,rfl⟩ (fun a hF=>hF.keeps ⟨rfl,rfl,trivial⟩) (fun w h=>h))
 ·rintro lp r B2 pre x T C hro hlp hx hok ⟨hok',sv,G,hO,rfl,rfl⟩
  have hl:=hlen _ hok'
  rw [List.length_append,List.length_singleton] at hl
  obtain ⟨sa,sc,rfl⟩:=hO.form
  repeat' (first|refine Cd.reg ?_|refine Ops.mv rfl rfl rfl rfl ?_|refine Ops.ld1 rfl rfl rfl rfl rfl ?_|refine Ops.bs1 rfl rfl rfl rfl rfl rfl rfl (noPd rfl) (fun b=>?_)|refine Cd.block ?_)
  refine Ops.app1 (rows:=pre.map irow) hO (by rw [List.length_map];omega) (by rw [List.length_map];omega) rfl rfl rfl rfl (by rfl) (by rfl) rfl (noPd rfl) rfl (fun v G' hG'=>?_)
  obtain ⟨a',c',rfl⟩:=hG'.form
  refine zg15 ?_
  exact Ops.nilN (inB (rnd_next ⟨_,G',by unfold OwnI;rw [List.map_append];exact hG',rfl⟩ (fun w h=>h.split)))
 ·rintro D xs C hD hdn ⟨sv,G,hO,rfl⟩
  obtain ⟨sa,sc,rfl⟩:=hO.form
  refine Cd.next (Q':=fun _ _ _=>True) ?_
  refine zg7 ?_
  exact Cd.ret (unmark (mark1 hD) (ret1 (A':=AI ++ G) rfl (Res.tmp rfl) (fun w h=>h.split) ⟨xs,G,hdn,hO,rfl⟩))
 ·rintro D c pre C hD hZ
  exact hZ.elim
theorem collect_spec (gf:FuncId) (lb:List Value) (Ok Done:List Int → Prop) (AI:List Blk) [hfn:FnOk Tryz.prog gf] (hit:IterC Tryz.prog gf lb encI Ok Done AI []) (hlen:∀ pre,Ok pre → pre.length ≤ 1000000) :
  Con Tryz.prog 234 #[.func (.func gf) #[] lb.toArray] AI fun v A=>∃ xs G,Done xs ∧ OwnI v xs G ∧ A = AI ++ G:=by
 refine Con.intro (vs:=[_]) Tryz.func234 rfl Tryz.ntmps234 rfl (fun B=>?_)
 refine zg0 ?_
 refine Ops.call (appseq_spec gf lb Ok Done AI hit hlen) rfl (noPd rfl) rfl rfl rfl (fun v A' hR=>?_)
 obtain ⟨xs,G,hdn,hO,rfl⟩:=hR
 obtain ⟨sa,sc,rfl⟩:=hO.form
 refine zg1 ?_
 exact Cd.ret (ret1 (A':=AI ++ G) rfl (Res.tmp rfl) (fun w h=>h.split) ⟨xs,G,hdn,hO,rfl⟩)
theorem sorted_spec (gf:FuncId) (lb:List Value) (Ok Done:List Int → Prop) (AI:List Blk) [hfn:FnOk Tryz.prog gf] (hit:IterC Tryz.prog gf lb encI Ok Done AI []) (hlen:∀ pre,Ok pre → pre.length ≤ 1000000) (hdl:∀ xs,Done xs → xs.length ≤ 12) :
  Con Tryz.prog 169 #[.func (.func gf) #[] lb.toArray] AI fun v A=>∃ xs ys G,Done xs ∧ ys.Perm xs ∧ ys.Pairwise (· ≤ ·) ∧ OwnI v ys G ∧ A = AI ++ G:=by
 refine Con.intro (vs:=[_]) Tryz.func169 rfl Tryz.ntmps169 rfl (fun B=>?_)
 refine zg0 ?_
 refine Ops.call (collect_spec gf lb Ok Done AI hit hlen) rfl (noPd rfl) rfl rfl rfl (fun v A' hR=>?_)
 obtain ⟨xs,G,hdn,hO,rfl⟩:=hR
 obtain ⟨sa,sc,rfl⟩:=hO.form
 refine zg0 ?_
 refine Ops.call (sort_spec _ xs G hO (hdl xs hdn)) rfl (noPd rfl) rfl rfl rfl (fun v A' hR=>?_)
 obtain ⟨ys,hO',hp,hs⟩:=hR
 refine zg5 ?_
 exact Cd.ret (ret1 (A':=AI ++ A') rfl (Res.tmp rfl) (fun w h=>h.split) ⟨xs,ys,A',hdn,hp,hs,hO',rfl⟩)
theorem mclone_spec (b:Nat) (es:List ME) (ck:Nat):Con Tryz.prog 94 #[.map (some b)] [(b,mpo es ck)] fun v A=>∃ b',v = .map (some b') ∧ A = [(b,mpo es ck),(b',mpo es ck)]:=by
 refine Con.intro (vs:=[_]) Tryz.func94 rfl Tryz.ntmps94 rfl (fun B=>?_)
 refine zg13 ?_
 refine Ops.cloneM rfl rfl rfl rfl (noPd rfl) (fun b'=>?_)
 refine zg7 ?_
 exact Cd.ret (ret1 rfl (Res.tmp rfl) (fun w h=>h.split) ⟨b',rfl,rfl⟩)
end Go.Proofs.YtaecdnfkcebbeaaGreat.Ls
namespace Go.Proofs.YtaecdnfkcebbeaaGreat.Ls
open Go Go.Sep Go.Proofs
structure LE where
 job:Int
 badge:Int
 node:Int
 life:Int
 left:Int
@[reducible] def LE.row (x:LE):List Value:=[.int .i64 x.job,.int .i64 x.badge,.int .i64 x.node,.int .i64 x.life,.int .i64 x.left]
@[reducible] def LE.val (x:LE):Value:=.agg x.row.toArray
def Asc (l:List LE):Prop:=l.Pairwise fun a b=>a.badge < b.badge
def lfind (l:List LE) (i:Int):Option LE:=l.find? fun x=>decide (x.badge = i)
theorem lfind_mem {l:List LE} {i:Int} {x:LE} (h:lfind l i = some x):x ∈ l ∧ x.badge = i:=⟨List.mem_of_find?_eq_some h,by have:=List.find?_some h;simpa using this⟩
theorem lfind_none {l:List LE} {i:Int}:lfind l i = none ↔ ∀ x ∈ l,x.badge ≠ i:=by
 unfold lfind
 rw [List.find?_eq_none]
 simp
theorem Asc.eq {l:List LE} (h:Asc l) {x y:LE} (hx:x ∈ l) (hy:y ∈ l) (e:x.badge = y.badge):x = y:=by
 induction l with
 | nil=>cases hx
 | cons z l ih =>
  obtain ⟨h1,h2⟩:=List.pairwise_cons.1 h
  rcases List.mem_cons.1 hx with e1|hx'
  ·rcases List.mem_cons.1 hy with e2|hy'
   ·rw [e1,e2]
   ·have:=h1 _ hy';rw [← e1] at this;omega
  ·rcases List.mem_cons.1 hy with e2|hy'
   ·have:=h1 _ hx';rw [← e2] at this;omega
   ·exact ih h2 hx' hy'
theorem lfind_of {l:List LE} (h:Asc l) {x:LE} (hx:x ∈ l):lfind l x.badge = some x:=by
 cases hf:lfind l x.badge with
 | none=>exact absurd rfl (lfind_none.1 hf x hx)
 | some y =>
  obtain ⟨hy,e⟩:=lfind_mem hf
  rw [h.eq hy hx e]
theorem lfind_iff {l:List LE} (h:Asc l) {i:Int} {x:LE}:lfind l i = some x ↔ x ∈ l ∧ x.badge = i :=
 ⟨lfind_mem,fun ⟨hx,e⟩=>by subst e;exact lfind_of h hx⟩
def lins (x:LE):List LE → List LE
 | []=>[x]
 | y :: l=>if y.badge < x.badge then y :: lins x l else x :: y :: l
theorem lins_perm (x:LE):∀ l,(lins x l).Perm (x :: l)
 | []=>.refl _
 | y :: l=>by
  unfold lins
  split
  ·exact ((lins_perm x l).cons y).trans (.swap ..)
  ·exact .refl _
theorem lins_mem {x y:LE} {l:List LE}:y ∈ lins x l ↔ y = x ∨ y ∈ l:=by rw [(lins_perm x l).mem_iff,List.mem_cons]
theorem lins_asc {x:LE}:∀ {l:List LE},Asc l → (∀ y ∈ l,y.badge ≠ x.badge) → Asc (lins x l)
 | [],_,_=>List.pairwise_singleton _ _
 | y :: l,h,hn=>by
  obtain ⟨h1,h2⟩:=List.pairwise_cons.1 h
  unfold lins
  split
  ·rename_i hlt
   refine List.pairwise_cons.2 ⟨fun z hz=>?_,lins_asc h2 fun z hz=>hn z (List.mem_cons_of_mem _ hz)⟩
   rcases lins_mem.1 hz with rfl|hz
   ·exact hlt
   ·exact h1 z hz
  ·rename_i hge
   have:=hn y (List.mem_cons_self ..)
   refine List.pairwise_cons.2 ⟨fun z hz=>?_,h⟩
   rcases List.mem_cons.1 hz with rfl|hz
   ·omega
   ·have:=h1 z hz;omega
structure LOk (ticks:Int) (l:List LE):Prop where
 asc:Asc l
 jobs:(l.map LE.job).Nodup
 job0:∀ x ∈ l,1 ≤ x.job ∧ x.job ≤ 8
 badge0:∀ x ∈ l,1 ≤ x.badge ∧ x.badge ≤ 1099511627776
 left0:∀ x ∈ l,1 ≤ x.left ∧ x.left ≤ ticks
 t0:1 ≤ ticks
 t1:ticks ≤ 256
theorem nodup_len':∀ {a b:List Int},a.Nodup → (∀ x ∈ a,x ∈ b) → a.length ≤ b.length
 | [],b,_,_=>Nat.zero_le _
 | x :: a,b,hn,hs=>by
  have hn':=List.nodup_cons.1 hn
  have hx:=hs x (List.mem_cons_self ..)
  have:=nodup_len' (a:=a) (b:=b.erase x) hn'.2 fun y hy=>(List.mem_erase_of_ne (fun e=>by subst e;exact hn'.1 hy)).2 (hs y (List.mem_cons_of_mem _ hy))
  rw [List.length_erase_of_mem hx] at this
  have hp:=List.length_pos_of_mem hx
  simp only [List.length_cons]
  omega
theorem LOk.few {ticks:Int} {l:List LE} (h:LOk ticks l):l.length ≤ 8:=by
 have:=nodup_len' (b:=[1,2,3,4,5,6,7,8]) h.jobs fun x hx=>by
  obtain ⟨y,hy,rfl⟩:=List.mem_map.1 hx
  have:=h.job0 y hy
  simp
  omega
 simpa using this
theorem LOk.room {ticks:Int} {l:List LE} (h:LOk ticks l) {j:Int} (h1:1 ≤ j) (h8:j ≤ 8) (hn:∀ x ∈ l,x.job ≠ j):l.length < 8:=by
 have:=nodup_len' (a:=j :: l.map LE.job) (b:=[1,2,3,4,5,6,7,8]) (List.nodup_cons.2 ⟨fun hm=>by
  obtain ⟨y,hy,e⟩:=List.mem_map.1 hm
  exact hn y hy e,h.jobs⟩) fun x hx=>by
  rcases List.mem_cons.1 hx with rfl|hx
  ·simp;omega
  ·obtain ⟨y,hy,rfl⟩:=List.mem_map.1 hx
   have:=h.job0 y hy
   simp
   omega
 simp at this
 omega
def grantF (ticks:Int) (l:List LE) (job badge node life:Int):Int × List LE :=
 if job < 1 ∨ 8 < job ∨ badge < 1 ∨ 1099511627776 < badge then (1,l) else if ∃ x ∈ l,x.job = job ∨ x.badge = badge then (121,l) else (0,lins ⟨job,badge,node,life,ticks⟩ l)
def renewF (ticks:Int) (l:List LE) (badge:Int):Int × List LE :=
 if lfind l badge = none then (122,l) else (0,l.map fun x=>if x.badge = badge then { x with left:=ticks } else x)
def dropF (l:List LE) (badge:Int):Int × List LE :=
 if lfind l badge = none then (122,l) else (0,l.filter fun x=>!decide (x.badge = badge))
@[reducible] def dec (x:LE):LE:={ x with left:=x.left - 1 }
def overF (l:List LE):List LE:=(l.map dec).filter fun x=>decide (x.left = 0)
def restF (l:List LE):List LE:=(l.map dec).filter fun x=>!decide (x.left = 0)
theorem asc_map {l:List LE} {f:LE → LE} (h:Asc l) (hf:∀ x,(f x).badge = x.badge):Asc (l.map f):=by
 unfold Asc
 rw [List.pairwise_map]
 exact h.imp fun {a b} hab=>by rw [hf,hf];exact hab
theorem jobs_map {l:List LE} {f:LE → LE} (hf:∀ x,(f x).job = x.job):(l.map f).map LE.job = l.map LE.job:=by
 rw [List.map_map]
 exact List.map_congr_left fun x _=>hf x
theorem grantF_ok {ticks:Int} {l:List LE} (h:LOk ticks l) (job badge node life:Int):LOk ticks (grantF ticks l job badge node life).2:=by
 unfold grantF
 split
 ·exact h
 ·split
  ·exact h
  ·rename_i h1 h2
   have hn:∀ x ∈ l,x.job ≠ job ∧ x.badge ≠ badge:=fun x hx=>⟨fun e=>h2 ⟨x,hx,.inl e⟩,fun e=>h2 ⟨x,hx,.inr e⟩⟩
   have t0:=h.t0
   refine ⟨lins_asc h.asc fun y hy=>(hn y hy).2,?_,fun x hx=>?_,fun x hx=>?_,fun x hx=>?_,h.t0,h.t1⟩
   ·refine (((lins_perm _ l).map LE.job).nodup_iff).2 (List.nodup_cons.2 ⟨fun hm=>?_,h.jobs⟩)
    obtain ⟨y,hy,e⟩:=List.mem_map.1 hm
    exact (hn y hy).1 e
   ·rcases lins_mem.1 hx with rfl|hx
    ·exact ⟨by show 1 ≤ job;omega,by show job ≤ 8;omega⟩
    ·exact h.job0 x hx
   ·rcases lins_mem.1 hx with rfl|hx
    ·exact ⟨by show 1 ≤ badge;omega,by show badge ≤ 1099511627776;omega⟩
    ·exact h.badge0 x hx
   ·rcases lins_mem.1 hx with rfl|hx
    ·exact ⟨t0,Int.le_refl _⟩
    ·exact h.left0 x hx
theorem renewF_ok {ticks:Int} {l:List LE} (h:LOk ticks l) (badge:Int):LOk ticks (renewF ticks l badge).2:=by
 unfold renewF
 split
 ·exact h
 ·have t0:=h.t0
  have hb:∀ x:LE,(if x.badge = badge then { x with left:=ticks } else x).badge = x.badge:=fun x=>by split <;> rfl
  have hj:∀ x:LE,(if x.badge = badge then { x with left:=ticks } else x).job = x.job:=fun x=>by split <;> rfl
  refine ⟨asc_map h.asc hb,by show List.Nodup (List.map LE.job (List.map _ l));rw [jobs_map hj];exact h.jobs,fun x hx=>?_,fun x hx=>?_,fun x hx=>?_,h.t0,h.t1⟩
  ·obtain ⟨y,hy,rfl⟩:=List.mem_map.1 hx
   rw [hj];exact h.job0 y hy
  ·obtain ⟨y,hy,rfl⟩:=List.mem_map.1 hx
   rw [hb];exact h.badge0 y hy
  ·obtain ⟨y,hy,rfl⟩:=List.mem_map.1 hx
   split
   ·exact ⟨t0,Int.le_refl _⟩
   ·exact h.left0 y hy
theorem LOk.filter {ticks:Int} {l:List LE} (h:LOk ticks l) (p:LE → Bool):LOk ticks (l.filter p) :=
 ⟨h.asc.sublist List.filter_sublist,h.jobs.sublist (List.filter_sublist.map _),fun x hx=>h.job0 x (List.mem_filter.1 hx).1,fun x hx=>h.badge0 x (List.mem_filter.1 hx).1,fun x hx=>h.left0 x (List.mem_filter.1 hx).1,h.t0,h.t1⟩
theorem dropF_ok {ticks:Int} {l:List LE} (h:LOk ticks l) (badge:Int):LOk ticks (dropF l badge).2:=by
 unfold dropF
 split
 ·exact h
 ·exact h.filter _
theorem restF_ok {ticks:Int} {l:List LE} (h:LOk ticks l):LOk ticks (restF l):=by
 unfold restF
 refine ⟨(asc_map (f:=dec) h.asc fun _=>rfl).sublist List.filter_sublist,(by rw [jobs_map (f:=dec) fun _=>rfl];exact h.jobs:(List.map LE.job (List.map dec l)).Nodup).sublist (List.filter_sublist.map _),fun x hx=>?_,fun x hx=>?_,fun x hx=>?_,h.t0,h.t1⟩
 ·obtain ⟨y,hy,rfl⟩:=List.mem_map.1 (List.mem_filter.1 hx).1
  exact h.job0 y hy
 ·obtain ⟨y,hy,rfl⟩:=List.mem_map.1 (List.mem_filter.1 hx).1
  exact h.badge0 y hy
 ·obtain ⟨y,hy,rfl⟩:=List.mem_map.1 (List.mem_filter.1 hx).1
  have h0:=h.left0 y hy
  have hp:=(List.mem_filter.1 hx).2
  simp only [Bool.not_eq_true',decide_eq_false_iff_not] at hp
  exact ⟨by show 1 ≤ y.left - 1;have:¬ (y.left - 1 = 0):=hp;omega,by show y.left - 1 ≤ ticks;omega⟩
def LsIs (es:List ME) (l:List LE):Prop:=∀ i,mget es i = (lfind l i).map LE.val
theorem lfind_lins {l:List LE} {x:LE} (h:Asc l) (hn:∀ y ∈ l,y.badge ≠ x.badge) (i:Int):lfind (lins x l) i = if i = x.badge then some x else lfind l i:=by
 have hasc:=lins_asc h hn
 split
 ·rename_i e
  subst e
  exact lfind_of hasc (lins_mem.2 (.inl rfl))
 ·rename_i e
  cases hf:lfind l i with
  | none =>
   rw [lfind_none] at hf ⊢
   intro y hy
   rcases lins_mem.1 hy with rfl|hy
   ·exact fun e'=>e e'.symm
   ·exact hf y hy
  | some y =>
   obtain ⟨hy,e⟩:=lfind_mem hf
   exact (lfind_iff hasc).2 ⟨lins_mem.2 (.inr hy),e⟩
theorem LsIs.ins {es:List ME} {ck:Nat} {l:List LE} {x:LE} (h:LsIs es l) (hok:MOk es ck) (ha:Asc l) (hn:∀ y ∈ l,y.badge ≠ x.badge):LsIs (mput es ck x.badge x.val) (lins x l):=fun i=>by
 rw [mget_put hok,lfind_lins ha hn,h i]
 split <;> rfl
theorem lfind_map {l:List LE} {f:LE → LE} (hf:∀ x,(f x).badge = x.badge) (i:Int):lfind (l.map f) i = (lfind l i).map f:=by
 unfold lfind
 rw [List.find?_map]
 congr 2
 funext x
 simp [hf]
theorem LsIs.set {es:List ME} {ck:Nat} {l:List LE} {x y:LE} (h:LsIs es l) (hok:MOk es ck) (hx:lfind l x.badge = some x) (e:y.badge = x.badge):LsIs (mput es ck x.badge y.val) (l.map fun z=>if z.badge = x.badge then y else z):=fun i=>by
 have hb:∀ z:LE,(if z.badge = x.badge then y else z).badge = z.badge:=fun z=>by
  split
  ·rename_i h1;rw [e,h1]
  ·rfl
 rw [mget_put hok,lfind_map hb,h i]
 split
 ·rename_i e'
  subst e'
  rw [hx]
  simp
 ·rename_i e'
  cases hf:lfind l i with
  | none=>rfl
  | some z =>
   obtain ⟨_,e2⟩:=lfind_mem hf
   have:¬ z.badge = x.badge:=fun e3=>e' (e2.symm.trans e3)
   simp [this]
theorem LsIs.del {es:List ME} {ck:Nat} {l:List LE} {b:Int} (h:LsIs es l) (hok:MOk es ck):LsIs (mdel es b) (l.filter fun z=>!decide (z.badge = b)):=fun i=>by
 rw [mget_del hok,h i]
 have:lfind (l.filter fun z=>!decide (z.badge = b)) i = if i = b then none else lfind l i:=by
  unfold lfind
  rw [List.find?_filter]
  split
  ·rename_i e
   subst e
   rw [List.find?_eq_none]
   intro x _
   simp
  ·rename_i e
   congr 1
   funext x
   by_cases h1:x.badge = i
   ·subst h1;simp [e]
   ·simp [h1]
 rw [this]
 split <;> rfl
theorem keys_perm {es:List ME} {ck:Nat} {l:List LE} (h:LsIs es l) (hok:MOk es ck) (ha:Asc l):(es.map ME.k).Perm (l.map LE.badge):=by
 refine (List.perm_ext_iff_of_nodup hok.keys ?_).2 fun i=>?_
 ·rw [List.Nodup,List.pairwise_map]
  exact ha.imp fun {a b} hab=>Int.ne_of_lt hab
 ·rw [← mget_isSome,h i]
  constructor
  ·intro hs
   cases hf:lfind l i with
   | none=>rw [hf] at hs;cases hs
   | some x =>
    obtain ⟨hx,e⟩:=lfind_mem hf
    exact List.mem_map.2 ⟨x,hx,e⟩
  ·intro hm
   obtain ⟨x,hx,e⟩:=List.mem_map.1 hm
   subst e
   rw [lfind_of ha hx]
   rfl
theorem badges_le {l:List LE} (ha:Asc l):(l.map LE.badge).Pairwise (· ≤ ·):=by
 rw [List.pairwise_map]
 exact ha.imp fun {a b} hab=>Int.le_of_lt hab
theorem keys_sorted {es:List ME} {ck:Nat} {l:List LE} {xs ys:List Int} (h:LsIs es l) (hok:MOk es ck) (ha:Asc l) (h1:xs.Perm (es.map ME.k)) (h2:ys.Perm xs) (h3:ys.Pairwise (· ≤ ·)):ys = l.map LE.badge :=
 List.Perm.eq_of_pairwise (le:=(· ≤ ·)) (fun a b _ _ h1 h2=>Int.le_antisymm h1 h2) h3 (badges_le ha) (h2.trans (h1.trans (keys_perm h hok ha)))
theorem LsIs.len {es:List ME} {ck:Nat} {l:List LE} (h:LsIs es l) (hok:MOk es ck) (ha:Asc l):es.length = l.length:=by
 have:=(keys_perm h hok ha).length_eq
 simpa using this
theorem restF_app (a b:List LE):restF (a ++ b) = restF a ++ restF b:=by unfold restF;rw [List.map_append,List.filter_append]
theorem overF_app (a b:List LE):overF (a ++ b) = overF a ++ overF b:=by unfold overF;rw [List.map_append,List.filter_append]
theorem restF_one0 {x:LE} (h:x.left - 1 = 0):restF [x] = []:=by simp [restF,h]
theorem restF_one1 {x:LE} (h:x.left - 1 ≠ 0):restF [x] = [dec x]:=by simp [restF,h]
theorem overF_one0 {x:LE} (h:x.left - 1 = 0):overF [x] = [dec x]:=by simp [overF,h]
theorem overF_one1 {x:LE} (h:x.left - 1 ≠ 0):overF [x] = []:=by simp [overF,h]
theorem restF_badge {l:List LE} {y:LE} (h:y ∈ restF l):∃ x ∈ l,x.badge = y.badge:=by
 obtain ⟨x,hx,rfl⟩:=List.mem_map.1 (List.mem_filter.1 h).1
 exact ⟨x,hx,rfl⟩
theorem asc_apart {a b:List LE} {x:LE} (h:Asc (a ++ x :: b)):(∀ y ∈ a,y.badge < x.badge) ∧ ∀ y ∈ b,x.badge < y.badge:=by
 obtain ⟨h1,h2,h3⟩:=List.pairwise_append.1 h
 exact ⟨fun y hy=>h3 y hy x (List.mem_cons_self ..),(List.pairwise_cons.1 h2).1⟩
theorem asc_tick {a b:List LE} (h:Asc (a ++ b)):Asc (restF a ++ b):=by
 obtain ⟨h1,h2,h3⟩:=List.pairwise_append.1 h
 refine List.pairwise_append.2 ⟨(asc_map (f:=dec) h1 fun _=>rfl).sublist List.filter_sublist,h2,fun x hx y hy=>?_⟩
 obtain ⟨z,hz,e⟩:=restF_badge hx
 rw [← e]
 exact h3 z hz y hy
theorem map_only {a b:List LE} {x y:LE} (ha:∀ z ∈ a,z.badge ≠ x.badge) (hb:∀ z ∈ b,z.badge ≠ x.badge):(a ++ x :: b).map (fun z=>if z.badge = x.badge then y else z) = a ++ y :: b:=by
 rw [List.map_append,List.map_cons,if_pos rfl]
 congr 1
 ·exact (List.map_congr_left fun z hz=>if_neg (ha z hz)).trans (List.map_id _)
 ·congr 1
  exact (List.map_congr_left fun z hz=>if_neg (hb z hz)).trans (List.map_id _)
theorem filter_only {a b:List LE} {y:LE} (ha:∀ z ∈ a,z.badge ≠ y.badge) (hb:∀ z ∈ b,z.badge ≠ y.badge):(a ++ y :: b).filter (fun z=>!decide (z.badge = y.badge)) = a ++ b:=by
 rw [List.filter_append,List.filter_cons_of_neg (by simp)]
 congr 1
 ·exact List.filter_eq_self.2 fun z hz=>by simp [ha z hz]
 ·exact List.filter_eq_self.2 fun z hz=>by simp [hb z hz]
theorem tick_set {es:List ME} {ck:Nat} {a b:List LE} {x:LE} (ha:Asc (a ++ x :: b)) (hok:MOk es ck) (h:LsIs es (restF a ++ x :: b)):LsIs (mput es ck x.badge (dec x).val) (restF a ++ dec x :: b):=by
 have hasc:=asc_tick ha
 obtain ⟨h1,h2⟩:=asc_apart hasc
 have:=h.set (y:=dec x) hok (lfind_of hasc (List.mem_append_right _ (List.mem_cons_self ..))) rfl
 rwa [map_only (fun z hz=>Int.ne_of_lt (h1 z hz)) (fun z hz=>(Int.ne_of_lt (h2 z hz)).symm)] at this
theorem tick_del {es:List ME} {ck:Nat} {a b:List LE} {x:LE} (ha:Asc (a ++ x :: b)) (hok:MOk es ck) (h:LsIs es (restF a ++ dec x :: b)):LsIs (mdel es x.badge) (restF a ++ b):=by
 have hasc:=asc_tick ha
 obtain ⟨h1,h2⟩:=asc_apart hasc
 have:=h.del (b:=x.badge) hok
 rwa [filter_only (y:=dec x) (fun z hz=>Int.ne_of_lt (h1 z hz)) (fun z hz=>(Int.ne_of_lt (h2 z hz)).symm)] at this
theorem overF_len (l:List LE):(overF l).length + (restF l).length = l.length:=by
 induction l with
 | nil=>rfl
 | cons x l ih =>
  rw [show x :: l = [x] ++ l from rfl,overF_app,restF_app]
  by_cases h:x.left - 1 = 0
  ·rw [overF_one0 h,restF_one0 h];simp;omega
  ·rw [overF_one1 h,restF_one1 h];simp;omega
theorem LsIs.nil:LsIs [] []:=fun i=>rfl
end Go.Proofs.YtaecdnfkcebbeaaGreat.Ls
