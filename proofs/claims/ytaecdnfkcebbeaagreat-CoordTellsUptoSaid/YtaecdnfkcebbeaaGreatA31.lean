import Derived.Test.YtaecdnfkcebbeaaGreatA01
import Derived.Test.YtaecdnfkcebbeaaGreatA30
import Derived.Test.YtaecdnfkcebbeaaGreatA11
import Derived.Test.YtaecdnfkcebbeaaGreatA21
import Derived.Test.YtaecdnfkcebbeaaGreatA13
set_option linter.unusedVariables false
set_option linter.unusedSimpArgs false
namespace Go.Proofs.YtaecdnfkcebbeaaGreat.Ls
open Go Go.Sep Go.Proofs
set_option maxRecDepth 10000
set_option maxHeartbeats 2000000
set_option synthInstance.maxSize 2000
@[reducible] def ptr (n:Nat):Value:=.pointer (some ⟨n,0,none⟩)
@[reducible] def TB (n m:Nat) (ticks:Int) (es:List ME) (ck:Nat):List Blk:=[(n,cl [.int .i64 ticks,.map (some m)] 175),(m,mpo es ck)]
@[reducible] def LE.zero:LE:=⟨0,0,0,0,0⟩
structure TOk (ticks:Int) (l:List LE) (es:List ME) (ck:Nat):Prop where
 lok:LOk ticks l
 m:MOk es ck
 is_:LsIs es l
theorem TOk.new {ticks:Int} (h1:1 ≤ ticks) (h2:ticks ≤ 256):TOk ticks [] [] 0 :=
 ⟨⟨List.Pairwise.nil,List.nodup_nil,(fun x h=>by cases h),(fun x h=>by cases h),(fun x h=>by cases h),h1,h2⟩,⟨List.nodup_nil,List.nodup_nil,(fun x h=>by cases h)⟩,LsIs.nil⟩
theorem LsIs.renew {es:List ME} {ck:Nat} {l:List LE} {b t:Int} {x:LE} (h:LsIs es l) (hok:MOk es ck) (ha:Asc l) (hx:lfind l b = some x) :
  LsIs (mput es ck b ({ x with left:=t }:LE).val) (l.map fun z=>if z.badge = b then { z with left:=t } else z):=by
 obtain ⟨hm,e⟩:=lfind_mem hx
 subst e
 have:=h.set (y:={ x with left:=t }) hok hx rfl
 have e2:(l.map fun z=>if z.badge = x.badge then ({ x with left:=t }:LE) else z) = l.map fun z=>if z.badge = x.badge then { z with left:=t } else z:=by
  refine List.map_congr_left fun z hz=>?_
  split
  ·rename_i e;rw [ha.eq hz hm e]
  ·rfl
 rwa [e2] at this
theorem new_yes (a:Int) (h1:1 ≤ a) (h2:a ≤ 256):Con Tryz.prog 131 #[.int .i64 a] [] fun v A=>∃ n m,v = .tuple #[ptr n,.int .i64 0] ∧ A = TB n m a [] 0:=by
 refine Con.intro (vs:=[_]) Tryz.func131 rfl Tryz.ntmps131 rfl (fun B=>?_)
 repeat' (first|refine Ops.mkM rfl rfl rfl (noPd rfl) (fun b=>?_)|refine Cd.seq ?_|refine Cd.reg ?_|refine Ops.nil ?_|refine Ops.mv rfl rfl rfl rfl ?_|refine Ops.asg rfl rfl rfl rfl ?_|refine Ops.bin rfl rfl rfl rfl rfl ?_|refine Ops.pickF rfl rfl rfl rfl rfl ?_|refine Ops.bld rfl rfl rfl rfl ?_|refine Ops.box rfl rfl rfl rfl (noPd rfl) (fun b=>?_)|refine Cd.skip (Cd.next ?_)|refine Cd.condF rfl zp0 ?_|((fail_if_success refine Ops.probe rfl ?_);refine Ops.gF rfl rfl zp0 ?_))
 exact ze68
theorem renew_spec (n m:Nat) (ticks:Int) (l:List LE) (es:List ME) (ck:Nat) (bd:Int) (h:TOk ticks l es ck):Con Tryz.prog 162 #[ptr n,.int .i64 bd] (TB n m ticks es ck) fun v A=>v = .int .i64 (renewF ticks l bd).1 ∧ ∃ es' ck',A = TB n m ticks es' ck' ∧ TOk ticks (renewF ticks l bd).2 es' ck':=by
 refine Con.intro (vs:=[_,_]) Tryz.func162 rfl Tryz.ntmps162 rfl (fun B=>?_)
 have hg:=h.is_ bd
 have hok:=renewF_ok h.lok bd
 unfold renewF at hok ⊢
 cases hf:lfind l bd with
 | none =>
  rw [hf] at hg
  have hg:mget es bd = none:=hg
  rw [if_pos rfl]
  repeat' (first|refine Ops.lkI rfl rfl rfl rfl rfl ?_|refine Cd.seq ?_|refine Cd.reg ?_|refine Ops.mv rfl rfl rfl rfl ?_|refine Ops.asg rfl rfl rfl rfl ?_|refine Ops.nilP rfl rfl rfl rfl ?_|refine Ops.fa0 rfl rfl rfl rfl ?_|refine Ops.ld1 rfl rfl rfl rfl rfl ?_|refine Ops.ext rfl rfl rfl rfl rfl ?_|refine Ops.alloc rfl rfl rfl (noPd rfl) (fun b=>?_))
  simp only [hg,Option.getD_none,Option.isSome_none]
  refine zg20 ?_
  exact ze69
 | some x =>
  rw [hf] at hg
  have hg:mget es bd = some x.val:=hg
  rw [if_neg (by simp)]
  rw [hf,if_neg (by simp)] at hok
  repeat' (first|refine Ops.lkI rfl rfl rfl rfl rfl ?_|refine Cd.seq ?_|refine Cd.reg ?_|refine Ops.mv rfl rfl rfl rfl ?_|refine Ops.asg rfl rfl rfl rfl ?_|refine Ops.nilP rfl rfl rfl rfl ?_|refine Ops.fa0 rfl rfl rfl rfl ?_|refine Ops.ld1 rfl rfl rfl rfl rfl ?_|refine Ops.ext rfl rfl rfl rfl rfl ?_|refine Ops.alloc rfl rfl rfl (noPd rfl) (fun b=>?_))
  simp only [hg,Option.getD_some,Option.isSome_some]
  refine zg32 ?_
  refine Cd.draw [(0,0,[]),(1,0,[]),(2,0,[]),(3,1,[]),(4,0,[]),(5,1,[]),(6,2,[])] (by kernel_rfl) (by kernel_rfl) (by simp only [picked,nth];exact rfl) ?_
  refine zg26 ?_
  exact Cd.ret (ret1 (A':=TB n m ticks (mput es ck bd ({ x with left:=ticks }:LE).val) (mck es ck bd)) rfl (Res.tmp rfl) (fun _ h=>h.split) ⟨rfl,_,_,rfl,hok,h.m.put _ _,h.is_.renew h.m h.lok.asc hf⟩)
theorem drop_spec (n m:Nat) (ticks:Int) (l:List LE) (es:List ME) (ck:Nat) (bd:Int) (h:TOk ticks l es ck):Con Tryz.prog 259 #[ptr n,.int .i64 bd] (TB n m ticks es ck) fun v A=>v = .int .i64 (dropF l bd).1 ∧ ∃ es' ck',A = TB n m ticks es' ck' ∧ TOk ticks (dropF l bd).2 es' ck':=by
 refine Con.intro (vs:=[_,_]) Tryz.func259 rfl Tryz.ntmps259 rfl (fun B=>?_)
 have hg:=h.is_ bd
 have hok:=dropF_ok h.lok bd
 unfold dropF at hok ⊢
 cases hf:lfind l bd with
 | none =>
  rw [hf] at hg
  have hg:mget es bd = none:=hg
  rw [if_pos rfl]
  repeat' (first|refine Ops.lkI rfl rfl rfl rfl rfl ?_|refine Cd.seq ?_|refine Cd.reg ?_|refine Ops.mv rfl rfl rfl rfl ?_|refine Ops.asg rfl rfl rfl rfl ?_|refine Ops.nilP rfl rfl rfl rfl ?_|refine Ops.fa0 rfl rfl rfl rfl ?_|refine Ops.ld1 rfl rfl rfl rfl rfl ?_|refine Ops.ext rfl rfl rfl rfl rfl ?_|refine Ops.alloc rfl rfl rfl (noPd rfl) (fun b=>?_))
  simp only [hg,Option.getD_none,Option.isSome_none]
  refine zg20 ?_
  exact ze69
 | some x =>
  rw [hf] at hg
  have hg:mget es bd = some x.val:=hg
  rw [if_neg (by simp)]
  rw [hf,if_neg (by simp)] at hok
  repeat' (first|refine Ops.lkI rfl rfl rfl rfl rfl ?_|refine Cd.seq ?_|refine Cd.reg ?_|refine Ops.mv rfl rfl rfl rfl ?_|refine Ops.asg rfl rfl rfl rfl ?_|refine Ops.nilP rfl rfl rfl rfl ?_|refine Ops.fa0 rfl rfl rfl rfl ?_|refine Ops.ld1 rfl rfl rfl rfl rfl ?_|refine Ops.ext rfl rfl rfl rfl rfl ?_|refine Ops.alloc rfl rfl rfl (noPd rfl) (fun b=>?_))
  simp only [hg,Option.getD_some,Option.isSome_some]
  refine zg32 ?_
  exact Cd.ret (ret1 (A':=TB n m ticks (mdel es bd) ck) rfl (Res.tmp rfl) (fun _ h=>h.split) ⟨rfl,_,_,rfl,hok,h.m.del _,h.is_.del h.m⟩)
theorem clone_spec (n mb:Nat) (ticks:Int) (es:List ME) (ck:Nat):Con Tryz.prog 43 #[ptr n] (TB n mb ticks es ck) fun v A=>∃ n' b',v = ptr n' ∧ A = TB n mb ticks es ck ++ TB n' b' ticks es ck:=by
 refine Con.intro (vs:=[_]) Tryz.func43 rfl Tryz.ntmps43 rfl (fun B=>?_)
 refine zg0 ?_
 refine Cd.draw [(0,0,[]),(1,0,[]),(2,0,[]),(3,1,[]),(4,0,[]),(5,0,[]),(6,0,[]),(7,1,[]),(8,2,[3]),(9,0,[]),(10,2,[]),(11,0,[])] (by kernel_rfl) (by kernel_rfl) (by simp only [picked,nth];exact rfl) ?_
 refine zg2 ?_
 refine Ops.call (mclone_spec mb es ck) rfl zp1 rfl rfl rfl (fun v A' hR=>?_)
 obtain ⟨b',rfl,rfl⟩:=hR
 repeat' (first|refine Ops.nil ?_|refine Ops.asg rfl rfl rfl rfl ?_|refine Ops.bld rfl rfl rfl rfl ?_|refine Ops.box rfl rfl rfl rfl (noPd rfl) (fun b=>?_))
 rename Nat=>nb
 exact Cd.ret (ret1 rfl (Res.tmp rfl) (fun _ h=>(h.split:Sat _ ((n,cl [.int .i64 ticks,.map (some mb)] 175) :: (mb,mpo es ck) :: (nb,cl [.int .i64 ticks,.map (some b')] 175) :: [(b',mpo es ck)]) _)) ⟨nb,b',rfl,rfl⟩)
theorem all_spec (n:Nat):Con Tryz.prog 95 #[ptr n] [] fun v A=>∃ b,v = .func (.func 168) #[] #[ptr b] ∧ A = [(b,cl [ptr n] 86)]:=by
 refine Con.intro (vs:=[_]) Tryz.func95 rfl Tryz.ntmps95 rfl (fun B=>?_)
 repeat' (first|refine Ops.mkF rfl rfl rfl rfl rfl ?_|refine Cd.seq ?_|refine Cd.reg ?_|refine Ops.nil ?_|refine Ops.asg rfl rfl rfl rfl ?_|refine Ops.box rfl rfl rfl rfl (noPd rfl) (fun b=>?_))
 exact Cd.ret (ret1 rfl (Res.tmp rfl) (fun _ h=>h) ⟨_,rfl,rfl⟩)
@[reducible] def encL (x:LE):List Value:=[x.val]
theorem take_next {α:Type} {l:List α} {i:Nat} {x:α} (h:l[i]? = some x):l.take i ++ [x] = l.take (i + 1):=by
 rw [List.take_add_one,h];rfl
def Told (l pre:List LE):Prop:=∃ i,i < l.length ∧ pre = l.take (i + 1)
theorem all_iter (n bx m:Nat) (ticks:Int) (l:List LE) (es:List ME) (ck:Nat) (h:TOk ticks l es ck) :
  IterC Tryz.prog 168 [ptr bx] encL (Told l) (fun xs=>xs = l) [(bx,cl [ptr n] 86)] (TB n m ticks es ck):=by
 intro B0 lp Y Z hG hY C hC
 obtain ⟨F,hp⟩:=hG C hC
 have hfew:=h.lok.few
 have hel:=h.is_.len h.m h.lok.asc
 refine ConB.intro (vs:=[.func (.yield lp) #[] #[],ptr bx]) Tryz.func168 rfl Tryz.ntmps168 rfl (fun B hx=>?_)
 refine Cd.blk (A':=(bx,cl [ptr n] 86) :: (TB n m ticks es ck ++ F)) ?_ (fun w hw=>hw.perm (hp.cons _))
 refine zg4 ?_
 refine Ops.call (mclone_spec m es ck) rfl (noPd rfl) rfl rfl rfl (fun v A' hR=>?_)
 obtain ⟨b',rfl,rfl⟩:=hR
 refine zg0 ?_
 refine Ops.call (keys_spec b') rfl (noPd rfl) rfl rfl rfl (fun v A' hR=>?_)
 obtain ⟨kx,rfl,rfl⟩:=hR
 skip
 refine Ops.call (sorted_spec _ _ (KeyRow es) (KeyAll es) _ (keys_iter kx b' es ck h.m) (fun pre hpre=>by have:=hpre.len;omega) (fun xs hxs=>by have:=hxs.length_eq;simp at this;omega)) rfl (noPd rfl) rfl rfl rfl (fun v A' hR=>?_)
 obtain ⟨xs,ys,G,hxs,hp2,hs2,hO,rfl⟩:=hR
 obtain rfl:=keys_sorted h.is_ h.m h.lok.asc hxs hp2 hs2
 obtain ⟨a',c',rfl⟩:=hO.form
 have hyl:((l.map LE.badge).map irow).length = l.length:=by simp
 rw [hyl] at hO ⊢
 refine zg3 ?_
 refine Cd.loopK (fun s:Nat × List Blk=>s.1 ≤ l.length ∧ Y (l.take s.1) s.2) (fun s=>[(0,.func (.yield lp) #[] #[]),(3,.map (some b')),(13,.slice a' l.length c'),(14,.int .i64 l.length),(15,.int .i64 s.1)])
  (fun s=>(bx,cl [ptr n] 86) :: (b',mpo es ck) :: (G ++ s.2)) (fun s=>l.length - s.1) (0,C) ⟨Nat.zero_le _,hC⟩ ⟨rfl,rfl,rfl,rfl,rfl,trivial⟩
  (fun w hw=>((hw.split:Sat _ ((bx,cl [ptr n] 86) :: (b',mpo es ck) :: (G ++ ((n,cl [.int .i64 ticks,.map (some m)] 175) :: (m,mpo es ck) :: F))) w).perm ((((hp.symm).append_left G).cons _).cons _))) (fun s hI=>?_)
 obtain ⟨i,C1⟩:=s
 obtain ⟨hi,hYC⟩:=hI
 dsimp only at hi hYC ⊢
 clear hp hC hG
 by_cases hil:i < l.length
 ·obtain ⟨g,c2,spare,he,rfl,hsp,hle⟩:=hO.some_ (by rw [hyl];omega)
  rw [hyl] at he
  injection he with he1 he2 he3
  subst he1;subst he3
  obtain ⟨x,hxi⟩:∃ x,l[i]? = some x:=⟨_,List.getElem?_eq_getElem hil⟩
  have hr:((l.map LE.badge).map irow)[(i:Int).toNat]? = some [.int .i64 x.badge]:=by
   rw [Int.toNat_natCast,List.getElem?_map,List.getElem?_map,hxi];rfl
  have hk:=irows_ok (l.map LE.badge)
  have hg:mget es x.badge = some x.val:=by rw [h.is_,lfind_of h.lok.asc (List.mem_of_getElem? hxi)];rfl
  refine zg35 ?_
  simp only [hg,Option.getD_some]
  refine Ops.callY (hY _ x ⟨i,hil,take_next hxi⟩ C1 hYC) hx rfl (noPd rfl) rfl rfl rfl rfl (fun v A' hR=>?_)
  rcases hR with ⟨rfl,hY'⟩|⟨rfl,hZ⟩
  ·refine zg27 ?_
   rw [take_next hxi] at hY'
   exact Ops.nilN (round_end (i + 1,A') ⟨by show i + 1 ≤ l.length;omega,hY'⟩ zp15 ⟨rfl,rfl,rfl,rfl,rfl,trivial⟩
    (fun w h=>(h.split:Sat _ ((bx,cl [ptr n] 86) :: (b',mpo es ck) :: ([(g,cl (((l.map LE.badge).map irow).flatten ++ spare) 3)] ++ A')) w)))
  ·refine zg15 ?_
   exact Cd.ret (ret0 (A':=[(bx,cl [ptr n] 86)] ++ A') rfl (fun w h=>h.split) ⟨A',.inr ⟨_,hZ⟩,rfl⟩)
 ·rw [List.take_of_length_le (by omega)] at hYC
  refine zg17 ?_
  exact Cd.exit (end0 (A':=[(bx,cl [ptr n] 86)] ++ C1) rfl (fun w h=>h.split) ⟨C1,.inl ⟨_,rfl,hYC⟩,rfl⟩)
theorem lrows_ok (l:List LE):RowsOk 5 (l.map LE.row):=rows_map (f:=LE.row) (fun _=>⟨rfl,rfl⟩) l
theorem told_inv {l pre:List LE} {x:LE} (h:Told l (pre ++ [x])):∃ i,pre = l.take i ∧ l[i]? = some x ∧ pre.length = i:=by
 obtain ⟨i,hi,h⟩:=h
 obtain ⟨d,hd⟩:∃ d,l[i]? = some d:=⟨_,List.getElem?_eq_getElem hi⟩
 rw [← take_next hd] at h
 obtain ⟨h1,h2⟩:=List.append_inj' h rfl
 injection h2 with h2
 subst h2
 exact ⟨i,h1,hd,by rw [h1,List.length_take];omega⟩
theorem told_split {l pre:List LE} {x:LE} (h:Told l (pre ++ [x])):l = pre ++ x :: l.drop (pre.length + 1) ∧ l.drop pre.length = x :: l.drop (pre.length + 1):=by
 obtain ⟨i,h1,h2,h3⟩:=told_inv h
 obtain ⟨a,b⟩:=List.getElem?_eq_some_iff.1 h2
 have e:l.drop pre.length = x :: l.drop (pre.length + 1):=by
  rw [h3,List.drop_eq_getElem_cons a,b]
 refine ⟨?_,e⟩
 rw [← e,h3]
 conv=>lhs;rw [← List.take_append_drop i l,← h1]
def Clash (job badge:Int) (x:LE):Prop:=x.job = job ∨ x.badge = badge
@[reducible] def GB (b8 b7 b6 b5 n m:Nat) (ticks job badge node life e:Int) (es:List ME) (ck:Nat):List Blk :=
 (b8,cl [.int .i64 e] 29) :: (b7,cl [.int .i64 node,.int .i64 life] 37) :: (b6,cl [.int .i64 badge] 3) :: (b5,cl [.int .i64 job] 3) :: TB n m ticks es ck
theorem grant_bad (n m:Nat) (ticks:Int) (es:List ME) (ck:Nat) (job badge node life:Int) (h:job < 1 ∨ 8 < job ∨ badge < 1 ∨ 1099511627776 < badge):Con Tryz.prog 134 #[ptr n,.int .i64 job,.int .i64 badge,.agg [.int .i64 node,.int .i64 life].toArray] (TB n m ticks es ck) fun v A=>v = .int .i64 1 ∧ A = TB n m ticks es ck:=by
 refine Con.intro (vs:=[_,_,_,_]) Tryz.func134 rfl Tryz.ntmps134 rfl (fun B=>?_)
 by_cases h1:job < 1
 ·repeat' (first|refine Cd.seq ?_|refine Cd.reg ?_|refine Ops.nil ?_|refine Ops.mv rfl rfl rfl rfl ?_|refine Ops.ld1 rfl rfl rfl rfl rfl ?_|refine Ops.bin rfl rfl rfl rfl rfl ?_|refine Ops.pickT rfl rfl rfl rfl rfl ?_|refine Ops.box rfl rfl rfl rfl (noPd rfl) (fun b=>?_)|refine Ops.alloc rfl rfl rfl (noPd rfl) (fun b=>?_)|refine Ops.st1 rfl rfl rfl rfl rfl (noPd rfl) ?_|refine Ops.gSkip rfl rfl rfl ?_|refine Cd.condT rfl rfl ?_|((fail_if_success refine Ops.probe rfl ?_);refine Ops.gT rfl rfl zp0 ?_))
  exact ze70
 ·by_cases h2:8 < job
  ·repeat' (first|refine Cd.seq ?_|refine Cd.reg ?_|refine Ops.nil ?_|refine Ops.mv rfl rfl rfl rfl ?_|refine Ops.ld1 rfl rfl rfl rfl rfl ?_|refine Ops.bin rfl rfl rfl rfl rfl ?_|refine Ops.pickT rfl rfl rfl rfl rfl ?_|refine Ops.pickF rfl rfl rfl rfl rfl ?_|refine Ops.box rfl rfl rfl rfl (noPd rfl) (fun b=>?_)|refine Ops.alloc rfl rfl rfl (noPd rfl) (fun b=>?_)|refine Ops.st1 rfl rfl rfl rfl rfl (noPd rfl) ?_|refine Ops.gSkip rfl rfl rfl ?_|refine Cd.condT rfl rfl ?_|((fail_if_success refine Ops.probe rfl ?_);refine Ops.gT rfl rfl zp0 ?_)|((fail_if_success refine Ops.probe rfl ?_);refine Ops.gF rfl rfl zp0 ?_))
   exact ze70
  ·by_cases h3:badge < 1
   ·repeat' (first|refine Cd.seq ?_|refine Cd.reg ?_|refine Ops.nil ?_|refine Ops.mv rfl rfl rfl rfl ?_|refine Ops.ld1 rfl rfl rfl rfl rfl ?_|refine Ops.bin rfl rfl rfl rfl rfl ?_|refine Ops.pickT rfl rfl rfl rfl rfl ?_|refine Ops.pickF rfl rfl rfl rfl rfl ?_|refine Ops.box rfl rfl rfl rfl (noPd rfl) (fun b=>?_)|refine Ops.alloc rfl rfl rfl (noPd rfl) (fun b=>?_)|refine Ops.st1 rfl rfl rfl rfl rfl (noPd rfl) ?_|refine Ops.gSkip rfl rfl rfl ?_|refine Cd.condT rfl rfl ?_|((fail_if_success refine Ops.probe rfl ?_);refine Ops.gT rfl rfl zp0 ?_)|((fail_if_success refine Ops.probe rfl ?_);refine Ops.gF rfl rfl zp0 ?_))
    exact ze70
   ·have h4:1099511627776 < badge:=by omega
    repeat' (first|refine Cd.seq ?_|refine Cd.reg ?_|refine Ops.nil ?_|refine Ops.mv rfl rfl rfl rfl ?_|refine Ops.ld1 rfl rfl rfl rfl rfl ?_|refine Ops.bin rfl rfl rfl rfl rfl ?_|refine Ops.pickF rfl rfl rfl rfl rfl ?_|refine Ops.box rfl rfl rfl rfl (noPd rfl) (fun b=>?_)|refine Ops.alloc rfl rfl rfl (noPd rfl) (fun b=>?_)|refine Ops.st1 rfl rfl rfl rfl rfl (noPd rfl) ?_|refine Cd.condT rfl zp0 ?_|((fail_if_success refine Ops.probe rfl ?_);refine Ops.gF rfl rfl zp0 ?_))
    exact ze70
theorem grant_ok (n m:Nat) (ticks:Int) (l:List LE) (es:List ME) (ck:Nat) (job badge node life:Int) (h:TOk ticks l es ck) (h1:¬ job < 1) (h2:¬ 8 < job) (h3:¬ badge < 1) (h4:¬ 1099511627776 < badge):Con Tryz.prog 134 #[ptr n,.int .i64 job,.int .i64 badge,.agg [.int .i64 node,.int .i64 life].toArray] (TB n m ticks es ck)
  fun v A=>(v = .int .i64 121 ∧ A = TB n m ticks es ck ∧ ∃ x ∈ l,Clash job badge x) ∨ (v = .int .i64 0 ∧ (∀ x ∈ l,¬ Clash job badge x) ∧ A = TB n m ticks (mput es ck badge (LE.mk job badge node life ticks).val) (mck es ck badge)):=by
 refine Con.intro (vs:=[_,_,_,_]) Tryz.func134 rfl Tryz.ntmps134 rfl (fun B=>?_)
 refine Cd.seq ?_
 refine Cd.reg ?_
 refine Ops.box rfl rfl rfl rfl (noPd rfl) (fun b5=>?_)
 refine Ops.box rfl rfl rfl rfl (noPd rfl) (fun b6=>?_)
 refine Ops.box rfl rfl rfl rfl (noPd rfl) (fun b7=>?_)
 refine Ops.alloc rfl rfl rfl (noPd rfl) (fun b8=>?_)
 refine zg21 ?_
 refine Ops.call (all_spec n) rfl (noPd rfl) rfl rfl rfl (fun v A' hR=>?_)
 obtain ⟨bA,rfl,rfl⟩:=hR
 refine zg3 ?_
 refine Cd.range (X:=LE) (C0:=GB b8 b7 b6 b5 n m ticks job badge node life 0 es ck) (all_iter n bA m ticks l es ck h) rfl rfl (ps:=[26]) rfl (fun _=>rfl)
  (fun pre C=>(∀ x ∈ pre,¬ Clash job badge x) ∧ C = GB b8 b7 b6 b5 n m ticks job badge node life 0 es ck)
  (fun c _ C=>c = Code.ret ∧ (∃ x ∈ l,Clash job badge x) ∧ C = GB b8 b7 b6 b5 n m ticks job badge node life 121 es ck)
  (fun pre x T C=>(∀ x ∈ pre,¬ Clash job badge x) ∧ Told l (pre ++ [x]) ∧ ∃ b9,T = [(0,ptr n),(5,ptr b5),(6,ptr b6),(7,ptr b7),(8,ptr b8),(9,ptr b9)] ∧ C = (b9,cl x.row 122) :: GB b8 b7 b6 b5 n m ticks job badge node life 0 es ck)
  (fun w hw=>(hw.split:Sat _ ((bA,cl [ptr n] 86) :: GB b8 b7 b6 b5 n m ticks job badge node life 0 es ck) w))
  ⟨(fun x hx=>by cases hx),rfl⟩
  (fun C hC=>⟨(b8,cl [.int .i64 0] 29) :: (b7,cl [.int .i64 node,.int .i64 life] 37) :: (b6,cl [.int .i64 badge] 3) :: [(b5,cl [.int .i64 job] 3)],by
   obtain ⟨_,rfl⟩:=hC
   exact (Split.perm (A:=GB b8 b7 b6 b5 n m ticks job badge node life 0 es ck) (A1:=TB n m ticks es ck))⟩)
  ?_ ?_ ?_ ?_
 ·rintro B2 pre x C hx hok ⟨hno,rfl⟩
  repeat' (first|refine Cd.reg ?_|refine Ops.alloc rfl rfl rfl (noPd rfl) (fun b=>?_)|refine Ops.stN rfl rfl rfl rfl rfl rfl (noPd rfl) ?_)
  exact Ops.nilN (asg_end ⟨hno,hok,_,rfl,rfl⟩ (fun a hF=>hF.keeps ⟨rfl,rfl,rfl,rfl,rfl,rfl,trivial⟩) (fun w h=>h))
 ·rintro lp r B2 pre x T C hro hlp hx hok ⟨hno,htold,b9,rfl,rfl⟩
  have hmem:x ∈ l:=by
   obtain ⟨i,_,hi,_⟩:=told_inv htold
   exact List.mem_of_getElem? hi
  by_cases hc:Clash job badge x
  ·by_cases hj:x.job = job
   ·refine zg22 ?_
    exact ze71
   ·have hb:x.badge = badge:=hc.resolve_left hj
    refine zg36 ?_
    exact ze71
  ·have hj:¬ x.job = job:=fun e=>hc (.inl e)
   have hb:¬ x.badge = badge:=fun e=>hc (.inr e)
   refine zg21 ?_
   exact Cd.skip (inB (rnd_next ⟨fun y hy=>by
    rcases List.mem_append.1 hy with hy|hy
    ·exact hno y hy
    ·obtain rfl:=List.mem_singleton.1 hy
     exact hc,rfl⟩ (fun w h=>h.tail)))
 ·rintro D xs C hD rfl ⟨hno,rfl⟩
  have hroom:=h.lok.room (j:=job) (by omega) (by omega) fun x hx e=>hno x hx (.inl e)
  have hel:=h.is_.len h.m h.lok.asc
  refine Cd.next (Q':=fun _ _ _=>True) ?_
  refine zg21 ?_
  refine Cd.draw [(0,0,[]),(1,0,[]),(2,0,[]),(3,1,[]),(4,1,[]),(5,1,[]),(6,1,[]),(7,1,[]),(8,0,[]),(9,0,[]),(10,0,[]),(11,1,[]),(12,0,[]),(13,2,[])] (by kernel_rfl) (by kernel_rfl) (by simp only [picked,nth];exact rfl) ?_
  refine zg26 ?_
  exact Cd.ret (unmark (mark1 hD) (ret1 (A':=TB n m ticks (mput es ck badge (LE.mk job badge node life ticks).val) (mck es ck badge)) rfl (Res.cell1 rfl rfl) (fun w h=>h.split) (.inr ⟨rfl,hno,rfl⟩)))
 ·rintro D c pre C hD ⟨rfl,hcl,rfl⟩
  exact Cd.ret (inBr (unmark (mark1 hD) (ret1 (A':=TB n m ticks es ck) rfl (Res.cell1 rfl rfl) (fun w h=>h.split) (.inl ⟨rfl,rfl,hcl⟩))))
theorem grant_spec (n m:Nat) (ticks:Int) (l:List LE) (es:List ME) (ck:Nat) (job badge node life:Int) (h:TOk ticks l es ck):Con Tryz.prog 134 #[ptr n,.int .i64 job,.int .i64 badge,.agg [.int .i64 node,.int .i64 life].toArray] (TB n m ticks es ck)
  fun v A=>v = .int .i64 (grantF ticks l job badge node life).1 ∧ ∃ es' ck',A = TB n m ticks es' ck' ∧ TOk ticks (grantF ticks l job badge node life).2 es' ck':=by
 have hok:=grantF_ok h.lok job badge node life
 unfold grantF at hok ⊢
 split
 ·rename_i hb
  exact (grant_bad n m ticks es ck job badge node life hb).mono fun v A ⟨e1,e2⟩=>⟨e1,es,ck,e2,h⟩
 ·rename_i hb
  rw [if_neg hb] at hok
  refine (grant_ok n m ticks l es ck job badge node life h (by omega) (by omega) (by omega) (by omega)).mono fun v A hR=>?_
  rcases hR with ⟨rfl,rfl,hc⟩|⟨rfl,hc,rfl⟩
  ·have hc':∃ x ∈ l,x.job = job ∨ x.badge = badge:=hc
   rw [if_pos hc']
   exact ⟨rfl,es,ck,rfl,h⟩
  ·have hc':¬ ∃ x ∈ l,x.job = job ∨ x.badge = badge:=fun ⟨x,hx,e⟩=>hc x hx e
   rw [if_neg hc'] at hok ⊢
   exact ⟨rfl,_,_,rfl,hok,h.m.put _ _,h.is_.ins (x:=LE.mk job badge node life ticks) h.m h.lok.asc fun y hy e=>hc y hy (.inr e)⟩
theorem clip_spec (sv:Value) (rows:List (List Value)) (G:List Blk) (h:Own 122 5 sv rows G):Con Tryz.prog 96 #[sv] [] fun v A=>Rs 122 5 v rows G ∧ A = []:=by
 refine Con.intro (vs:=[_]) Tryz.func96 rfl Tryz.ntmps96 rfl (fun B=>?_)
 rcases h.2 with ⟨rfl,rfl,rfl⟩|⟨g,c,sp,rfl,rfl,hsp,hle⟩
 ·refine zg3 ?_
  refine Ops.slHM rfl rfl rfl rfl rfl (by omega) (by omega) (by omega) rfl ?_
  refine zg1 ?_
  exact Cd.ret (ret1 rfl (Res.tmp rfl) (fun w h=>h) ⟨⟨h.1,.inl ⟨rfl,rfl,rfl⟩⟩,rfl⟩)
 ·refine zg3 ?_
  refine Ops.slHM rfl rfl rfl rfl rfl (by omega) (by omega) (by omega) rfl ?_
  refine zg1 ?_
  exact Cd.ret (ret1 rfl (Res.tmp rfl) (fun w h=>h) ⟨⟨h.1,.inr ⟨g,rows.length,sp,by simp,rfl⟩⟩,rfl⟩)
@[reducible] def TkB (b3 b1 n m:Nat) (ticks:Int) (es:List ME) (ck:Nat) (sv:Value) (G:List Blk):List Blk :=
 (b3,cl [sv] 119) :: (b1,cl [ptr n] 86) :: (TB n m ticks es ck ++ G)
def TkI (ticks:Int) (l pre:List LE) (es:List ME) (ck:Nat) (sv:Value) (G:List Blk):Prop :=
 MOk es ck ∧ LsIs es (restF pre ++ l.drop pre.length) ∧ Own 122 5 sv ((overF pre).map LE.row) G
theorem tick_spec (n m:Nat) (ticks:Int) (l:List LE) (es:List ME) (ck:Nat) (h:TOk ticks l es ck):Con Tryz.prog 44 #[ptr n] (TB n m ticks es ck)
  fun v A=>∃ es' ck' G,Rs 122 5 v ((overF l).map LE.row) G ∧ A = TB n m ticks es' ck' ++ G ∧ TOk ticks (restF l) es' ck':=by
 have hfew:=h.lok.few
 refine Con.intro (vs:=[_]) Tryz.func44 rfl Tryz.ntmps44 rfl (fun B=>?_)
 refine Cd.seq ?_
 refine Cd.reg ?_
 refine Ops.box rfl rfl rfl rfl (noPd rfl) (fun b1=>?_)
 repeat' (first|refine Cd.seq ?_|refine Cd.reg ?_|refine Ops.asg rfl rfl rfl rfl ?_|refine Ops.ld1 rfl rfl rfl rfl rfl ?_|refine Ops.alloc rfl rfl rfl (noPd rfl) (fun b=>?_))
 rename Nat=>b3
 refine Ops.call (all_spec n) rfl (noPd rfl) rfl rfl rfl (fun v A' hR=>?_)
 obtain ⟨bA,rfl,rfl⟩:=hR
 refine zg3 ?_
 refine Cd.range (X:=LE) (C0:=TkB b3 b1 n m ticks es ck (.slice none 0 0) []) (all_iter n bA m ticks l es ck h) rfl rfl (ps:=[7]) rfl (fun _=>rfl)
  (fun pre C=>∃ es' ck' sv G,TkI ticks l pre es' ck' sv G ∧ (pre = [] → C = TkB b3 b1 n m ticks es ck (.slice none 0 0) []) ∧ C = TkB b3 b1 n m ticks es' ck' sv G)
  (fun _ _ _=>False)
  (fun pre x T C=>Told l (pre ++ [x]) ∧ ∃ es' ck' sv G b4,TkI ticks l pre es' ck' sv G ∧ T = [(1,ptr b1),(3,ptr b3),(4,ptr b4)] ∧ C = (b4,cl x.row 122) :: TkB b3 b1 n m ticks es' ck' sv G)
  (fun w hw=>(hw.split:Sat _ ((bA,cl [ptr n] 86) :: (b3,cl [.slice none 0 0] 119) :: (b1,cl [ptr n] 86) :: TB n m ticks es ck) w))
  ⟨es,ck,.slice none 0 0,[],⟨h.m,h.is_,Own.none⟩,fun _=>rfl,rfl⟩
  (fun C ⟨_,_,_,_,_,hC,_⟩=>⟨(b3,cl [.slice none 0 0] 119) :: [(b1,cl [ptr n] 86)],by
   rw [hC rfl]
   exact (Split.perm (A:=(b3,cl [.slice none 0 0] 119) :: (b1,cl [ptr n] 86) :: (TB n m ticks es ck ++ [])) (A1:=TB n m ticks es ck))⟩)
  ?_ ?_ ?_ ?_
 ·rintro B2 pre x C hx hok ⟨es',ck',sv,G,hI,_,rfl⟩
  repeat' (first|refine Cd.reg ?_|refine Ops.alloc rfl rfl rfl (noPd rfl) (fun b=>?_)|refine Ops.stN rfl rfl rfl rfl rfl rfl (noPd rfl) ?_)
  exact Ops.nilN (asg_end ⟨hok,es',ck',sv,G,_,hI,rfl,rfl⟩ (fun a hF=>hF.keeps ⟨rfl,rfl,rfl,trivial⟩) (fun w h=>h))
 ·rintro lp r B2 pre x T C hro hlp hx hok ⟨htold,es',ck',sv,G,b4,⟨hm,hls,hO⟩,rfl,rfl⟩
  obtain ⟨hsp1,hsp2⟩:=told_split htold
  have hmem:x ∈ l:=by rw [hsp1];simp
  have hleft:=h.lok.left0 x hmem
  have ht1:=h.lok.t1
  have hasc:Asc (pre ++ x :: l.drop (pre.length + 1)):=hsp1 ▸ h.lok.asc
  rw [hsp2] at hls
  have h9:=tick_set hasc hm hls
  have hm9:=hm.put (ck:=ck') x.badge (dec x).val
  have hpl:(overF pre).length ≤ 8:=by
   have h1:=overF_len pre
   have h2:=congrArg List.length hsp1
   simp at h2
   omega
  obtain ⟨sa,sc,rfl⟩:=hO.form
  have hdl:l.drop (pre ++ [x]).length = l.drop (pre.length + 1):=by rw [List.length_append];rfl
  by_cases hz:x.left - 1 = 0
  ·have h8:=tick_del hasc hm9 h9
   have hm8:=hm9.del x.badge
   refine zg32 ?_
   refine Cd.draw [(0,1,[]),(1,0,[]),(2,0,[]),(3,1,[]),(4,0,[]),(5,1,[]),(6,1,[]),(7,2,[])] (by kernel_rfl) (by kernel_rfl) (by simp only [picked,nth];exact rfl) ?_
   refine zg24 ?_
   refine Cd.draw [(0,1,[]),(1,0,[]),(2,0,[]),(3,1,[]),(4,0,[]),(5,1,[]),(6,2,[])] (by kernel_rfl) (by kernel_rfl) (by simp only [picked,nth];exact rfl) ?_
   repeat' (first|refine Ops.delI rfl rfl rfl rfl (noPd rfl) ?_|refine Cd.reg ?_|refine Ops.nil ?_|refine Ops.nilP rfl rfl rfl rfl ?_|refine Ops.fa0 rfl rfl rfl rfl ?_|refine Ops.ld1 rfl rfl rfl rfl rfl ?_|refine Ops.ldN rfl rfl rfl rfl ?_|refine Ops.bs1 rfl rfl rfl rfl rfl rfl rfl (noPd rfl) (fun b=>?_))
   refine Ops.app1 (rows:=(overF pre).map LE.row) hO (by rw [List.length_map];omega) (by rw [List.length_map];omega) rfl rfl rfl rfl (by rfl) (by rfl) rfl (noPd rfl) rfl (fun v G' hG'=>?_)
   obtain ⟨a',c',rfl⟩:=hG'.form
   refine zg15 ?_
   exact Ops.nilN (inB (rnd_next ⟨mdel (mput es' ck' x.badge (dec x).val) x.badge,mck es' ck' x.badge,_,G',⟨hm8,by rw [hdl,restF_app,restF_one0 hz,List.append_nil];exact h8,by
    rw [overF_app,overF_one0 hz,List.map_append];exact hG'⟩,fun e=>by simp at e,rfl⟩ (fun w h=>h.split)))
  ·refine zg32 ?_
   refine Cd.draw [(0,1,[]),(1,0,[]),(2,0,[]),(3,1,[]),(4,0,[]),(5,1,[]),(6,1,[]),(7,2,[])] (by kernel_rfl) (by kernel_rfl) (by simp only [picked,nth];exact rfl) ?_
   refine zg21 ?_
   exact Cd.skip (inB (rnd_next ⟨mput es' ck' x.badge (dec x).val,mck es' ck' x.badge,_,G,⟨hm9,by rw [hdl,restF_app,restF_one1 hz,List.append_assoc];exact h9,by
    rw [overF_app,overF_one1 hz,List.append_nil];exact hO⟩,fun e=>by simp at e,rfl⟩ (fun w h=>h.tail)))
 ·rintro D xs C hD rfl ⟨es',ck',sv,G,⟨hm,hls,hO⟩,_,rfl⟩
  rw [List.drop_length,List.append_nil] at hls
  obtain ⟨sa,sc,rfl⟩:=hO.form
  refine Cd.next (Q':=fun _ _ _=>True) ?_
  refine zg4 ?_
  refine Ops.call (clip_spec _ _ G hO) rfl (noPd rfl) rfl rfl rfl (fun v A' hR=>?_)
  obtain ⟨hRs,rfl⟩:=hR
  obtain ⟨va,vc,rfl⟩:=hRs.form
  refine zg1 ?_
  exact Cd.ret (unmark (mark1 hD) (ret1 (A':=TB n m ticks es' ck' ++ G) rfl (Res.tmp rfl) (fun w h=>h.split) ⟨es',ck',G,hRs,rfl,restF_ok h.lok,hm,hls⟩))
 ·rintro D c pre C hD hZ
  exact hZ.elim
end Go.Proofs.YtaecdnfkcebbeaaGreat.Ls
namespace Go.Sep
open Go
section
variable {P:Program} {N:Fi} {B:Base} {Q:Exit → Act → World → Prop} {T:Tm} {A:List Blk} {ops:Array Oper} {l:List Oper}
variable {d:Nat} {ty:TypeId} {pos:String} {af:Array Edge} {m:Md} {gd:Option (Nat × Bool)}
theorem Ops.fld {s f off:Nat} {x:Operand} {vs:List Value} {v:Value} (hf:∃ (fields:Array Field) (fd:Field) (dd:TypeDesc),P.underlying s = some (.struct fields) ∧ fields[f]? = some fd ∧ P.underlying fd.type = some dd ∧ aggD dd = false ∧ fd.offset = off)
  (hm:m.rd true = true) (hg:gst ops T gd = some true) (hx:ev T x = some (.agg vs.toArray)) (hv:vs[off]? = some v) (hd:Nat.blt d N.n = true)
  (k:Ops P N B Q ops m.tl l ((d,v) :: T) A):Ops P N B Q ops m (⟨some d,.field s x f,ty,pos,af,gd⟩ :: l) T A :=
 Ops.pureV hm hg hd (fun a w hF=>by
  obtain ⟨fields,fd,dd,h1,h2,h3,h4,h5⟩:=hf
  have h6:(isAgg fd.type).run P w = .ok false w:=by
   simp only [isAgg,Sem.run_bind,run_underlying h3 w,Result.andThen_ok]
   cases dd <;> first|rfl|cases h4
  simp [execOp,hF.eval hx,Instr.field,run_underlying h1,h2,part,asAgg,h6,h5,hv]) k
end
section
variable {P:Program}
theorem eqIn_ifaceNil {t:TypeId} {d0:TypeDesc} [h:TyD P t d0] (hi:∃ m,d0 = .interface m) {w:World} (d:Nat):(Op.equalIn (d + 1) t .nilIface .nilIface).run P w = .ok true w:=by
 obtain ⟨m,rfl⟩:=hi
 simp [Op.equalIn,h.run_und]
theorem run_eqGuard_iface {t:TypeId} {xo:Operand} {v:Value} {w:World}:(eqGuard .eql t xo (.const v) .nilIface .nilIface).run P w = .ok () w:=by
 unfold eqGuard
 simp
variable {N:Fi} {B:Base} {Q:Exit → Act → World → Prop} {T:Tm} {A:List Blk} {ops:Array Oper} {l:List Oper}
variable {d:Nat} {ty:TypeId} {pos:String} {af:Array Edge} {m:Md} {gd:Option (Nat × Bool)}
theorem Ops.eqIfaceNil {t t':TypeId} {d0:TypeDesc} {x:Operand} [h:TyD P t d0] (hi:∃ m,d0 = .interface m) (hm:m.rd true = true) (hg:gst ops T gd = some true) (hx:ev T x = some .nilIface) (hd:Nat.blt d N.n = true)
  (k:Ops P N B Q ops m.tl l ((d,.bool true) :: T) A):Ops P N B Q ops m (⟨some d,.binOp .eql t x (.const .nilIface) t',ty,pos,af,gd⟩ :: l) T A :=
 Ops.pureV hm hg hd (fun a w hF=>by
  have h1:(binOp .eql t .nilIface .nilIface).run P w = .ok (.bool true) w:=run_eql rfl fun d=>eqIn_ifaceNil hi d
  have hy:a.eval (.const .nilIface) = .nilIface:=rfl
  simp only [execOp,hF.eval hx,hy,Sem.run_bind,run_eqGuard_iface,Result.andThen_ok,h1]
  rfl) k
end
end Go.Sep
namespace Go.Proofs.YtaecdnfkcebbeaaGreat.Se
open Go Go.Sep Go.Proofs
set_option maxRecDepth 10000
set_option maxHeartbeats 1000000
structure Dk where
 slot:Int
 life:Int
 session:Int
 last:Int
 reply:ByteArray
@[reducible] def Dk.row (d:Dk):List Value:=[.int .i64 d.slot,.int .i64 d.life,.int .i64 d.session,.int .i64 d.last,.string d.reply]
@[reducible] def Dk.zero (i:Int):Dk:=⟨i,0,0,0,⟨#[]⟩⟩
def dks (rs:List Dk):List (List Value):=rs.map Dk.row
theorem dks_len (rs:List Dk):(dks rs).length = rs.length:=by simp [dks]
theorem dks_ok (rs:List Dk):RowsOk 5 (dks rs):=fun r hr=>by
 obtain ⟨d,_,rfl⟩:=List.mem_map.1 hr
 exact ⟨rfl,rfl⟩
def OwnK (sv:Value) (rs:List Dk) (G:List Blk):Prop:=Own 299 5 sv (dks rs) G
@[reducible] def TabB (n:Nat) (sv:Value) (G:List Blk):List Blk:=(n,cl [sv] 297) :: G
theorem OwnK.form {sv:Value} {rs:List Dk} {G:List Blk} (h:OwnK sv rs G):∃ a c,sv = .slice a rs.length c:=by
 obtain ⟨a,c,h⟩:=Own.form h
 exact ⟨a,c,by rw [h,dks_len]⟩
theorem OwnK.some_ {sv:Value} {rs:List Dk} {G:List Blk} (h:OwnK sv rs G) (hn:0 < rs.length) :
  ∃ g c spare,sv = .slice (some ⟨g,0,none⟩) rs.length c ∧ G = [(g,cl ((dks rs).flatten ++ spare) 299)] ∧ (dks rs).flatten.length + spare.length = c * 5 ∧ rs.length ≤ c:=by
 obtain ⟨g,c,spare,h1,h2,h3,h4⟩:=Own.some_ h (by rw [dks_len];exact hn)
 rw [dks_len] at h1 h4
 exact ⟨g,c,spare,h1,h2,h3,h4⟩
structure NtS where
 i:Nat
 sv:Value
 G:List Blk
def fresh (k:Nat):List Dk:=(List.range k).map fun i:Nat=>Dk.zero (i:Int)
theorem fresh_app (k:Nat) {v:Value} {G:List Blk} (h:Own 299 5 v (dks (fresh k) ++ [[.int .i64 (k:Int),.int .i64 0,.int .i64 0,.int .i64 0,.string ⟨#[]⟩]]) G):∃ a c,v = .slice a (k + 1) c ∧ OwnK v (fresh (k + 1)) G:=by
 have h':OwnK v (fresh (k + 1)) G:=by
  unfold OwnK
  have:dks (fresh (k + 1)) = dks (fresh k) ++ [[.int .i64 (k:Int),.int .i64 0,.int .i64 0,.int .i64 0,.string ⟨#[]⟩]]:=by simp [dks,fresh,List.range_succ]
  rw [this];exact h
 obtain ⟨a,c,e⟩:=h'.form
 exact ⟨a,c,by rw [e];simp [fresh],h'⟩
theorem newt_yes (r:Nat) (h1:1 ≤ r) (h2:r ≤ 8):Con Tryz.prog 132 #[.int .i64 r] [] fun v A=>∃ b sv G,v = .tuple #[ptr b,.int .i64 0] ∧ A = TabB b sv G ∧ OwnK sv (fresh r) G:=by
 refine Con.intro (vs:=[_]) Tryz.func132 rfl Tryz.ntmps132 rfl (fun B=>?_)
 repeat' (first|refine Cd.seq ?_|refine Cd.reg ?_|refine Ops.nil ?_|refine Ops.mv rfl rfl rfl rfl ?_|refine Ops.asg rfl rfl rfl rfl ?_|refine Ops.bin rfl rfl rfl rfl rfl ?_|refine Ops.pickF rfl rfl rfl rfl rfl ?_|refine Ops.bld rfl rfl rfl rfl ?_|refine Ops.box rfl rfl rfl rfl (noPd rfl) (fun b=>?_)|refine Cd.block ?_|refine Cd.skip (Cd.next ?_)|refine Cd.condF rfl zp0 ?_|((fail_if_success refine Ops.probe rfl ?_);refine Ops.gF rfl rfl zp0 ?_))
 rename Nat=>tb
 refine Cd.loopK (fun s:NtS=>s.i ≤ r ∧ OwnK s.sv (fresh s.i) s.G) (fun s=>[(4,ptr tb),(14,.int .i64 r),(15,.int .i64 s.i)]) (fun s=>TabB tb s.sv s.G) (fun s=>r - s.i) ⟨0,.slice none 0 0,[]⟩ ⟨Nat.zero_le _,(Own.none:OwnK _ [] _)⟩ ⟨rfl,rfl,rfl,trivial⟩
  (fun w h=>(h.split:Sat _ (TabB tb (.slice none 0 0) []) w)) (fun s hI=>?_)
 obtain ⟨i,sv,G⟩:=s
 obtain ⟨hi,hO⟩:=hI
 dsimp only at hi hO ⊢
 by_cases hil:i < r
 ·repeat' (first|refine Cd.seq ?_|refine Cd.reg ?_|refine Ops.mv rfl rfl rfl rfl ?_|refine Ops.asg rfl rfl rfl rfl ?_|refine Ops.nilP rfl rfl rfl rfl ?_|refine Ops.fa0 rfl rfl rfl rfl ?_|refine Ops.ld1 rfl rfl rfl rfl rfl ?_|refine Ops.bin rfl rfl rfl rfl rfl ?_|refine Ops.bld rfl rfl rfl rfl ?_|refine Ops.bs1 rfl rfl rfl rfl rfl rfl rfl (noPd rfl) (fun b=>?_)|refine Cd.block ?_|refine Cd.skip (Cd.next ?_)|refine Cd.condT rfl zp0 ?_)
  refine Ops.app1 (rows:=dks (fresh i)) hO (by rw [dks_len];simp [fresh];omega) (by rw [dks_len];simp [fresh];omega) rfl rfl rfl rfl (by rfl) (by rfl) rfl (noPd rfl) rfl (fun v G' hG'=>?_)
  obtain ⟨a,c,rfl,hG'⟩:=fresh_app i hG'
  refine zg23 ?_
  exact Ops.nilN (round_end (⟨i + 1,_,G'⟩:NtS) ⟨by show i + 1 ≤ r;omega,hG'⟩ (by show r - (i + 1) < r - i;omega) ⟨rfl,rfl,rfl,trivial⟩ (fun w h=>(h.split:Sat _ (TabB tb (.slice a (i + 1) c) G') w)))
 ·obtain rfl:i = r:=by omega
  refine zg12 ?_
  exact Cd.ret (ret2 rfl (Res.tmp rfl) (Res.tmp rfl) (fun _ h=>h) ⟨_,_,_,rfl,rfl,hO⟩)
def hasB (slot:Int) (k:Nat):Bool:=decide (0 ≤ slot ∧ slot < k)
theorem has_spec (n:Nat) (sv:Value) (rs:List Dk) (G:List Blk) (slot:Int) (hO:OwnK sv rs G):Con Tryz.prog 226 #[ptr n,.int .i64 slot] (TabB n sv G) fun v A=>v = .bool (hasB slot rs.length) ∧ A = TabB n sv G:=by
 obtain ⟨a,c,rfl⟩:=hO.form
 refine Con.intro (vs:=[_,_]) Tryz.func226 rfl Tryz.ntmps226 rfl (fun B=>?_)
 repeat' (first|refine Cd.seq ?_|refine Cd.reg ?_|refine Ops.nil ?_|refine Ops.mv rfl rfl rfl rfl ?_|refine Ops.asg rfl rfl rfl rfl ?_|refine Ops.nilP rfl rfl rfl rfl ?_|refine Ops.fa0 rfl rfl rfl rfl ?_|refine Ops.ld1 rfl rfl rfl rfl rfl ?_|refine Ops.lenS rfl rfl rfl rfl ?_|refine Ops.bin rfl rfl rfl rfl rfl ?_|refine Ops.pickT rfl rfl rfl rfl rfl ?_|refine Ops.pickF rfl rfl rfl rfl rfl ?_|refine Ops.gSkip rfl rfl rfl ?_|((fail_if_success refine Ops.probe rfl ?_);refine Ops.gSplit rfl rfl (fun hc=>?_) (fun hc=>?_) <;> (try simp only [decide_eq_true_eq,decide_eq_false_iff_not,Bool.not_eq_true',Bool.not_eq_false',Bool.not_eq_eq_eq_not,Bool.not_true,Bool.not_false,Int.not_lt,Int.not_le] at hc)))
 all_goals refine Cd.ret (ret1 rfl (Res.tmp rfl) (fun _ h=>h) ⟨?_,rfl⟩)
 all_goals (unfold hasB;refine congrArg Value.bool ?_;first|(simp only [decide_eq_decide];omega)|(symm;simp only [decide_eq_true_eq,decide_eq_false_iff_not];omega))
def cntB (n:Int):Bool:=decide (1 ≤ n ∧ n ≤ 1099511627776)
theorem counts_spec (x:Int):Con Tryz.prog 227 #[.int .i64 x] [] fun v A=>v = .bool (cntB x) ∧ A = []:=by
 refine Con.intro (vs:=[_]) Tryz.func227 rfl Tryz.ntmps227 rfl (fun B=>?_)
 repeat' (first|refine Cd.seq ?_|refine Cd.reg ?_|refine Ops.nil ?_|refine Ops.mv rfl rfl rfl rfl ?_|refine Ops.asg rfl rfl rfl rfl ?_|refine Ops.bin rfl rfl rfl rfl rfl ?_|refine Ops.pickT rfl rfl rfl rfl rfl ?_|refine Ops.pickF rfl rfl rfl rfl rfl ?_|refine Ops.gSkip rfl rfl rfl ?_|((fail_if_success refine Ops.probe rfl ?_);refine Ops.gSplit rfl rfl (fun hc=>?_) (fun hc=>?_) <;> (try simp only [decide_eq_true_eq,decide_eq_false_iff_not,Bool.not_eq_true',Bool.not_eq_false',Bool.not_eq_eq_eq_not,Bool.not_true,Bool.not_false,Int.not_lt,Int.not_le] at hc)))
 all_goals refine Cd.ret (ret1 rfl (Res.tmp rfl) (fun _ h=>h) ⟨?_,rfl⟩)
 all_goals (unfold cntB;refine congrArg Value.bool ?_;first|(simp only [decide_eq_decide];omega)|(symm;simp only [decide_eq_true_eq,decide_eq_false_iff_not];omega))
end Go.Proofs.YtaecdnfkcebbeaaGreat.Se
