import Derived.Test.YtkoelgkghijgiaaGreatA01
import Derived.Test.YtkoelgkghijgiaaGreatA04
import Derived.Test.YtkoelgkghijgiaaGreatA10
import Derived.Test.YtkoelgkghijgiaaGreatA05
import Derived.Test.YtkoelgkghijgiaaGreatA08
import Derived.Test.YtkoelgkghijgiaaGreatA06
set_option linter.unusedVariables false
set_option linter.unusedSimpArgs false
namespace Go.Proofs.YtkoelgkghijgiaaGreat.Ls
open Go Go.Sep Go.Proofs Go.Proofs.Tryz
set_option maxRecDepth 10000
set_option maxHeartbeats 2000000
set_option synthInstance.maxSize 2000
theorem ins_nil_spec (a:Option Addr) (c:Nat):Con prog 264 #[.slice a 0 c,.int .i64 0,.int .i64 0] [] fun v A=>A = []:=by
 refine zqI (vs:=[_,_,_]) func264 ntmps264 fun B=>?_
 refine zg9 ?_
 refine Cd.loopK (σ:=Unit) (fun _=>True) (fun _=>[(2,.int .i64 0),(6,.int .i64 1)]) (fun _=>[]) (fun _=>0) () trivial ⟨rfl,rfl,trivial⟩ (fun w h=>h) (fun _ _=>?_)
 refine zg4 ?_
 exact Cd.exit (end0 rfl (fun w h=>h) rfl)
theorem pdq_nil_spec (a:Option Addr) (c:Nat) (k:Int):Con prog 223 #[.slice a 0 c,.int .i64 0,.int .i64 0,.int .i64 k] [] fun v A=>A = []:=by
 refine zqI (vs:=[_,_,_,_]) func223 ntmps223 fun B=>?_
 refine zg1 ?_
 refine Cd.loopK (σ:=Unit) (fun _=>True) (fun _=>[(0,.slice a 0 c),(1,.int .i64 0),(2,.int .i64 0)]) (fun _=>[]) (fun _=>0) () trivial ⟨rfl,rfl,rfl,trivial⟩ (fun w h=>h) (fun _ _=>?_)
 refine zg11 ?_
 refine zqA (ins_nil_spec a c) fun v A' hR=>?_
 obtain rfl:=hR
 refine zg0 ?_
 exact Cd.ret (ret0 rfl (fun w h=>h) rfl)
theorem pdq_spec (g n c:Nat) (xs:List Int) (sp:List Value) (k:Int) (hn:xs.length = n) (hc:n ≤ c) (h12:n ≤ 12) :
  Con prog 223 #[.slice (some ⟨g,0,none⟩) n c,.int .i64 0,.int .i64 n,.int .i64 k] (IB g xs sp) fun v A=>∃ ys,A = IB g ys sp ∧ ys.Perm xs ∧ ys.Pairwise (· ≤ ·):=by
 refine zqI (vs:=[_,_,_,_]) func223 ntmps223 fun B=>?_
 refine zg1 ?_
 refine Cd.loopK (σ:=Unit) (fun _=>True) (fun _=>[(0,.slice (some ⟨g,0,none⟩) n c),(1,.int .i64 0),(2,.int .i64 n)]) (fun _=>IB g xs sp) (fun _=>0) () trivial ⟨rfl,rfl,rfl,trivial⟩ (fun w h=>h) (fun _ _=>?_)
 have h12':(n:Int) - 0 ≤ 12:=by omega
 refine zg10 ?_
 refine zqA (ins_spec g n c xs sp hn hc (by omega)) fun v A' hR=>?_
 obtain ⟨ys,rfl,hp,hs⟩:=hR
 refine zg0 ?_
 exact Cd.ret (ret0 (A':=IB g ys sp) rfl (fun w h=>h.split) ⟨ys,rfl,hp,hs⟩)
theorem sort_spec (sv:Value) (xs:List Int) (G:List Blk) (h:OwnI sv xs G) (h12:xs.length ≤ 12) :
  Con prog 160 #[sv] G fun v A=>∃ ys,OwnI sv ys A ∧ ys.Perm xs ∧ ys.Pairwise (· ≤ ·):=by
 rcases h.2 with ⟨rfl,hb,rfl⟩|⟨g,c,spare,rfl,rfl,hsp,hle⟩
 ·obtain rfl:xs = []:=by simpa using hb
  refine zqI (vs:=[_]) func160 ntmps160 fun B=>?_
  refine zg1 ?_
  refine Ops.cvI rfl rfl rfl rfl ?_
  rw [u64_small (n:=((0:Nat):Int)) (by simp) (by simp)]
  refine zqA (blen_spec ((0:Nat):Int) (by simp) (by simp)) fun v A' hR=>?_
  obtain ⟨⟨k,rfl⟩,rfl⟩:=hR
  refine zqA (pdq_nil_spec none 0 k) fun v A' hR=>?_
  obtain rfl:=hR
  exact Ops.nilN (end0 (A':=[]) rfl (fun w h=>h) ⟨[],Own.none,.refl _,List.Pairwise.nil⟩)
 ·have hl:(xs.map irow).length = xs.length:=by simp
  rw [hl] at hle ⊢
  refine zqI (vs:=[_]) func160 ntmps160 fun B=>?_
  refine zg1 ?_
  refine Ops.cvI rfl rfl rfl rfl ?_
  rw [u64_small (Int.natCast_nonneg _) (by omega)]
  refine Ops.call (blen_spec _ (Int.natCast_nonneg _) (by omega)) rfl (noPd rfl) rfl rfl rfl (fun v A' hR=>?_)
  obtain ⟨⟨k,rfl⟩,rfl⟩:=hR
  refine zqA (pdq_spec g xs.length c xs spare k rfl hle h12) fun v A' hR=>?_
  obtain ⟨ys,rfl,hp,hs⟩:=hR
  have e1:ys.length = xs.length:=hp.length_eq
  refine Ops.nilN (end0 (A':=IB g ys spare) rfl (fun w h=>h.split) ⟨ys,⟨irows_ok ys,.inr ⟨g,c,spare,by rw [List.length_map,e1],rfl,?_,by rw [List.length_map,e1];exact hle⟩⟩,hp,hs⟩)
  rw [(irows_ok ys).len,List.length_map,e1,← hl,← h.1.len]
  exact hsp
@[reducible] def encI (x:Int):List Value:=[.int .i64 x]
def KeyRow (es:List ME) (pre:List Int):Prop:=pre.Nodup ∧ ∀ x ∈ pre,x ∈ es.map ME.k
def KeyAll (es:List ME) (xs:List Int):Prop:=xs.Perm (es.map ME.k)
theorem nodup_len:∀ {a b:List Int},a.Nodup → (∀ x ∈ a,x ∈ b) → a.length ≤ b.length
 | [],b,_,_=>Nat.zero_le _
 | x :: a,b,hn,hs=>by
  have hn':=List.nodup_cons.1 hn
  have hx:=hs x (List.mem_cons_self ..)
  have:=nodup_len (a:=a) (b:=b.erase x) hn'.2 fun y hy=>(List.mem_erase_of_ne (fun e=>by subst e;exact hn'.1 hy)).2 (hs y (List.mem_cons_of_mem _ hy))
  rw [List.length_erase_of_mem hx] at this
  have hp:=List.length_pos_of_mem hx
  simp only [List.length_cons]
  omega
theorem KeyRow.len {es:List ME} {pre:List Int} (h:KeyRow es pre):pre.length ≤ es.length:=by
 have:=nodup_len h.1 h.2
 simpa using this
theorem keys_spec (b:Nat):Con prog 98 #[.map (some b)] [] fun v A=>∃ bx,v = .func (.func 161) #[] #[.pointer (some ⟨bx,0,none⟩)] ∧ A = [(bx,cl [.map (some b)] 188)]:=by
 refine zqI (vs:=[_]) func98 ntmps98 fun B=>?_
 repeat' (first|refine zs0 ?_|refine Ops.box rfl rfl rfl rfl (noPd rfl) (fun b=>?_))
 exact Cd.ret (ret1 rfl (Res.tmp rfl) (fun _ h=>h) ⟨_,rfl,rfl⟩)
theorem keys_iter (bx b:Nat) (es:List ME) (ck:Nat) (hok:MOk es ck) :
  IterC prog 161 [.pointer (some ⟨bx,0,none⟩)] encI (KeyRow es) (KeyAll es) [(bx,cl [.map (some b)] 188),(b,mpo es ck)] []:=by
 intro B0 l Y Z hG hY C hC
 refine ConB.intro (vs:=[.func (.yield l) #[] #[],.pointer (some ⟨bx,0,none⟩)]) func161 rfl ntmps161 rfl (fun B hx=>?_)
 refine zg1 ?_
 refine Ops.rngM rfl rfl rfl rfl (noPd rfl) (fun r=>?_)
 refine zg1 ?_
 refine Cd.loopK (fun s:(List Nat × List Int) × List Blk=>Y s.1.2 s.2 ∧ KeyRow es s.1.2 ∧ (es.map ME.k).Perm (s.1.2 ++ (mleft es s.1.1).map ME.k)) (fun s=>[(0,.func (.yield l) #[] #[]),(5,.pointer (some ⟨r,0,none⟩))])
  (fun s=>(r,mit b ck s.1.1) :: (bx,cl [.map (some b)] 188) :: (b,mpo es ck) :: s.2) (fun s=>(mleft es s.1.1).length) (([],[]),C) ⟨hC,⟨List.nodup_nil,by simp⟩,by
   have:mleft es [] = es:=by unfold mleft;rw [List.filter_eq_self];simp
   rw [this];exact .refl _⟩ ⟨rfl,rfl,trivial⟩
  (fun w hw=>hw) (fun s hI=>?_)
 obtain ⟨⟨seen,pre⟩,C1⟩:=s
 obtain ⟨hYC,hkr,hperm⟩:=hI
 dsimp only at hYC hkr hperm ⊢
 clear hC hG
 refine Cd.seq ?_
 refine Cd.reg ?_
 refine Ops.nxM hok rfl rfl rfl rfl (noPd rfl) (fun hl=>?_) (fun e he=>?_)
 ·rw [hl] at hperm
  refine zg7 ?_
  exact Cd.exit (end0 (A':=[(bx,cl [.map (some b)] 188),(b,mpo es ck)] ++ C1) rfl (fun w h=>h.tail) ⟨C1,.inl ⟨pre,by simpa [KeyAll] using hperm.symm,hYC⟩,rfl⟩)
 ·have hmem:=(List.mem_filter.1 he).1
  have hnx:=mleft_next hok he
  have hperm':(es.map ME.k).Perm ((pre ++ [e.k]) ++ (mleft es (seen ++ [e.b])).map ME.k):=by
   refine hperm.trans ?_
   rw [List.append_assoc]
   exact (hnx.map ME.k).append_left pre
  have hkr':KeyRow es (pre ++ [e.k]):=by
   have hnd:=(hperm'.nodup_iff).1 hok.keys
   refine ⟨(List.nodup_append.1 hnd).1,fun x hx=>?_⟩
   exact hperm'.mem_iff.2 (List.mem_append_left _ hx)
  refine zg4 ?_
  refine Ops.enM hok hmem rfl rfl rfl rfl ?_
  refine zg1 ?_
  refine Ops.callY (hY pre e.k hkr' C1 hYC) hx rfl (noPd rfl) rfl rfl rfl rfl (fun v A' hR=>?_)
  rcases hR with ⟨rfl,hY'⟩|⟨rfl,hZ⟩
  ·refine zg4 ?_
   have hlt:(mleft es (seen ++ [e.b])).length < (mleft es seen).length:=by rw [hnx.length_eq];exact Nat.lt_succ_self _
   exact Cd.skip (inB (round_end (((seen ++ [e.b],pre ++ [e.k]),A'):(List Nat × List Int) × List Blk) ⟨hY',hkr',hperm'⟩ hlt ⟨rfl,rfl,trivial⟩
    (fun w h=>(h.split:Sat _ ((r,mit b ck (seen ++ [e.b])) :: (bx,cl [.map (some b)] 188) :: (b,mpo es ck) :: A') w))))
  ·refine zg4 ?_
   exact Cd.ret (ret0 (A':=[(bx,cl [.map (some b)] 188),(b,mpo es ck)] ++ A') rfl (fun w h=>(h.split:Sat _ ((bx,cl [.map (some b)] 188) :: (b,mpo es ck) :: A') w)) ⟨A',.inr ⟨_,hZ⟩,rfl⟩)
theorem appseq_spec (gf:FuncId) (lb:List Value) (Ok Done:List Int → Prop) (AI:List Blk) [hfn:FnOk prog gf] (hit:IterC prog gf lb encI Ok Done AI []) (hlen:∀ pre,Ok pre → pre.length ≤ 1000000) :
  Con prog 222 #[.slice none 0 0,.func (.func gf) #[] lb.toArray] AI fun v A=>∃ xs G,Done xs ∧ OwnI v xs G ∧ A = AI ++ G:=by
 refine zqI (vs:=[_,_]) func222 ntmps222 fun B=>?_
 refine Cd.seq ?_
 refine Cd.reg ?_
 refine Ops.box rfl rfl rfl rfl (noPd rfl) (fun b2=>?_)
 refine zg1 ?_
 refine Cd.range (X:=Int) (C0:=[(b2,cl [.slice none 0 0] 151)]) hit rfl rfl (ps:=[7]) rfl (fun _=>rfl)
  (fun pre C=>∃ sv G,OwnI sv pre G ∧ C = (b2,cl [sv] 151) :: G)
  (fun _ _ _=>False)
  (fun pre x T C=>Ok (pre ++ [x]) ∧ ∃ sv G,OwnI sv pre G ∧ T = [(2,.pointer (some ⟨b2,0,none⟩)),(5,.int .i64 x)] ∧ C = (b2,cl [sv] 151) :: G)
  (fun w hw=>(hw.split:Sat _ (AI ++ [(b2,cl [.slice none 0 0] 151)]) w)) ⟨_,[],Own.none,rfl⟩ (fun C _=>⟨C,.refl _⟩) ?_ ?_ ?_ ?_
 ·rintro B2 pre x C hx hok ⟨sv,G,hO,rfl⟩
  refine zg0 ?_
  exact Ops.nilN (asg_end ⟨hok,sv,G,hO,rfl,rfl⟩ (fun a hF=>hF.keeps ⟨rfl,rfl,trivial⟩) (fun w h=>h))
 ·rintro lp r B2 pre x T C hro hlp hx hok ⟨hok',sv,G,hO,rfl,rfl⟩
  have hl:=hlen _ hok'
  rw [List.length_append,List.length_singleton] at hl
  obtain ⟨sa,sc,rfl⟩:=hO.form
  repeat' (first|refine zs3 ?_|refine Ops.bs1 rfl rfl rfl rfl rfl rfl rfl (noPd rfl) (fun b=>?_))
  refine Ops.app1 (rows:=pre.map irow) hO (by rw [List.length_map];omega) (by rw [List.length_map];omega) rfl rfl rfl rfl (by rfl) (by rfl) rfl (noPd rfl) rfl (fun v G' hG'=>?_)
  obtain ⟨a',c',rfl⟩:=hG'.form
  refine zg5 ?_
  exact Ops.nilN (inB (rnd_next ⟨_,G',by unfold OwnI;rw [List.map_append];exact hG',rfl⟩ (fun w h=>h.split)))
 ·rintro D xs C hD hdn ⟨sv,G,hO,rfl⟩
  obtain ⟨sa,sc,rfl⟩:=hO.form
  refine Cd.next (Q':=fun _ _ _=>True) ?_
  refine zg6 ?_
  exact Cd.ret (unmark (mark1 hD) (ret1 (A':=AI ++ G) rfl (Res.tmp rfl) (fun w h=>h.split) ⟨xs,G,hdn,hO,rfl⟩))
 ·rintro D c pre C hD hZ
  exact hZ.elim
theorem collect_spec (gf:FuncId) (lb:List Value) (Ok Done:List Int → Prop) (AI:List Blk) [hfn:FnOk prog gf] (hit:IterC prog gf lb encI Ok Done AI []) (hlen:∀ pre,Ok pre → pre.length ≤ 1000000) :
  Con prog 159 #[.func (.func gf) #[] lb.toArray] AI fun v A=>∃ xs G,Done xs ∧ OwnI v xs G ∧ A = AI ++ G:=by
 refine zqI (vs:=[_]) func159 ntmps159 fun B=>?_
 refine zg0 ?_
 refine zqA (appseq_spec gf lb Ok Done AI hit hlen) fun v A' hR=>?_
 obtain ⟨xs,G,hdn,hO,rfl⟩:=hR
 obtain ⟨sa,sc,rfl⟩:=hO.form
 refine zg0 ?_
 exact Cd.ret (ret1 (A':=AI ++ G) rfl (Res.tmp rfl) (fun w h=>h.split) ⟨xs,G,hdn,hO,rfl⟩)
theorem sorted_spec (gf:FuncId) (lb:List Value) (Ok Done:List Int → Prop) (AI:List Blk) [hfn:FnOk prog gf] (hit:IterC prog gf lb encI Ok Done AI []) (hlen:∀ pre,Ok pre → pre.length ≤ 1000000) (hdl:∀ xs,Done xs → xs.length ≤ 12) :
  Con prog 97 #[.func (.func gf) #[] lb.toArray] AI fun v A=>∃ xs ys G,Done xs ∧ ys.Perm xs ∧ ys.Pairwise (· ≤ ·) ∧ OwnI v ys G ∧ A = AI ++ G:=by
 refine zqI (vs:=[_]) func97 ntmps97 fun B=>?_
 refine zg0 ?_
 refine zqA (collect_spec gf lb Ok Done AI hit hlen) fun v A' hR=>?_
 obtain ⟨xs,G,hdn,hO,rfl⟩:=hR
 obtain ⟨sa,sc,rfl⟩:=hO.form
 refine zg0 ?_
 refine Ops.call (sort_spec _ xs G hO (hdl xs hdn)) rfl (noPd rfl) rfl rfl rfl (fun v A' hR=>?_)
 obtain ⟨ys,hO',hp,hs⟩:=hR
 refine zg1 ?_
 exact Cd.ret (ret1 (A':=AI ++ A') rfl (Res.tmp rfl) (fun w h=>h.split) ⟨xs,ys,A',hdn,hp,hs,hO',rfl⟩)
theorem mclone_spec (b:Nat) (es:List ME) (ck:Nat):Con prog 96 #[.map (some b)] [(b,mpo es ck)] fun v A=>∃ b',v = .map (some b') ∧ A = [(b,mpo es ck),(b',mpo es ck)]:=by
 refine zqI (vs:=[_]) func96 ntmps96 fun B=>?_
 refine zg7 ?_
 refine Ops.cloneM rfl rfl rfl rfl (noPd rfl) (fun b'=>?_)
 refine zg3 ?_
 exact Cd.ret (ret1 rfl (Res.tmp rfl) (fun w h=>h.split) ⟨b',rfl,rfl⟩)
end Go.Proofs.YtkoelgkghijgiaaGreat.Ls
namespace Go.Proofs.YtkoelgkghijgiaaGreat.Ls
open Go Go.Sep Go.Proofs
structure LE where
 job:Int
 badge:Int
 node:Int
 life:Int
 left:Int
@[reducible] def LE.row (x:LE):List Value:=[.int .i64 x.job,.int .i64 x.badge,.int .i64 x.node,.int .i64 x.life,.int .i64 x.left]
@[reducible] def LE.val (x:LE):Value:=.agg x.row.toArray
def Asc (l:List LE):Prop:=l.Pairwise fun a b=>a.badge < b.badge
def lfind (l:List LE) (i:Int):Option LE:=l.find? fun x=>decide (x.badge = i)
theorem lfind_mem {l:List LE} {i:Int} {x:LE} (h:lfind l i = some x):x ∈ l ∧ x.badge = i:=⟨List.mem_of_find?_eq_some h,by have:=List.find?_some h;simpa using this⟩
theorem lfind_none {l:List LE} {i:Int}:lfind l i = none ↔ ∀ x ∈ l,x.badge ≠ i:=by
 unfold lfind
 rw [List.find?_eq_none]
 simp
theorem Asc.eq {l:List LE} (h:Asc l) {x y:LE} (hx:x ∈ l) (hy:y ∈ l) (e:x.badge = y.badge):x = y:=by
 induction l with
 | nil=>cases hx
 | cons z l ih =>
  obtain ⟨h1,h2⟩:=List.pairwise_cons.1 h
  rcases List.mem_cons.1 hx with e1|hx'
  ·rcases List.mem_cons.1 hy with e2|hy'
   ·rw [e1,e2]
   ·have:=h1 _ hy';rw [← e1] at this;omega
  ·rcases List.mem_cons.1 hy with e2|hy'
   ·have:=h1 _ hx';rw [← e2] at this;omega
   ·exact ih h2 hx' hy'
theorem lfind_of {l:List LE} (h:Asc l) {x:LE} (hx:x ∈ l):lfind l x.badge = some x:=by
 cases hf:lfind l x.badge with
 | none=>exact absurd rfl (lfind_none.1 hf x hx)
 | some y =>
  obtain ⟨hy,e⟩:=lfind_mem hf
  rw [h.eq hy hx e]
theorem lfind_iff {l:List LE} (h:Asc l) {i:Int} {x:LE}:lfind l i = some x ↔ x ∈ l ∧ x.badge = i :=
 ⟨lfind_mem,fun ⟨hx,e⟩=>by subst e;exact lfind_of h hx⟩
def lins (x:LE):List LE → List LE
 | []=>[x]
 | y :: l=>if y.badge < x.badge then y :: lins x l else x :: y :: l
theorem lins_perm (x:LE):∀ l,(lins x l).Perm (x :: l)
 | []=>.refl _
 | y :: l=>by
  unfold lins
  split
  ·exact ((lins_perm x l).cons y).trans (.swap ..)
  ·exact .refl _
theorem lins_mem {x y:LE} {l:List LE}:y ∈ lins x l ↔ y = x ∨ y ∈ l:=by rw [(lins_perm x l).mem_iff,List.mem_cons]
theorem lins_asc {x:LE}:∀ {l:List LE},Asc l → (∀ y ∈ l,y.badge ≠ x.badge) → Asc (lins x l)
 | [],_,_=>List.pairwise_singleton _ _
 | y :: l,h,hn=>by
  obtain ⟨h1,h2⟩:=List.pairwise_cons.1 h
  unfold lins
  split
  ·rename_i hlt
   refine List.pairwise_cons.2 ⟨fun z hz=>?_,lins_asc h2 fun z hz=>hn z (List.mem_cons_of_mem _ hz)⟩
   rcases lins_mem.1 hz with rfl|hz
   ·exact hlt
   ·exact h1 z hz
  ·rename_i hge
   have:=hn y (List.mem_cons_self ..)
   refine List.pairwise_cons.2 ⟨fun z hz=>?_,h⟩
   rcases List.mem_cons.1 hz with rfl|hz
   ·omega
   ·have:=h1 z hz;omega
structure LOk (ticks:Int) (l:List LE):Prop where
 asc:Asc l
 jobs:(l.map LE.job).Nodup
 job0:∀ x ∈ l,1 ≤ x.job ∧ x.job ≤ 8
 badge0:∀ x ∈ l,1 ≤ x.badge ∧ x.badge ≤ 1099511627776
 left0:∀ x ∈ l,1 ≤ x.left ∧ x.left ≤ ticks
 t0:1 ≤ ticks
 t1:ticks ≤ 256
theorem nodup_len':∀ {a b:List Int},a.Nodup → (∀ x ∈ a,x ∈ b) → a.length ≤ b.length
 | [],b,_,_=>Nat.zero_le _
 | x :: a,b,hn,hs=>by
  have hn':=List.nodup_cons.1 hn
  have hx:=hs x (List.mem_cons_self ..)
  have:=nodup_len' (a:=a) (b:=b.erase x) hn'.2 fun y hy=>(List.mem_erase_of_ne (fun e=>by subst e;exact hn'.1 hy)).2 (hs y (List.mem_cons_of_mem _ hy))
  rw [List.length_erase_of_mem hx] at this
  have hp:=List.length_pos_of_mem hx
  simp only [List.length_cons]
  omega
theorem LOk.few {ticks:Int} {l:List LE} (h:LOk ticks l):l.length ≤ 8:=by
 have:=nodup_len' (b:=[1,2,3,4,5,6,7,8]) h.jobs fun x hx=>by
  obtain ⟨y,hy,rfl⟩:=List.mem_map.1 hx
  have:=h.job0 y hy
  simp
  omega
 simpa using this
theorem LOk.room {ticks:Int} {l:List LE} (h:LOk ticks l) {j:Int} (h1:1 ≤ j) (h8:j ≤ 8) (hn:∀ x ∈ l,x.job ≠ j):l.length < 8:=by
 have:=nodup_len' (a:=j :: l.map LE.job) (b:=[1,2,3,4,5,6,7,8]) (List.nodup_cons.2 ⟨fun hm=>by
  obtain ⟨y,hy,e⟩:=List.mem_map.1 hm
  exact hn y hy e,h.jobs⟩) fun x hx=>by
  rcases List.mem_cons.1 hx with rfl|hx
  ·simp;omega
  ·obtain ⟨y,hy,rfl⟩:=List.mem_map.1 hx
   have:=h.job0 y hy
   simp
   omega
 simp at this
 omega
def grantF (ticks:Int) (l:List LE) (job badge node life:Int):Int × List LE :=
 if job < 1 ∨ 8 < job ∨ badge < 1 ∨ 1099511627776 < badge then (1,l) else if ∃ x ∈ l,x.job = job ∨ x.badge = badge then (121,l) else (0,lins ⟨job,badge,node,life,ticks⟩ l)
def renewF (ticks:Int) (l:List LE) (badge:Int):Int × List LE :=
 if lfind l badge = none then (122,l) else (0,l.map fun x=>if x.badge = badge then { x with left:=ticks } else x)
def dropF (l:List LE) (badge:Int):Int × List LE :=
 if lfind l badge = none then (122,l) else (0,l.filter fun x=>!decide (x.badge = badge))
@[reducible] def dec (x:LE):LE:={ x with left:=x.left - 1 }
def overF (l:List LE):List LE:=(l.map dec).filter fun x=>decide (x.left = 0)
def restF (l:List LE):List LE:=(l.map dec).filter fun x=>!decide (x.left = 0)
theorem asc_map {l:List LE} {f:LE → LE} (h:Asc l) (hf:∀ x,(f x).badge = x.badge):Asc (l.map f):=by
 unfold Asc
 rw [List.pairwise_map]
 exact h.imp fun {a b} hab=>by rw [hf,hf];exact hab
theorem jobs_map {l:List LE} {f:LE → LE} (hf:∀ x,(f x).job = x.job):(l.map f).map LE.job = l.map LE.job:=by
 rw [List.map_map]
 exact List.map_congr_left fun x _=>hf x
theorem grantF_ok {ticks:Int} {l:List LE} (h:LOk ticks l) (job badge node life:Int):LOk ticks (grantF ticks l job badge node life).2:=by
 unfold grantF
 split
 ·exact h
 ·split
  ·exact h
  ·rename_i h1 h2
   have hn:∀ x ∈ l,x.job ≠ job ∧ x.badge ≠ badge:=fun x hx=>⟨fun e=>h2 ⟨x,hx,.inl e⟩,fun e=>h2 ⟨x,hx,.inr e⟩⟩
   have t0:=h.t0
   refine ⟨lins_asc h.asc fun y hy=>(hn y hy).2,?_,fun x hx=>?_,fun x hx=>?_,fun x hx=>?_,h.t0,h.t1⟩
   ·refine (((lins_perm _ l).map LE.job).nodup_iff).2 (List.nodup_cons.2 ⟨fun hm=>?_,h.jobs⟩)
    obtain ⟨y,hy,e⟩:=List.mem_map.1 hm
    exact (hn y hy).1 e
   ·rcases lins_mem.1 hx with rfl|hx
    ·exact ⟨by show 1 ≤ job;omega,by show job ≤ 8;omega⟩
    ·exact h.job0 x hx
   ·rcases lins_mem.1 hx with rfl|hx
    ·exact ⟨by show 1 ≤ badge;omega,by show badge ≤ 1099511627776;omega⟩
    ·exact h.badge0 x hx
   ·rcases lins_mem.1 hx with rfl|hx
    ·exact ⟨t0,Int.le_refl _⟩
    ·exact h.left0 x hx
theorem renewF_ok {ticks:Int} {l:List LE} (h:LOk ticks l) (badge:Int):LOk ticks (renewF ticks l badge).2:=by
 unfold renewF
 split
 ·exact h
 ·have t0:=h.t0
  have hb:∀ x:LE,(if x.badge = badge then { x with left:=ticks } else x).badge = x.badge:=fun x=>by split <;> rfl
  have hj:∀ x:LE,(if x.badge = badge then { x with left:=ticks } else x).job = x.job:=fun x=>by split <;> rfl
  refine ⟨asc_map h.asc hb,by show List.Nodup (List.map LE.job (List.map _ l));rw [jobs_map hj];exact h.jobs,fun x hx=>?_,fun x hx=>?_,fun x hx=>?_,h.t0,h.t1⟩
  ·obtain ⟨y,hy,rfl⟩:=List.mem_map.1 hx
   rw [hj];exact h.job0 y hy
  ·obtain ⟨y,hy,rfl⟩:=List.mem_map.1 hx
   rw [hb];exact h.badge0 y hy
  ·obtain ⟨y,hy,rfl⟩:=List.mem_map.1 hx
   split
   ·exact ⟨t0,Int.le_refl _⟩
   ·exact h.left0 y hy
theorem LOk.filter {ticks:Int} {l:List LE} (h:LOk ticks l) (p:LE → Bool):LOk ticks (l.filter p) :=
 ⟨h.asc.sublist List.filter_sublist,h.jobs.sublist (List.filter_sublist.map _),fun x hx=>h.job0 x (List.mem_filter.1 hx).1,fun x hx=>h.badge0 x (List.mem_filter.1 hx).1,fun x hx=>h.left0 x (List.mem_filter.1 hx).1,h.t0,h.t1⟩
theorem dropF_ok {ticks:Int} {l:List LE} (h:LOk ticks l) (badge:Int):LOk ticks (dropF l badge).2:=by
 unfold dropF
 split
 ·exact h
 ·exact h.filter _
theorem restF_ok {ticks:Int} {l:List LE} (h:LOk ticks l):LOk ticks (restF l):=by
 unfold restF
 refine ⟨(asc_map (f:=dec) h.asc fun _=>rfl).sublist List.filter_sublist,(by rw [jobs_map (f:=dec) fun _=>rfl];exact h.jobs:(List.map LE.job (List.map dec l)).Nodup).sublist (List.filter_sublist.map _),fun x hx=>?_,fun x hx=>?_,fun x hx=>?_,h.t0,h.t1⟩
 ·obtain ⟨y,hy,rfl⟩:=List.mem_map.1 (List.mem_filter.1 hx).1
  exact h.job0 y hy
 ·obtain ⟨y,hy,rfl⟩:=List.mem_map.1 (List.mem_filter.1 hx).1
  exact h.badge0 y hy
 ·obtain ⟨y,hy,rfl⟩:=List.mem_map.1 (List.mem_filter.1 hx).1
  have h0:=h.left0 y hy
  have hp:=(List.mem_filter.1 hx).2
  simp only [Bool.not_eq_true',decide_eq_false_iff_not] at hp
  exact ⟨by show 1 ≤ y.left - 1;have:¬ (y.left - 1 = 0):=hp;omega,by show y.left - 1 ≤ ticks;omega⟩
def LsIs (es:List ME) (l:List LE):Prop:=∀ i,mget es i = (lfind l i).map LE.val
theorem lfind_lins {l:List LE} {x:LE} (h:Asc l) (hn:∀ y ∈ l,y.badge ≠ x.badge) (i:Int):lfind (lins x l) i = if i = x.badge then some x else lfind l i:=by
 have hasc:=lins_asc h hn
 split
 ·rename_i e
  subst e
  exact lfind_of hasc (lins_mem.2 (.inl rfl))
 ·rename_i e
  cases hf:lfind l i with
  | none =>
   rw [lfind_none] at hf ⊢
   intro y hy
   rcases lins_mem.1 hy with rfl|hy
   ·exact fun e'=>e e'.symm
   ·exact hf y hy
  | some y =>
   obtain ⟨hy,e⟩:=lfind_mem hf
   exact (lfind_iff hasc).2 ⟨lins_mem.2 (.inr hy),e⟩
theorem LsIs.ins {es:List ME} {ck:Nat} {l:List LE} {x:LE} (h:LsIs es l) (hok:MOk es ck) (ha:Asc l) (hn:∀ y ∈ l,y.badge ≠ x.badge):LsIs (mput es ck x.badge x.val) (lins x l):=fun i=>by
 rw [mget_put hok,lfind_lins ha hn,h i]
 split <;> rfl
theorem lfind_map {l:List LE} {f:LE → LE} (hf:∀ x,(f x).badge = x.badge) (i:Int):lfind (l.map f) i = (lfind l i).map f:=by
 unfold lfind
 rw [List.find?_map]
 congr 2
 funext x
 simp [hf]
theorem LsIs.set {es:List ME} {ck:Nat} {l:List LE} {x y:LE} (h:LsIs es l) (hok:MOk es ck) (hx:lfind l x.badge = some x) (e:y.badge = x.badge):LsIs (mput es ck x.badge y.val) (l.map fun z=>if z.badge = x.badge then y else z):=fun i=>by
 have hb:∀ z:LE,(if z.badge = x.badge then y else z).badge = z.badge:=fun z=>by
  split
  ·rename_i h1;rw [e,h1]
  ·rfl
 rw [mget_put hok,lfind_map hb,h i]
 split
 ·rename_i e'
  subst e'
  rw [hx]
  simp
 ·rename_i e'
  cases hf:lfind l i with
  | none=>rfl
  | some z =>
   obtain ⟨_,e2⟩:=lfind_mem hf
   have:¬ z.badge = x.badge:=fun e3=>e' (e2.symm.trans e3)
   simp [this]
theorem LsIs.del {es:List ME} {ck:Nat} {l:List LE} {b:Int} (h:LsIs es l) (hok:MOk es ck):LsIs (mdel es b) (l.filter fun z=>!decide (z.badge = b)):=fun i=>by
 rw [mget_del hok,h i]
 have:lfind (l.filter fun z=>!decide (z.badge = b)) i = if i = b then none else lfind l i:=by
  unfold lfind
  rw [List.find?_filter]
  split
  ·rename_i e
   subst e
   rw [List.find?_eq_none]
   intro x _
   simp
  ·rename_i e
   congr 1
   funext x
   by_cases h1:x.badge = i
   ·subst h1;simp [e]
   ·simp [h1]
 rw [this]
 split <;> rfl
theorem keys_perm {es:List ME} {ck:Nat} {l:List LE} (h:LsIs es l) (hok:MOk es ck) (ha:Asc l):(es.map ME.k).Perm (l.map LE.badge):=by
 refine (List.perm_ext_iff_of_nodup hok.keys ?_).2 fun i=>?_
 ·rw [List.Nodup,List.pairwise_map]
  exact ha.imp fun {a b} hab=>Int.ne_of_lt hab
 ·rw [← mget_isSome,h i]
  constructor
  ·intro hs
   cases hf:lfind l i with
   | none=>rw [hf] at hs;cases hs
   | some x =>
    obtain ⟨hx,e⟩:=lfind_mem hf
    exact List.mem_map.2 ⟨x,hx,e⟩
  ·intro hm
   obtain ⟨x,hx,e⟩:=List.mem_map.1 hm
   subst e
   rw [lfind_of ha hx]
   rfl
theorem badges_le {l:List LE} (ha:Asc l):(l.map LE.badge).Pairwise (· ≤ ·):=by
 rw [List.pairwise_map]
 exact ha.imp fun {a b} hab=>Int.le_of_lt hab
theorem keys_sorted {es:List ME} {ck:Nat} {l:List LE} {xs ys:List Int} (h:LsIs es l) (hok:MOk es ck) (ha:Asc l) (h1:xs.Perm (es.map ME.k)) (h2:ys.Perm xs) (h3:ys.Pairwise (· ≤ ·)):ys = l.map LE.badge :=
 List.Perm.eq_of_pairwise (le:=(· ≤ ·)) (fun a b _ _ h1 h2=>Int.le_antisymm h1 h2) h3 (badges_le ha) (h2.trans (h1.trans (keys_perm h hok ha)))
theorem LsIs.len {es:List ME} {ck:Nat} {l:List LE} (h:LsIs es l) (hok:MOk es ck) (ha:Asc l):es.length = l.length:=by
 have:=(keys_perm h hok ha).length_eq
 simpa using this
theorem restF_app (a b:List LE):restF (a ++ b) = restF a ++ restF b:=by unfold restF;rw [List.map_append,List.filter_append]
theorem overF_app (a b:List LE):overF (a ++ b) = overF a ++ overF b:=by unfold overF;rw [List.map_append,List.filter_append]
theorem restF_one0 {x:LE} (h:x.left - 1 = 0):restF [x] = []:=by simp [restF,h]
theorem restF_one1 {x:LE} (h:x.left - 1 ≠ 0):restF [x] = [dec x]:=by simp [restF,h]
theorem overF_one0 {x:LE} (h:x.left - 1 = 0):overF [x] = [dec x]:=by simp [overF,h]
theorem overF_one1 {x:LE} (h:x.left - 1 ≠ 0):overF [x] = []:=by simp [overF,h]
theorem restF_badge {l:List LE} {y:LE} (h:y ∈ restF l):∃ x ∈ l,x.badge = y.badge:=by
 obtain ⟨x,hx,rfl⟩:=List.mem_map.1 (List.mem_filter.1 h).1
 exact ⟨x,hx,rfl⟩
theorem asc_apart {a b:List LE} {x:LE} (h:Asc (a ++ x :: b)):(∀ y ∈ a,y.badge < x.badge) ∧ ∀ y ∈ b,x.badge < y.badge:=by
 obtain ⟨h1,h2,h3⟩:=List.pairwise_append.1 h
 exact ⟨fun y hy=>h3 y hy x (List.mem_cons_self ..),(List.pairwise_cons.1 h2).1⟩
theorem asc_tick {a b:List LE} (h:Asc (a ++ b)):Asc (restF a ++ b):=by
 obtain ⟨h1,h2,h3⟩:=List.pairwise_append.1 h
 refine List.pairwise_append.2 ⟨(asc_map (f:=dec) h1 fun _=>rfl).sublist List.filter_sublist,h2,fun x hx y hy=>?_⟩
 obtain ⟨z,hz,e⟩:=restF_badge hx
 rw [← e]
 exact h3 z hz y hy
theorem map_only {a b:List LE} {x y:LE} (ha:∀ z ∈ a,z.badge ≠ x.badge) (hb:∀ z ∈ b,z.badge ≠ x.badge):(a ++ x :: b).map (fun z=>if z.badge = x.badge then y else z) = a ++ y :: b:=by
 rw [List.map_append,List.map_cons,if_pos rfl]
 congr 1
 ·exact (List.map_congr_left fun z hz=>if_neg (ha z hz)).trans (List.map_id _)
 ·congr 1
  exact (List.map_congr_left fun z hz=>if_neg (hb z hz)).trans (List.map_id _)
theorem filter_only {a b:List LE} {y:LE} (ha:∀ z ∈ a,z.badge ≠ y.badge) (hb:∀ z ∈ b,z.badge ≠ y.badge):(a ++ y :: b).filter (fun z=>!decide (z.badge = y.badge)) = a ++ b:=by
 rw [List.filter_append,List.filter_cons_of_neg (by simp)]
 congr 1
 ·exact List.filter_eq_self.2 fun z hz=>by simp [ha z hz]
 ·exact List.filter_eq_self.2 fun z hz=>by simp [hb z hz]
theorem tick_set {es:List ME} {ck:Nat} {a b:List LE} {x:LE} (ha:Asc (a ++ x :: b)) (hok:MOk es ck) (h:LsIs es (restF a ++ x :: b)):LsIs (mput es ck x.badge (dec x).val) (restF a ++ dec x :: b):=by
 have hasc:=asc_tick ha
 obtain ⟨h1,h2⟩:=asc_apart hasc
 have:=h.set (y:=dec x) hok (lfind_of hasc (List.mem_append_right _ (List.mem_cons_self ..))) rfl
 rwa [map_only (fun z hz=>Int.ne_of_lt (h1 z hz)) (fun z hz=>(Int.ne_of_lt (h2 z hz)).symm)] at this
theorem tick_del {es:List ME} {ck:Nat} {a b:List LE} {x:LE} (ha:Asc (a ++ x :: b)) (hok:MOk es ck) (h:LsIs es (restF a ++ dec x :: b)):LsIs (mdel es x.badge) (restF a ++ b):=by
 have hasc:=asc_tick ha
 obtain ⟨h1,h2⟩:=asc_apart hasc
 have:=h.del (b:=x.badge) hok
 rwa [filter_only (y:=dec x) (fun z hz=>Int.ne_of_lt (h1 z hz)) (fun z hz=>(Int.ne_of_lt (h2 z hz)).symm)] at this
theorem overF_len (l:List LE):(overF l).length + (restF l).length = l.length:=by
 induction l with
 | nil=>rfl
 | cons x l ih =>
  rw [show x :: l = [x] ++ l from rfl,overF_app,restF_app]
  by_cases h:x.left - 1 = 0
  ·rw [overF_one0 h,restF_one0 h];simp;omega
  ·rw [overF_one1 h,restF_one1 h];simp;omega
theorem LsIs.nil:LsIs [] []:=fun i=>rfl
end Go.Proofs.YtkoelgkghijgiaaGreat.Ls
namespace Go.Proofs.YtkoelgkghijgiaaGreat.Ls
open Go Go.Sep Go.Proofs Go.Proofs.Tryz
set_option maxRecDepth 10000
set_option maxHeartbeats 2000000
set_option synthInstance.maxSize 2000
@[reducible] def ptr (n:Nat):Value:=.pointer (some ⟨n,0,none⟩)
@[reducible] def TB (n m:Nat) (ticks:Int) (es:List ME) (ck:Nat):List Blk:=[(n,cl [.int .i64 ticks,.map (some m)] 191),(m,mpo es ck)]
structure TOk (ticks:Int) (l:List LE) (es:List ME) (ck:Nat):Prop where
 lok:LOk ticks l
 m:MOk es ck
 is_:LsIs es l
theorem TOk.new {ticks:Int} (h1:1 ≤ ticks) (h2:ticks ≤ 256):TOk ticks [] [] 0 :=
 ⟨⟨List.Pairwise.nil,List.nodup_nil,(fun x h=>by cases h),(fun x h=>by cases h),(fun x h=>by cases h),h1,h2⟩,⟨List.nodup_nil,List.nodup_nil,(fun x h=>by cases h)⟩,LsIs.nil⟩
theorem LsIs.renew {es:List ME} {ck:Nat} {l:List LE} {b t:Int} {x:LE} (h:LsIs es l) (hok:MOk es ck) (ha:Asc l) (hx:lfind l b = some x) :
  LsIs (mput es ck b ({ x with left:=t }:LE).val) (l.map fun z=>if z.badge = b then { z with left:=t } else z):=by
 obtain ⟨hm,e⟩:=lfind_mem hx
 subst e
 have:=h.set (y:={ x with left:=t }) hok hx rfl
 have e2:(l.map fun z=>if z.badge = x.badge then ({ x with left:=t }:LE) else z) = l.map fun z=>if z.badge = x.badge then { z with left:=t } else z:=by
  refine List.map_congr_left fun z hz=>?_
  split
  ·rename_i e;rw [ha.eq hz hm e]
  ·rfl
 rwa [e2] at this
theorem new_yes (a:Int) (h1:1 ≤ a) (h2:a ≤ 256):Con prog 189 #[.int .i64 a] [] fun v A=>∃ n m,v = .tuple #[ptr n,.int .i64 0] ∧ A = TB n m a [] 0:=by
 refine zqI (vs:=[_]) func189 ntmps189 fun B=>?_
 repeat' (first|refine Ops.mkM rfl rfl rfl (noPd rfl) (fun b=>?_)|refine Cd.seq ?_|refine Cd.reg ?_|refine Ops.nil ?_|refine Ops.mv rfl rfl rfl rfl ?_|refine Ops.asg rfl rfl rfl rfl ?_|refine Ops.bin rfl rfl rfl rfl rfl ?_|refine Ops.pickF rfl rfl rfl rfl rfl ?_|refine Ops.bld rfl rfl rfl rfl ?_|refine Ops.box rfl rfl rfl rfl (noPd rfl) (fun b=>?_)|refine Cd.skip (Cd.next ?_)|refine Cd.condF rfl zp0 ?_|((fail_if_success refine Ops.probe rfl ?_);refine Ops.gF rfl rfl zp0 ?_))
 exact ze84
theorem renew_spec (n m:Nat) (ticks:Int) (l:List LE) (es:List ME) (ck:Nat) (bd:Int) (h:TOk ticks l es ck):Con prog 150 #[ptr n,.int .i64 bd] (TB n m ticks es ck) fun v A=>v = .int .i64 (renewF ticks l bd).1 ∧ ∃ es' ck',A = TB n m ticks es' ck' ∧ TOk ticks (renewF ticks l bd).2 es' ck':=by
 refine zqI (vs:=[_,_]) func150 ntmps150 fun B=>?_
 have hg:=h.is_ bd
 have hok:=renewF_ok h.lok bd
 unfold renewF at hok ⊢
 cases hf:lfind l bd with
 | none =>
  rw [hf] at hg
  have hg:mget es bd = none:=hg
  rw [if_pos rfl]
  repeat' (first|refine zs6 ?_|refine Ops.alloc rfl rfl rfl (noPd rfl) (fun b=>?_))
  simp only [hg,Option.getD_none,Option.isSome_none]
  refine zg7 ?_
  exact ze85
 | some x =>
  rw [hf] at hg
  have hg:mget es bd = some x.val:=hg
  rw [if_neg (by simp)]
  rw [hf,if_neg (by simp)] at hok
  repeat' (first|refine zs6 ?_|refine Ops.alloc rfl rfl rfl (noPd rfl) (fun b=>?_))
  simp only [hg,Option.getD_some,Option.isSome_some]
  refine zg17 ?_
  refine zdr [qz 0,qz 1,qz 2,qy 3,qz 4,qy 5,(6,2,[])] ?_
  refine zg17 ?_
  exact Cd.ret (ret1 (A':=TB n m ticks (mput es ck bd ({ x with left:=ticks }:LE).val) (mck es ck bd)) rfl (Res.tmp rfl) (fun _ h=>h.split) ⟨rfl,_,_,rfl,hok,h.m.put _ _,h.is_.renew h.m h.lok.asc hf⟩)
theorem drop_spec (n m:Nat) (ticks:Int) (l:List LE) (es:List ME) (ck:Nat) (bd:Int) (h:TOk ticks l es ck):Con prog 263 #[ptr n,.int .i64 bd] (TB n m ticks es ck) fun v A=>v = .int .i64 (dropF l bd).1 ∧ ∃ es' ck',A = TB n m ticks es' ck' ∧ TOk ticks (dropF l bd).2 es' ck':=by
 refine zqI (vs:=[_,_]) func263 ntmps263 fun B=>?_
 have hg:=h.is_ bd
 have hok:=dropF_ok h.lok bd
 unfold dropF at hok ⊢
 cases hf:lfind l bd with
 | none =>
  rw [hf] at hg
  have hg:mget es bd = none:=hg
  rw [if_pos rfl]
  repeat' (first|refine zs6 ?_|refine Ops.alloc rfl rfl rfl (noPd rfl) (fun b=>?_))
  simp only [hg,Option.getD_none,Option.isSome_none]
  refine zg7 ?_
  exact ze85
 | some x =>
  rw [hf] at hg
  have hg:mget es bd = some x.val:=hg
  rw [if_neg (by simp)]
  rw [hf,if_neg (by simp)] at hok
  repeat' (first|refine zs6 ?_|refine Ops.alloc rfl rfl rfl (noPd rfl) (fun b=>?_))
  simp only [hg,Option.getD_some,Option.isSome_some]
  refine zg17 ?_
  exact Cd.ret (ret1 (A':=TB n m ticks (mdel es bd) ck) rfl (Res.tmp rfl) (fun _ h=>h.split) ⟨rfl,_,_,rfl,hok,h.m.del _,h.is_.del h.m⟩)
theorem clone_spec (n mb:Nat) (ticks:Int) (es:List ME) (ck:Nat):Con prog 71 #[ptr n] (TB n mb ticks es ck) fun v A=>∃ n' b',v = ptr n' ∧ A = TB n mb ticks es ck ++ TB n' b' ticks es ck:=by
 refine zqI (vs:=[_]) func71 ntmps71 fun B=>?_
 refine zg0 ?_
 refine zdr [qz 0,qz 1,qz 2,qy 3,qz 4,qz 5,qz 6,qy 7,(8,2,[3]),qz 9,(10,2,[]),qz 11] ?_
 refine zg5 ?_
 refine Ops.call (mclone_spec mb es ck) rfl zp1 rfl rfl rfl (fun v A' hR=>?_)
 obtain ⟨b',rfl,rfl⟩:=hR
 repeat' (first|refine zs0 ?_|refine Ops.box rfl rfl rfl rfl (noPd rfl) (fun b=>?_))
 rename Nat=>nb
 exact Cd.ret (ret1 rfl (Res.tmp rfl) (fun _ h=>(h.split:Sat _ ((n,cl [.int .i64 ticks,.map (some mb)] 191) :: (mb,mpo es ck) :: (nb,cl [.int .i64 ticks,.map (some b')] 191) :: [(b',mpo es ck)]) _)) ⟨nb,b',rfl,rfl⟩)
theorem all_spec (n:Nat):Con prog 53 #[ptr n] [] fun v A=>∃ b,v = .func (.func 95) #[] #[ptr b] ∧ A = [(b,cl [ptr n] 112)]:=by
 refine zqI (vs:=[_]) func53 ntmps53 fun B=>?_
 repeat' (first|refine zs0 ?_|refine Ops.box rfl rfl rfl rfl (noPd rfl) (fun b=>?_))
 exact Cd.ret (ret1 rfl (Res.tmp rfl) (fun _ h=>h) ⟨_,rfl,rfl⟩)
@[reducible] def encL (x:LE):List Value:=[x.val]
theorem take_next {α:Type} {l:List α} {i:Nat} {x:α} (h:l[i]? = some x):l.take i ++ [x] = l.take (i + 1):=by
 rw [List.take_add_one,h];rfl
def Told (l pre:List LE):Prop:=∃ i,i < l.length ∧ pre = l.take (i + 1)
theorem all_iter (n bx m:Nat) (ticks:Int) (l:List LE) (es:List ME) (ck:Nat) (h:TOk ticks l es ck) :
  IterC prog 95 [ptr bx] encL (Told l) (fun xs=>xs = l) [(bx,cl [ptr n] 112)] (TB n m ticks es ck):=by
 intro B0 lp Y Z hG hY C hC
 obtain ⟨F,hp⟩:=hG C hC
 have hfew:=h.lok.few
 have hel:=h.is_.len h.m h.lok.asc
 refine ConB.intro (vs:=[.func (.yield lp) #[] #[],ptr bx]) func95 rfl ntmps95 rfl (fun B hx=>?_)
 refine Cd.blk (A':=(bx,cl [ptr n] 112) :: (TB n m ticks es ck ++ F)) ?_ (fun w hw=>hw.perm (hp.cons _))
 refine zg1 ?_
 refine zqA (mclone_spec m es ck) fun v A' hR=>?_
 obtain ⟨b',rfl,rfl⟩:=hR
 refine zg0 ?_
 refine zqA (keys_spec b') fun v A' hR=>?_
 obtain ⟨kx,rfl,rfl⟩:=hR
 refine Ops.call (sorted_spec _ _ (KeyRow es) (KeyAll es) _ (keys_iter kx b' es ck h.m) (fun pre hpre=>by have:=hpre.len;omega) (fun xs hxs=>by have:=hxs.length_eq;simp at this;omega)) rfl (noPd rfl) rfl rfl rfl (fun v A' hR=>?_)
 obtain ⟨xs,ys,G,hxs,hp2,hs2,hO,rfl⟩:=hR
 obtain rfl:=keys_sorted h.is_ h.m h.lok.asc hxs hp2 hs2
 obtain ⟨a',c',rfl⟩:=hO.form
 have hyl:((l.map LE.badge).map irow).length = l.length:=by simp
 rw [hyl] at hO ⊢
 refine zg1 ?_
 refine Cd.loopK (fun s:Nat × List Blk=>s.1 ≤ l.length ∧ Y (l.take s.1) s.2) (fun s=>[(0,.func (.yield lp) #[] #[]),(3,.map (some b')),(13,.slice a' l.length c'),(14,.int .i64 l.length),(15,.int .i64 s.1)])
  (fun s=>(bx,cl [ptr n] 112) :: (b',mpo es ck) :: (G ++ s.2)) (fun s=>l.length - s.1) (0,C) ⟨Nat.zero_le _,hC⟩ ⟨rfl,rfl,rfl,rfl,rfl,trivial⟩
  (fun w hw=>((hw.split:Sat _ ((bx,cl [ptr n] 112) :: (b',mpo es ck) :: (G ++ ((n,cl [.int .i64 ticks,.map (some m)] 191) :: (m,mpo es ck) :: F))) w).perm ((((hp.symm).append_left G).cons _).cons _))) (fun s hI=>?_)
 obtain ⟨i,C1⟩:=s
 obtain ⟨hi,hYC⟩:=hI
 dsimp only at hi hYC ⊢
 clear hp hC hG
 by_cases hil:i < l.length
 ·obtain ⟨g,c2,spare,he,rfl,hsp,hle⟩:=hO.some_ (by rw [hyl];omega)
  rw [hyl] at he
  injection he with he1 he2 he3
  subst he1;subst he3
  obtain ⟨x,hxi⟩:∃ x,l[i]? = some x:=⟨_,List.getElem?_eq_getElem hil⟩
  have hr:((l.map LE.badge).map irow)[(i:Int).toNat]? = some [.int .i64 x.badge]:=by
   rw [Int.toNat_natCast,List.getElem?_map,List.getElem?_map,hxi];rfl
  have hk:=irows_ok (l.map LE.badge)
  have hg:mget es x.badge = some x.val:=by rw [h.is_,lfind_of h.lok.asc (List.mem_of_getElem? hxi)];rfl
  refine zg14 ?_
  simp only [hg,Option.getD_some]
  refine Ops.callY (hY _ x ⟨i,hil,take_next hxi⟩ C1 hYC) hx rfl (noPd rfl) rfl rfl rfl rfl (fun v A' hR=>?_)
  rcases hR with ⟨rfl,hY'⟩|⟨rfl,hZ⟩
  ·refine zg13 ?_
   rw [take_next hxi] at hY'
   exact Ops.nilN (round_end (i + 1,A') ⟨by show i + 1 ≤ l.length;omega,hY'⟩ zp15 ⟨rfl,rfl,rfl,rfl,rfl,trivial⟩
    (fun w h=>(h.split:Sat _ ((bx,cl [ptr n] 112) :: (b',mpo es ck) :: ([(g,cl (((l.map LE.badge).map irow).flatten ++ spare) 3)] ++ A')) w)))
  ·refine zg4 ?_
   exact Cd.ret (ret0 (A':=[(bx,cl [ptr n] 112)] ++ A') rfl (fun w h=>h.split) ⟨A',.inr ⟨_,hZ⟩,rfl⟩)
 ·rw [List.take_of_length_le (by omega)] at hYC
  refine zg2 ?_
  exact Cd.exit (end0 (A':=[(bx,cl [ptr n] 112)] ++ C1) rfl (fun w h=>h.split) ⟨C1,.inl ⟨_,rfl,hYC⟩,rfl⟩)
theorem lrows_ok (l:List LE):RowsOk 5 (l.map LE.row):=rows_map (f:=LE.row) (fun _=>⟨rfl,rfl⟩) l
theorem told_inv {l pre:List LE} {x:LE} (h:Told l (pre ++ [x])):∃ i,pre = l.take i ∧ l[i]? = some x ∧ pre.length = i:=by
 obtain ⟨i,hi,h⟩:=h
 obtain ⟨d,hd⟩:∃ d,l[i]? = some d:=⟨_,List.getElem?_eq_getElem hi⟩
 rw [← take_next hd] at h
 obtain ⟨h1,h2⟩:=List.append_inj' h rfl
 injection h2 with h2
 subst h2
 exact ⟨i,h1,hd,by rw [h1,List.length_take];omega⟩
theorem told_split {l pre:List LE} {x:LE} (h:Told l (pre ++ [x])):l = pre ++ x :: l.drop (pre.length + 1) ∧ l.drop pre.length = x :: l.drop (pre.length + 1):=by
 obtain ⟨i,h1,h2,h3⟩:=told_inv h
 obtain ⟨a,b⟩:=List.getElem?_eq_some_iff.1 h2
 have e:l.drop pre.length = x :: l.drop (pre.length + 1):=by
  rw [h3,List.drop_eq_getElem_cons a,b]
 refine ⟨?_,e⟩
 rw [← e,h3]
 conv=>lhs;rw [← List.take_append_drop i l,← h1]
def Clash (job badge:Int) (x:LE):Prop:=x.job = job ∨ x.badge = badge
@[reducible] def GB (b8 b7 b6 b5 n m:Nat) (ticks job badge node life e:Int) (es:List ME) (ck:Nat):List Blk :=
 (b8,cl [.int .i64 e] 29) :: (b7,cl [.int .i64 node,.int .i64 life] 33) :: (b6,cl [.int .i64 badge] 3) :: (b5,cl [.int .i64 job] 3) :: TB n m ticks es ck
theorem grant_bad (n m:Nat) (ticks:Int) (es:List ME) (ck:Nat) (job badge node life:Int) (h:job < 1 ∨ 8 < job ∨ badge < 1 ∨ 1099511627776 < badge):Con prog 192 #[ptr n,.int .i64 job,.int .i64 badge,.agg [.int .i64 node,.int .i64 life].toArray] (TB n m ticks es ck) fun v A=>v = .int .i64 1 ∧ A = TB n m ticks es ck:=by
 refine zqI (vs:=[_,_,_,_]) func192 ntmps192 fun B=>?_
 by_cases h1:job < 1
 ·repeat' (first|refine Cd.seq ?_|refine Cd.reg ?_|refine Ops.nil ?_|refine Ops.mv rfl rfl rfl rfl ?_|refine Ops.ld1 rfl rfl rfl rfl rfl ?_|refine Ops.bin rfl rfl rfl rfl rfl ?_|refine Ops.pickT rfl rfl rfl rfl rfl ?_|refine Ops.box rfl rfl rfl rfl (noPd rfl) (fun b=>?_)|refine Ops.alloc rfl rfl rfl (noPd rfl) (fun b=>?_)|refine Ops.st1 rfl rfl rfl rfl rfl (noPd rfl) ?_|refine Ops.gSkip rfl rfl rfl ?_|refine Cd.condT rfl rfl ?_|((fail_if_success refine Ops.probe rfl ?_);refine Ops.gT rfl rfl zp0 ?_))
  exact ze86
 ·by_cases h2:8 < job
  ·repeat' (first|refine Cd.seq ?_|refine Cd.reg ?_|refine Ops.nil ?_|refine Ops.mv rfl rfl rfl rfl ?_|refine Ops.ld1 rfl rfl rfl rfl rfl ?_|refine Ops.bin rfl rfl rfl rfl rfl ?_|refine Ops.pickT rfl rfl rfl rfl rfl ?_|refine Ops.pickF rfl rfl rfl rfl rfl ?_|refine Ops.box rfl rfl rfl rfl (noPd rfl) (fun b=>?_)|refine Ops.alloc rfl rfl rfl (noPd rfl) (fun b=>?_)|refine Ops.st1 rfl rfl rfl rfl rfl (noPd rfl) ?_|refine Ops.gSkip rfl rfl rfl ?_|refine Cd.condT rfl rfl ?_|((fail_if_success refine Ops.probe rfl ?_);refine Ops.gT rfl rfl zp0 ?_)|((fail_if_success refine Ops.probe rfl ?_);refine Ops.gF rfl rfl zp0 ?_))
   exact ze86
  ·by_cases h3:badge < 1
   ·repeat' (first|refine Cd.seq ?_|refine Cd.reg ?_|refine Ops.nil ?_|refine Ops.mv rfl rfl rfl rfl ?_|refine Ops.ld1 rfl rfl rfl rfl rfl ?_|refine Ops.bin rfl rfl rfl rfl rfl ?_|refine Ops.pickT rfl rfl rfl rfl rfl ?_|refine Ops.pickF rfl rfl rfl rfl rfl ?_|refine Ops.box rfl rfl rfl rfl (noPd rfl) (fun b=>?_)|refine Ops.alloc rfl rfl rfl (noPd rfl) (fun b=>?_)|refine Ops.st1 rfl rfl rfl rfl rfl (noPd rfl) ?_|refine Ops.gSkip rfl rfl rfl ?_|refine Cd.condT rfl rfl ?_|((fail_if_success refine Ops.probe rfl ?_);refine Ops.gT rfl rfl zp0 ?_)|((fail_if_success refine Ops.probe rfl ?_);refine Ops.gF rfl rfl zp0 ?_))
    exact ze86
   ·have h4:1099511627776 < badge:=by omega
    repeat' (first|refine Cd.seq ?_|refine Cd.reg ?_|refine Ops.nil ?_|refine Ops.mv rfl rfl rfl rfl ?_|refine Ops.ld1 rfl rfl rfl rfl rfl ?_|refine Ops.bin rfl rfl rfl rfl rfl ?_|refine Ops.pickF rfl rfl rfl rfl rfl ?_|refine Ops.box rfl rfl rfl rfl (noPd rfl) (fun b=>?_)|refine Ops.alloc rfl rfl rfl (noPd rfl) (fun b=>?_)|refine Ops.st1 rfl rfl rfl rfl rfl (noPd rfl) ?_|refine Cd.condT rfl zp0 ?_|((fail_if_success refine Ops.probe rfl ?_);refine Ops.gF rfl rfl zp0 ?_))
    exact ze86
theorem grant_ok (n m:Nat) (ticks:Int) (l:List LE) (es:List ME) (ck:Nat) (job badge node life:Int) (h:TOk ticks l es ck) (h1:¬ job < 1) (h2:¬ 8 < job) (h3:¬ badge < 1) (h4:¬ 1099511627776 < badge):Con prog 192 #[ptr n,.int .i64 job,.int .i64 badge,.agg [.int .i64 node,.int .i64 life].toArray] (TB n m ticks es ck)
  fun v A=>(v = .int .i64 121 ∧ A = TB n m ticks es ck ∧ ∃ x ∈ l,Clash job badge x) ∨ (v = .int .i64 0 ∧ (∀ x ∈ l,¬ Clash job badge x) ∧ A = TB n m ticks (mput es ck badge (LE.mk job badge node life ticks).val) (mck es ck badge)):=by
 refine zqI (vs:=[_,_,_,_]) func192 ntmps192 fun B=>?_
 refine Cd.seq ?_
 refine Cd.reg ?_
 refine Ops.box rfl rfl rfl rfl (noPd rfl) (fun b5=>?_)
 refine Ops.box rfl rfl rfl rfl (noPd rfl) (fun b6=>?_)
 refine Ops.box rfl rfl rfl rfl (noPd rfl) (fun b7=>?_)
 refine Ops.alloc rfl rfl rfl (noPd rfl) (fun b8=>?_)
 refine zg8 ?_
 refine zqA (all_spec n) fun v A' hR=>?_
 obtain ⟨bA,rfl,rfl⟩:=hR
 refine zg1 ?_
 refine Cd.range (X:=LE) (C0:=GB b8 b7 b6 b5 n m ticks job badge node life 0 es ck) (all_iter n bA m ticks l es ck h) rfl rfl (ps:=[26]) rfl (fun _=>rfl)
  (fun pre C=>(∀ x ∈ pre,¬ Clash job badge x) ∧ C = GB b8 b7 b6 b5 n m ticks job badge node life 0 es ck)
  (fun c _ C=>c = Code.ret ∧ (∃ x ∈ l,Clash job badge x) ∧ C = GB b8 b7 b6 b5 n m ticks job badge node life 121 es ck)
  (fun pre x T C=>(∀ x ∈ pre,¬ Clash job badge x) ∧ Told l (pre ++ [x]) ∧ ∃ b9,T = [(0,ptr n),(5,ptr b5),(6,ptr b6),(7,ptr b7),(8,ptr b8),(9,ptr b9)] ∧ C = (b9,cl x.row 71) :: GB b8 b7 b6 b5 n m ticks job badge node life 0 es ck)
  (fun w hw=>(hw.split:Sat _ ((bA,cl [ptr n] 112) :: GB b8 b7 b6 b5 n m ticks job badge node life 0 es ck) w))
  ⟨(fun x hx=>by cases hx),rfl⟩
  (fun C hC=>⟨(b8,cl [.int .i64 0] 29) :: (b7,cl [.int .i64 node,.int .i64 life] 33) :: (b6,cl [.int .i64 badge] 3) :: [(b5,cl [.int .i64 job] 3)],by
   obtain ⟨_,rfl⟩:=hC
   exact (Split.perm (A:=GB b8 b7 b6 b5 n m ticks job badge node life 0 es ck) (A1:=TB n m ticks es ck))⟩)
  ?_ ?_ ?_ ?_
 ·rintro B2 pre x C hx hok ⟨hno,rfl⟩
  repeat' (first|refine zs0 ?_|refine Ops.alloc rfl rfl rfl (noPd rfl) (fun b=>?_))
  exact Ops.nilN (asg_end ⟨hno,hok,_,rfl,rfl⟩ (fun a hF=>hF.keeps ⟨rfl,rfl,rfl,rfl,rfl,rfl,trivial⟩) (fun w h=>h))
 ·rintro lp r B2 pre x T C hro hlp hx hok ⟨hno,htold,b9,rfl,rfl⟩
  have hmem:x ∈ l:=by
   obtain ⟨i,_,hi,_⟩:=told_inv htold
   exact List.mem_of_getElem? hi
  by_cases hc:Clash job badge x
  ·by_cases hj:x.job = job
   ·refine zg18 ?_
    exact ze87
   ·have hb:x.badge = badge:=hc.resolve_left hj
    refine zg8 ?_
    exact ze87
  ·have hj:¬ x.job = job:=fun e=>hc (.inl e)
   have hb:¬ x.badge = badge:=fun e=>hc (.inr e)
   refine zg8 ?_
   exact Cd.skip (inB (rnd_next ⟨fun y hy=>by
    rcases List.mem_append.1 hy with hy|hy
    ·exact hno y hy
    ·obtain rfl:=List.mem_singleton.1 hy
     exact hc,rfl⟩ (fun w h=>h.tail)))
 ·rintro D xs C hD rfl ⟨hno,rfl⟩
  have hroom:=h.lok.room (j:=job) (by omega) (by omega) fun x hx e=>hno x hx (.inl e)
  have hel:=h.is_.len h.m h.lok.asc
  refine Cd.next (Q':=fun _ _ _=>True) ?_
  refine zg8 ?_
  refine zdr [qz 0,qz 1,qz 2,qy 3,qy 4,qy 5,qy 6,qy 7,qz 8,qz 9,qz 10,qy 11,qz 12,(13,2,[])] ?_
  refine zg17 ?_
  exact Cd.ret (unmark (mark1 hD) (ret1 (A':=TB n m ticks (mput es ck badge (LE.mk job badge node life ticks).val) (mck es ck badge)) rfl (Res.cell1 rfl rfl) (fun w h=>h.split) (.inr ⟨rfl,hno,rfl⟩)))
 ·rintro D c pre C hD ⟨rfl,hcl,rfl⟩
  exact Cd.ret (inBr (unmark (mark1 hD) (ret1 (A':=TB n m ticks es ck) rfl (Res.cell1 rfl rfl) (fun w h=>h.split) (.inl ⟨rfl,rfl,hcl⟩))))
theorem grant_spec (n m:Nat) (ticks:Int) (l:List LE) (es:List ME) (ck:Nat) (job badge node life:Int) (h:TOk ticks l es ck):Con prog 192 #[ptr n,.int .i64 job,.int .i64 badge,.agg [.int .i64 node,.int .i64 life].toArray] (TB n m ticks es ck)
  fun v A=>v = .int .i64 (grantF ticks l job badge node life).1 ∧ ∃ es' ck',A = TB n m ticks es' ck' ∧ TOk ticks (grantF ticks l job badge node life).2 es' ck':=by
 have hok:=grantF_ok h.lok job badge node life
 unfold grantF at hok ⊢
 split
 ·rename_i hb
  exact (grant_bad n m ticks es ck job badge node life hb).mono fun v A ⟨e1,e2⟩=>⟨e1,es,ck,e2,h⟩
 ·rename_i hb
  rw [if_neg hb] at hok
  refine (grant_ok n m ticks l es ck job badge node life h (by omega) (by omega) (by omega) (by omega)).mono fun v A hR=>?_
  rcases hR with ⟨rfl,rfl,hc⟩|⟨rfl,hc,rfl⟩
  ·have hc':∃ x ∈ l,x.job = job ∨ x.badge = badge:=hc
   rw [if_pos hc']
   exact ⟨rfl,es,ck,rfl,h⟩
  ·have hc':¬ ∃ x ∈ l,x.job = job ∨ x.badge = badge:=fun ⟨x,hx,e⟩=>hc x hx e
   rw [if_neg hc'] at hok ⊢
   exact ⟨rfl,_,_,rfl,hok,h.m.put _ _,h.is_.ins (x:=LE.mk job badge node life ticks) h.m h.lok.asc fun y hy e=>hc y hy (.inr e)⟩
theorem clip_spec (sv:Value) (rows:List (List Value)) (G:List Blk) (h:Own 71 5 sv rows G):Con prog 51 #[sv] [] fun v A=>Rs 71 5 v rows G ∧ A = []:=by
 refine zqI (vs:=[_]) func51 ntmps51 fun B=>?_
 rcases h.2 with ⟨rfl,rfl,rfl⟩|⟨g,c,sp,rfl,rfl,hsp,hle⟩
 ·refine zg1 ?_
  refine Ops.slHM rfl rfl rfl rfl rfl (by omega) (by omega) (by omega) rfl ?_
  refine zg0 ?_
  exact Cd.ret (ret1 rfl (Res.tmp rfl) (fun w h=>h) ⟨⟨h.1,.inl ⟨rfl,rfl,rfl⟩⟩,rfl⟩)
 ·refine zg1 ?_
  refine Ops.slHM rfl rfl rfl rfl rfl (by omega) (by omega) (by omega) rfl ?_
  refine zg0 ?_
  exact Cd.ret (ret1 rfl (Res.tmp rfl) (fun w h=>h) ⟨⟨h.1,.inr ⟨g,rows.length,sp,by simp,rfl⟩⟩,rfl⟩)
@[reducible] def TkB (b3 b1 n m:Nat) (ticks:Int) (es:List ME) (ck:Nat) (sv:Value) (G:List Blk):List Blk :=
 (b3,cl [sv] 53) :: (b1,cl [ptr n] 112) :: (TB n m ticks es ck ++ G)
def TkI (ticks:Int) (l pre:List LE) (es:List ME) (ck:Nat) (sv:Value) (G:List Blk):Prop :=
 MOk es ck ∧ LsIs es (restF pre ++ l.drop pre.length) ∧ Own 71 5 sv ((overF pre).map LE.row) G
theorem tick_spec (n m:Nat) (ticks:Int) (l:List LE) (es:List ME) (ck:Nat) (h:TOk ticks l es ck):Con prog 72 #[ptr n] (TB n m ticks es ck)
  fun v A=>∃ es' ck' G,Rs 71 5 v ((overF l).map LE.row) G ∧ A = TB n m ticks es' ck' ++ G ∧ TOk ticks (restF l) es' ck':=by
 have hfew:=h.lok.few
 refine zqI (vs:=[_]) func72 ntmps72 fun B=>?_
 refine Cd.seq ?_
 refine Cd.reg ?_
 refine Ops.box rfl rfl rfl rfl (noPd rfl) (fun b1=>?_)
 repeat' (first|refine zs0 ?_|refine Ops.alloc rfl rfl rfl (noPd rfl) (fun b=>?_))
 rename Nat=>b3
 refine zqA (all_spec n) fun v A' hR=>?_
 obtain ⟨bA,rfl,rfl⟩:=hR
 refine zg1 ?_
 refine Cd.range (X:=LE) (C0:=TkB b3 b1 n m ticks es ck (.slice none 0 0) []) (all_iter n bA m ticks l es ck h) rfl rfl (ps:=[7]) rfl (fun _=>rfl)
  (fun pre C=>∃ es' ck' sv G,TkI ticks l pre es' ck' sv G ∧ (pre = [] → C = TkB b3 b1 n m ticks es ck (.slice none 0 0) []) ∧ C = TkB b3 b1 n m ticks es' ck' sv G)
  (fun _ _ _=>False)
  (fun pre x T C=>Told l (pre ++ [x]) ∧ ∃ es' ck' sv G b4,TkI ticks l pre es' ck' sv G ∧ T = [(1,ptr b1),(3,ptr b3),(4,ptr b4)] ∧ C = (b4,cl x.row 71) :: TkB b3 b1 n m ticks es' ck' sv G)
  (fun w hw=>(hw.split:Sat _ ((bA,cl [ptr n] 112) :: (b3,cl [.slice none 0 0] 53) :: (b1,cl [ptr n] 112) :: TB n m ticks es ck) w))
  ⟨es,ck,.slice none 0 0,[],⟨h.m,h.is_,Own.none⟩,fun _=>rfl,rfl⟩
  (fun C ⟨_,_,_,_,_,hC,_⟩=>⟨(b3,cl [.slice none 0 0] 53) :: [(b1,cl [ptr n] 112)],by
   rw [hC rfl]
   exact (Split.perm (A:=(b3,cl [.slice none 0 0] 53) :: (b1,cl [ptr n] 112) :: (TB n m ticks es ck ++ [])) (A1:=TB n m ticks es ck))⟩)
  ?_ ?_ ?_ ?_
 ·rintro B2 pre x C hx hok ⟨es',ck',sv,G,hI,_,rfl⟩
  repeat' (first|refine zs0 ?_|refine Ops.alloc rfl rfl rfl (noPd rfl) (fun b=>?_))
  exact Ops.nilN (asg_end ⟨hok,es',ck',sv,G,_,hI,rfl,rfl⟩ (fun a hF=>hF.keeps ⟨rfl,rfl,rfl,trivial⟩) (fun w h=>h))
 ·rintro lp r B2 pre x T C hro hlp hx hok ⟨htold,es',ck',sv,G,b4,⟨hm,hls,hO⟩,rfl,rfl⟩
  obtain ⟨hsp1,hsp2⟩:=told_split htold
  have hmem:x ∈ l:=by rw [hsp1];simp
  have hleft:=h.lok.left0 x hmem
  have ht1:=h.lok.t1
  have hasc:Asc (pre ++ x :: l.drop (pre.length + 1)):=hsp1 ▸ h.lok.asc
  rw [hsp2] at hls
  have h9:=tick_set hasc hm hls
  have hm9:=hm.put (ck:=ck') x.badge (dec x).val
  have hpl:(overF pre).length ≤ 8:=by
   have h1:=overF_len pre
   have h2:=congrArg List.length hsp1
   simp at h2
   omega
  obtain ⟨sa,sc,rfl⟩:=hO.form
  have hdl:l.drop (pre ++ [x]).length = l.drop (pre.length + 1):=by rw [List.length_append];rfl
  by_cases hz:x.left - 1 = 0
  ·have h8:=tick_del hasc hm9 h9
   have hm8:=hm9.del x.badge
   refine zg11 ?_
   refine zdr [qy 0,qz 1,qz 2,qy 3,qz 4,qy 5,qy 6,(7,2,[])] ?_
   refine zg15 ?_
   refine zdr [qy 0,qz 1,qz 2,qy 3,qz 4,qy 5,(6,2,[])] ?_
   repeat' (first|refine zs6 ?_|refine Ops.bs1 rfl rfl rfl rfl rfl rfl rfl (noPd rfl) (fun b=>?_))
   refine Ops.app1 (rows:=(overF pre).map LE.row) hO (by rw [List.length_map];omega) (by rw [List.length_map];omega) rfl rfl rfl rfl (by rfl) (by rfl) rfl (noPd rfl) rfl (fun v G' hG'=>?_)
   obtain ⟨a',c',rfl⟩:=hG'.form
   refine zg5 ?_
   exact Ops.nilN (inB (rnd_next ⟨mdel (mput es' ck' x.badge (dec x).val) x.badge,mck es' ck' x.badge,_,G',⟨hm8,by rw [hdl,restF_app,restF_one0 hz,List.append_nil];exact h8,by
    rw [overF_app,overF_one0 hz,List.map_append];exact hG'⟩,fun e=>by simp at e,rfl⟩ (fun w h=>h.split)))
  ·refine zg11 ?_
   refine zdr [qy 0,qz 1,qz 2,qy 3,qz 4,qy 5,qy 6,(7,2,[])] ?_
   refine zg8 ?_
   exact Cd.skip (inB (rnd_next ⟨mput es' ck' x.badge (dec x).val,mck es' ck' x.badge,_,G,⟨hm9,by rw [hdl,restF_app,restF_one1 hz,List.append_assoc];exact h9,by
    rw [overF_app,overF_one1 hz,List.append_nil];exact hO⟩,fun e=>by simp at e,rfl⟩ (fun w h=>h.tail)))
 ·rintro D xs C hD rfl ⟨es',ck',sv,G,⟨hm,hls,hO⟩,_,rfl⟩
  rw [List.drop_length,List.append_nil] at hls
  obtain ⟨sa,sc,rfl⟩:=hO.form
  refine Cd.next (Q':=fun _ _ _=>True) ?_
  refine zg1 ?_
  refine Ops.call (clip_spec _ _ G hO) rfl (noPd rfl) rfl rfl rfl (fun v A' hR=>?_)
  obtain ⟨hRs,rfl⟩:=hR
  obtain ⟨va,vc,rfl⟩:=hRs.form
  refine zg0 ?_
  exact Cd.ret (unmark (mark1 hD) (ret1 (A':=TB n m ticks es' ck' ++ G) rfl (Res.tmp rfl) (fun w h=>h.split) ⟨es',ck',G,hRs,rfl,restF_ok h.lok,hm,hls⟩))
 ·rintro D c pre C hD hZ
  exact hZ.elim
end Go.Proofs.YtkoelgkghijgiaaGreat.Ls
namespace Go.Sep
open Go
section
variable {P:Program} {N:Fi} {B:Base} {Q:Exit → Act → World → Prop} {T:Tm} {A:List Blk} {ops:Array Oper} {l:List Oper}
variable {d:Nat} {ty:TypeId} {pos:String} {af:Array Edge} {m:Md} {gd:Option (Nat × Bool)}
theorem Ops.fld {s f off:Nat} {x:Operand} {vs:List Value} {v:Value} (hf:∃ (fields:Array Field) (fd:Field) (dd:TypeDesc),P.underlying s = some (.struct fields) ∧ fields[f]? = some fd ∧ P.underlying fd.type = some dd ∧ aggD dd = false ∧ fd.offset = off)
  (hm:m.rd true = true) (hg:gst ops T gd = some true) (hx:ev T x = some (.agg vs.toArray)) (hv:vs[off]? = some v) (hd:Nat.blt d N.n = true)
  (k:Ops P N B Q ops m.tl l ((d,v) :: T) A):Ops P N B Q ops m (⟨some d,.field s x f,ty,pos,af,gd⟩ :: l) T A :=
 Ops.pureV hm hg hd (fun a w hF=>by
  obtain ⟨fields,fd,dd,h1,h2,h3,h4,h5⟩:=hf
  have h6:(isAgg fd.type).run P w = .ok false w:=by
   simp only [isAgg,Sem.run_bind,run_underlying h3 w,Result.andThen_ok]
   cases dd <;> first|rfl|cases h4
  simp [execOp,hF.eval hx,Instr.field,run_underlying h1,h2,part,asAgg,h6,h5,hv]) k
end
section
variable {P:Program}
theorem eqIn_ifaceNil {t:TypeId} {d0:TypeDesc} [h:TyD P t d0] (hi:∃ m,d0 = .interface m) {w:World} (d:Nat):(Op.equalIn (d + 1) t .nilIface .nilIface).run P w = .ok true w:=by
 obtain ⟨m,rfl⟩:=hi
 simp [Op.equalIn,h.run_und]
theorem run_eqGuard_iface {t:TypeId} {xo:Operand} {v:Value} {w:World}:(eqGuard .eql t xo (.const v) .nilIface .nilIface).run P w = .ok () w:=by
 unfold eqGuard
 simp
variable {N:Fi} {B:Base} {Q:Exit → Act → World → Prop} {T:Tm} {A:List Blk} {ops:Array Oper} {l:List Oper}
variable {d:Nat} {ty:TypeId} {pos:String} {af:Array Edge} {m:Md} {gd:Option (Nat × Bool)}
theorem Ops.eqIfaceNil {t t':TypeId} {d0:TypeDesc} {x:Operand} [h:TyD P t d0] (hi:∃ m,d0 = .interface m) (hm:m.rd true = true) (hg:gst ops T gd = some true) (hx:ev T x = some .nilIface) (hd:Nat.blt d N.n = true)
  (k:Ops P N B Q ops m.tl l ((d,.bool true) :: T) A):Ops P N B Q ops m (⟨some d,.binOp .eql t x (.const .nilIface) t',ty,pos,af,gd⟩ :: l) T A :=
 Ops.pureV hm hg hd (fun a w hF=>by
  have h1:(binOp .eql t .nilIface .nilIface).run P w = .ok (.bool true) w:=run_eql rfl fun d=>eqIn_ifaceNil hi d
  have hy:a.eval (.const .nilIface) = .nilIface:=rfl
  simp only [execOp,hF.eval hx,hy,Sem.run_bind,run_eqGuard_iface,Result.andThen_ok,h1]
  rfl) k
end
end Go.Sep
namespace Go.Proofs.YtkoelgkghijgiaaGreat.Se
open Go Go.Sep Go.Proofs Go.Proofs.Tryz
set_option maxRecDepth 10000
set_option maxHeartbeats 1000000
structure Dk where
 slot:Int
 life:Int
 session:Int
 last:Int
 reply:ByteArray
@[reducible] def Dk.row (d:Dk):List Value:=[.int .i64 d.slot,.int .i64 d.life,.int .i64 d.session,.int .i64 d.last,.string d.reply]
@[reducible] def Dk.zero (i:Int):Dk:=⟨i,0,0,0,⟨#[]⟩⟩
def dks (rs:List Dk):List (List Value):=rs.map Dk.row
theorem dks_len (rs:List Dk):(dks rs).length = rs.length:=by simp [dks]
theorem dks_ok (rs:List Dk):RowsOk 5 (dks rs):=fun r hr=>by
 obtain ⟨d,_,rfl⟩:=List.mem_map.1 hr
 exact ⟨rfl,rfl⟩
def OwnK (sv:Value) (rs:List Dk) (G:List Blk):Prop:=Own 76 5 sv (dks rs) G
@[reducible] def TabB (n:Nat) (sv:Value) (G:List Blk):List Blk:=(n,cl [sv] 184) :: G
theorem OwnK.form {sv:Value} {rs:List Dk} {G:List Blk} (h:OwnK sv rs G):∃ a c,sv = .slice a rs.length c:=by
 obtain ⟨a,c,h⟩:=Own.form h
 exact ⟨a,c,by rw [h,dks_len]⟩
theorem OwnK.some_ {sv:Value} {rs:List Dk} {G:List Blk} (h:OwnK sv rs G) (hn:0 < rs.length) :
  ∃ g c spare,sv = .slice (some ⟨g,0,none⟩) rs.length c ∧ G = [(g,cl ((dks rs).flatten ++ spare) 76)] ∧ (dks rs).flatten.length + spare.length = c * 5 ∧ rs.length ≤ c:=by
 obtain ⟨g,c,spare,h1,h2,h3,h4⟩:=Own.some_ h (by rw [dks_len];exact hn)
 rw [dks_len] at h1 h4
 exact ⟨g,c,spare,h1,h2,h3,h4⟩
structure NtS where
 i:Nat
 sv:Value
 G:List Blk
def fresh (k:Nat):List Dk:=(List.range k).map fun i:Nat=>Dk.zero (i:Int)
theorem fresh_app (k:Nat) {v:Value} {G:List Blk} (h:Own 76 5 v (dks (fresh k) ++ [[.int .i64 (k:Int),.int .i64 0,.int .i64 0,.int .i64 0,.string ⟨#[]⟩]]) G):∃ a c,v = .slice a (k + 1) c ∧ OwnK v (fresh (k + 1)) G:=by
 have h':OwnK v (fresh (k + 1)) G:=by
  unfold OwnK
  have:dks (fresh (k + 1)) = dks (fresh k) ++ [[.int .i64 (k:Int),.int .i64 0,.int .i64 0,.int .i64 0,.string ⟨#[]⟩]]:=by simp [dks,fresh,List.range_succ]
  rw [this];exact h
 obtain ⟨a,c,e⟩:=h'.form
 exact ⟨a,c,by rw [e];simp [fresh],h'⟩
theorem newt_yes (r:Nat) (h1:1 ≤ r) (h2:r ≤ 8):Con prog 190 #[.int .i64 r] [] fun v A=>∃ b sv G,v = .tuple #[ptr b,.int .i64 0] ∧ A = TabB b sv G ∧ OwnK sv (fresh r) G:=by
 refine zqI (vs:=[_]) func190 ntmps190 fun B=>?_
 repeat' (first|refine Cd.seq ?_|refine Cd.reg ?_|refine Ops.nil ?_|refine Ops.mv rfl rfl rfl rfl ?_|refine Ops.asg rfl rfl rfl rfl ?_|refine Ops.bin rfl rfl rfl rfl rfl ?_|refine Ops.pickF rfl rfl rfl rfl rfl ?_|refine Ops.bld rfl rfl rfl rfl ?_|refine Ops.box rfl rfl rfl rfl (noPd rfl) (fun b=>?_)|refine Cd.block ?_|refine Cd.skip (Cd.next ?_)|refine Cd.condF rfl zp0 ?_|((fail_if_success refine Ops.probe rfl ?_);refine Ops.gF rfl rfl zp0 ?_))
 rename Nat=>tb
 refine Cd.loopK (fun s:NtS=>s.i ≤ r ∧ OwnK s.sv (fresh s.i) s.G) (fun s=>[(4,ptr tb),(14,.int .i64 r),(15,.int .i64 s.i)]) (fun s=>TabB tb s.sv s.G) (fun s=>r - s.i) ⟨0,.slice none 0 0,[]⟩ ⟨Nat.zero_le _,(Own.none:OwnK _ [] _)⟩ ⟨rfl,rfl,rfl,trivial⟩
  (fun w h=>(h.split:Sat _ (TabB tb (.slice none 0 0) []) w)) (fun s hI=>?_)
 obtain ⟨i,sv,G⟩:=s
 obtain ⟨hi,hO⟩:=hI
 dsimp only at hi hO ⊢
 by_cases hil:i < r
 ·repeat' (first|refine zs5 ?_|refine Ops.bs1 rfl rfl rfl rfl rfl rfl rfl (noPd rfl) (fun b=>?_))
  refine Ops.app1 (rows:=dks (fresh i)) hO (by rw [dks_len];simp [fresh];omega) (by rw [dks_len];simp [fresh];omega) rfl rfl rfl rfl (by rfl) (by rfl) rfl (noPd rfl) rfl (fun v G' hG'=>?_)
  obtain ⟨a,c,rfl,hG'⟩:=fresh_app i hG'
  refine zg9 ?_
  exact Ops.nilN (round_end (⟨i + 1,_,G'⟩:NtS) ⟨by show i + 1 ≤ r;omega,hG'⟩ (by show r - (i + 1) < r - i;omega) ⟨rfl,rfl,rfl,trivial⟩ (fun w h=>(h.split:Sat _ (TabB tb (.slice a (i + 1) c) G') w)))
 ·obtain rfl:i = r:=by omega
  refine zg2 ?_
  exact Cd.ret (ret2 rfl (Res.tmp rfl) (Res.tmp rfl) (fun _ h=>h) ⟨_,_,_,rfl,rfl,hO⟩)
def hasB (slot:Int) (k:Nat):Bool:=decide (0 ≤ slot ∧ slot < k)
theorem has_spec (n:Nat) (sv:Value) (rs:List Dk) (G:List Blk) (slot:Int) (hO:OwnK sv rs G):Con prog 214 #[ptr n,.int .i64 slot] (TabB n sv G) fun v A=>v = .bool (hasB slot rs.length) ∧ A = TabB n sv G:=by
 obtain ⟨a,c,rfl⟩:=hO.form
 refine zqI (vs:=[_,_]) func214 ntmps214 fun B=>?_
 repeat' (first|refine zs6 ?_|((fail_if_success refine Ops.probe rfl ?_);refine Ops.gSplit rfl rfl (fun hc=>?_) (fun hc=>?_) <;> (try simp only [decide_eq_true_eq,decide_eq_false_iff_not,Bool.not_eq_true',Bool.not_eq_false',Bool.not_eq_eq_eq_not,Bool.not_true,Bool.not_false,Int.not_lt,Int.not_le] at hc)))
 all_goals refine Cd.ret (ret1 rfl (Res.tmp rfl) (fun _ h=>h) ⟨?_,rfl⟩)
 all_goals (unfold hasB;refine congrArg Value.bool ?_;first|(simp only [decide_eq_decide];omega)|(symm;simp only [decide_eq_true_eq,decide_eq_false_iff_not];omega))
def cntB (n:Int):Bool:=decide (1 ≤ n ∧ n ≤ 1099511627776)
theorem counts_spec (x:Int):Con prog 215 #[.int .i64 x] [] fun v A=>v = .bool (cntB x) ∧ A = []:=by
 refine zqI (vs:=[_]) func215 ntmps215 fun B=>?_
 repeat' (first|refine zs6 ?_|((fail_if_success refine Ops.probe rfl ?_);refine Ops.gSplit rfl rfl (fun hc=>?_) (fun hc=>?_) <;> (try simp only [decide_eq_true_eq,decide_eq_false_iff_not,Bool.not_eq_true',Bool.not_eq_false',Bool.not_eq_eq_eq_not,Bool.not_true,Bool.not_false,Int.not_lt,Int.not_le] at hc)))
 all_goals refine Cd.ret (ret1 rfl (Res.tmp rfl) (fun _ h=>h) ⟨?_,rfl⟩)
 all_goals (unfold cntB;refine congrArg Value.bool ?_;first|(simp only [decide_eq_decide];omega)|(symm;simp only [decide_eq_true_eq,decide_eq_false_iff_not];omega))
theorem hello_nohas (n:Nat) (sv:Value) (rs:List Dk) (G:List Blk) (slot life:Int) (hO:OwnK sv rs G) (hh:hasB slot rs.length = false):Con prog 142 #[ptr n,.int .i64 slot,.int .i64 life] (TabB n sv G) fun v A=>v = .tuple #[.int .i64 0,.int .i64 0] ∧ A = TabB n sv G:=by
 refine zqI (vs:=[_,_,_]) func142 ntmps142 fun B=>?_
 refine zg1 ?_
 refine zqA (has_spec n sv rs G slot hO) fun v A' hR=>?_
 obtain ⟨rfl,rfl⟩:=hR
 rw [hh]
 refine zg7 ?_
 exact ze82
theorem hello_nocnt (n:Nat) (sv:Value) (rs:List Dk) (G:List Blk) (slot life:Int) (hO:OwnK sv rs G) (hh:hasB slot rs.length = true) (hc:cntB life = false):Con prog 142 #[ptr n,.int .i64 slot,.int .i64 life] (TabB n sv G) fun v A=>v = .tuple #[.int .i64 0,.int .i64 0] ∧ A = TabB n sv G:=by
 refine zqI (vs:=[_,_,_]) func142 ntmps142 fun B=>?_
 refine zg1 ?_
 refine zqA (has_spec n sv rs G slot hO) fun v A' hR=>?_
 obtain ⟨rfl,rfl⟩:=hR
 rw [hh]
 refine zg3 ?_
 refine zqA (counts_spec life) fun v A' hR=>?_
 obtain ⟨rfl,rfl⟩:=hR
 rw [hc]
 refine zg7 ?_
 exact ze82
theorem hello_old (n:Nat) (sv:Value) (rs:List Dk) (G:List Blk) (slot life:Int) (r:Dk) (hO:OwnK sv rs G) (hh:hasB slot rs.length = true) (hc:cntB life = true) (hr:rs[slot.toNat]? = some r) (hl:life < r.life):Con prog 142 #[ptr n,.int .i64 slot,.int .i64 life] (TabB n sv G) fun v A=>v = .tuple #[.int .i64 0,.int .i64 0] ∧ A = TabB n sv G:=by
 have hO0:=hO
 obtain ⟨h0,h1⟩:0 ≤ slot ∧ slot < rs.length:=by simpa [hasB] using hh
 obtain ⟨g,c,spare,rfl,rfl,hsp,hle⟩:=hO.some_ (by omega)
 have hok:=dks_ok rs
 have hx:(dks rs)[slot.toNat]? = some [.int .i64 r.slot,.int .i64 r.life,.int .i64 r.session,.int .i64 r.last,.string r.reply]:=by simp [dks,hr]
 refine zqI (vs:=[_,_,_]) func142 ntmps142 fun B=>?_
 refine zg1 ?_
 refine Ops.call (has_spec n _ rs _ slot hO0) rfl (noPd rfl) rfl rfl rfl (fun v A' hR=>?_)
 obtain ⟨rfl,rfl⟩:=hR
 rw [hh]
 refine zg3 ?_
 refine zqA (counts_spec life) fun v A' hR=>?_
 obtain ⟨rfl,rfl⟩:=hR
 rw [hc]
 refine zg10 ?_
 exact ze82
theorem hello_known (n:Nat) (sv:Value) (rs:List Dk) (G:List Blk) (slot life:Int) (r:Dk) (hO:OwnK sv rs G) (hh:hasB slot rs.length = true) (hc:cntB life = true) (hr:rs[slot.toNat]? = some r) (hl:r.life = life):Con prog 142 #[ptr n,.int .i64 slot,.int .i64 life] (TabB n sv G) fun v A=>v = .tuple #[.int .i64 1,.int .i64 r.session] ∧ A = TabB n sv G:=by
 have hO0:=hO
 obtain ⟨h0,h1⟩:0 ≤ slot ∧ slot < rs.length:=by simpa [hasB] using hh
 obtain ⟨g,c,spare,rfl,rfl,hsp,hle⟩:=hO.some_ (by omega)
 have hok:=dks_ok rs
 have hx:(dks rs)[slot.toNat]? = some [.int .i64 r.slot,.int .i64 r.life,.int .i64 r.session,.int .i64 r.last,.string r.reply]:=by simp [dks,hr]
 refine zqI (vs:=[_,_,_]) func142 ntmps142 fun B=>?_
 refine zg1 ?_
 refine Ops.call (has_spec n _ rs _ slot hO0) rfl (noPd rfl) rfl rfl rfl (fun v A' hR=>?_)
 obtain ⟨rfl,rfl⟩:=hR
 rw [hh]
 refine zg3 ?_
 refine zqA (counts_spec life) fun v A' hR=>?_
 obtain ⟨rfl,rfl⟩:=hR
 rw [hc]
 refine zg10 ?_
 refine zdr [qz 0,qz 1,qz 2,qy 3,qz 4,qz 5,qz 6,qy 7,qz 8,qz 9] ?_
 refine zg10 ?_
 exact ze82
theorem hello_fresh (n:Nat) (sv:Value) (rs:List Dk) (G:List Blk) (slot life:Int) (r:Dk) (hO:OwnK sv rs G) (hh:hasB slot rs.length = true) (hc:cntB life = true) (hr:rs[slot.toNat]? = some r) (hl:r.life < life):Con prog 142 #[ptr n,.int .i64 slot,.int .i64 life] (TabB n sv G) fun v A=>v = .tuple #[.int .i64 2,.int .i64 0] ∧ A = TabB n sv G:=by
 have hO0:=hO
 obtain ⟨h0,h1⟩:0 ≤ slot ∧ slot < rs.length:=by simpa [hasB] using hh
 obtain ⟨g,c,spare,rfl,rfl,hsp,hle⟩:=hO.some_ (by omega)
 have hok:=dks_ok rs
 have hx:(dks rs)[slot.toNat]? = some [.int .i64 r.slot,.int .i64 r.life,.int .i64 r.session,.int .i64 r.last,.string r.reply]:=by simp [dks,hr]
 refine zqI (vs:=[_,_,_]) func142 ntmps142 fun B=>?_
 refine zg1 ?_
 refine Ops.call (has_spec n _ rs _ slot hO0) rfl (noPd rfl) rfl rfl rfl (fun v A' hR=>?_)
 obtain ⟨rfl,rfl⟩:=hR
 rw [hh]
 refine zg3 ?_
 refine zqA (counts_spec life) fun v A' hR=>?_
 obtain ⟨rfl,rfl⟩:=hR
 rw [hc]
 refine zg10 ?_
 exact ze82
theorem open_nohas (n:Nat) (sv:Value) (rs:List Dk) (G:List Blk) (slot life session:Int) (hO:OwnK sv rs G) (hh:hasB slot rs.length = false):Con prog 145 #[ptr n,.int .i64 slot,.int .i64 life,.int .i64 session] (TabB n sv G) fun v A=>v = .int .i64 130 ∧ A = TabB n sv G:=by
 refine zqI (vs:=[_,_,_,_]) func145 ntmps145 fun B=>?_
 refine zg1 ?_
 refine zqA (has_spec n sv rs G slot hO) fun v A' hR=>?_
 obtain ⟨rfl,rfl⟩:=hR
 rw [hh]
 refine zg6 ?_
 exact ze83
theorem open_nolife (n:Nat) (sv:Value) (rs:List Dk) (G:List Blk) (slot life session:Int) (hO:OwnK sv rs G) (hh:hasB slot rs.length = true) (hc:cntB life = false):Con prog 145 #[ptr n,.int .i64 slot,.int .i64 life,.int .i64 session] (TabB n sv G) fun v A=>v = .int .i64 132 ∧ A = TabB n sv G:=by
 refine zqI (vs:=[_,_,_,_]) func145 ntmps145 fun B=>?_
 refine zg1 ?_
 refine zqA (has_spec n sv rs G slot hO) fun v A' hR=>?_
 obtain ⟨rfl,rfl⟩:=hR
 rw [hh]
 refine zg4 ?_
 refine zqA (counts_spec life) fun v A' hR=>?_
 obtain ⟨rfl,rfl⟩:=hR
 rw [hc]
 refine zg7 ?_
 exact ze83
theorem open_nosess (n:Nat) (sv:Value) (rs:List Dk) (G:List Blk) (slot life session:Int) (hO:OwnK sv rs G) (hh:hasB slot rs.length = true) (hc:cntB life = true) (hd:cntB session = false):Con prog 145 #[ptr n,.int .i64 slot,.int .i64 life,.int .i64 session] (TabB n sv G) fun v A=>v = .int .i64 132 ∧ A = TabB n sv G:=by
 refine zqI (vs:=[_,_,_,_]) func145 ntmps145 fun B=>?_
 refine zg1 ?_
 refine zqA (has_spec n sv rs G slot hO) fun v A' hR=>?_
 obtain ⟨rfl,rfl⟩:=hR
 rw [hh]
 refine zg4 ?_
 refine zqA (counts_spec life) fun v A' hR=>?_
 obtain ⟨rfl,rfl⟩:=hR
 rw [hc]
 refine zg3 ?_
 refine zqA (counts_spec session) fun v A' hR=>?_
 obtain ⟨rfl,rfl⟩:=hR
 rw [hd]
 refine zg7 ?_
 exact ze83
theorem open_old (n:Nat) (sv:Value) (rs:List Dk) (G:List Blk) (slot life session:Int) (r:Dk) (hO:OwnK sv rs G) (hh:hasB slot rs.length = true) (hc:cntB life = true) (hd:cntB session = true) (hr:rs[slot.toNat]? = some r) (hl:life < r.life):Con prog 145 #[ptr n,.int .i64 slot,.int .i64 life,.int .i64 session] (TabB n sv G) fun v A=>v = .int .i64 132 ∧ A = TabB n sv G:=by
 have hO0:=hO
 obtain ⟨h0,h1⟩:0 ≤ slot ∧ slot < rs.length:=by simpa [hasB] using hh
 obtain ⟨g,c,spare,rfl,rfl,hsp,hle⟩:=hO.some_ (by omega)
 have hok:=dks_ok rs
 have hx:(dks rs)[slot.toNat]? = some [.int .i64 r.slot,.int .i64 r.life,.int .i64 r.session,.int .i64 r.last,.string r.reply]:=by simp [dks,hr]
 refine zqI (vs:=[_,_,_,_]) func145 ntmps145 fun B=>?_
 refine zg1 ?_
 refine Ops.call (has_spec n _ rs _ slot hO0) rfl (noPd rfl) rfl rfl rfl (fun v A' hR=>?_)
 obtain ⟨rfl,rfl⟩:=hR
 rw [hh]
 refine zg4 ?_
 refine zqA (counts_spec life) fun v A' hR=>?_
 obtain ⟨rfl,rfl⟩:=hR
 rw [hc]
 refine zg3 ?_
 refine zqA (counts_spec session) fun v A' hR=>?_
 obtain ⟨rfl,rfl⟩:=hR
 rw [hd]
 refine zg10 ?_
 exact ze83
theorem open_ok (n:Nat) (sv:Value) (rs:List Dk) (G:List Blk) (slot life session:Int) (r:Dk) (hO:OwnK sv rs G) (hh:hasB slot rs.length = true) (hc:cntB life = true) (hd:cntB session = true) (hr:rs[slot.toNat]? = some r) (hl:r.life ≤ life):Con prog 145 #[ptr n,.int .i64 slot,.int .i64 life,.int .i64 session] (TabB n sv G) fun v A=>v = .int .i64 0 ∧ ∃ G',A = TabB n sv G' ∧ OwnK sv (rs.set slot.toNat ⟨slot,life,session,0,⟨#[]⟩⟩) G':=by
 have hO0:=hO
 obtain ⟨h0,h1⟩:0 ≤ slot ∧ slot < rs.length:=by simpa [hasB] using hh
 obtain ⟨g,c,spare,rfl,rfl,hsp,hle⟩:=hO.some_ (by omega)
 have hok:=dks_ok rs
 have hx:(dks rs)[slot.toNat]? = some [.int .i64 r.slot,.int .i64 r.life,.int .i64 r.session,.int .i64 r.last,.string r.reply]:=by simp [dks,hr]
 refine zqI (vs:=[_,_,_,_]) func145 ntmps145 fun B=>?_
 refine zg1 ?_
 refine Ops.call (has_spec n _ rs _ slot hO0) rfl (noPd rfl) rfl rfl rfl (fun v A' hR=>?_)
 obtain ⟨rfl,rfl⟩:=hR
 rw [hh]
 refine zg4 ?_
 refine zqA (counts_spec life) fun v A' hR=>?_
 obtain ⟨rfl,rfl⟩:=hR
 rw [hc]
 refine zg3 ?_
 refine zqA (counts_spec session) fun v A' hR=>?_
 obtain ⟨rfl,rfl⟩:=hR
 rw [hd]
 refine zg10 ?_
 refine Ops.stRow (rows:=dks rs) (i:=slot.toNat) rfl rfl rfl rfl rfl rfl hok (by rw [dks_len];omega) (noPd rfl) ?_
 refine zg1 ?_
 refine Cd.ret (ret1 (A':=TabB n (.slice (some ⟨g,0,none⟩) rs.length c) [(g,cl (((dks rs).set slot.toNat [.int .i64 slot,.int .i64 life,.int .i64 session,.int .i64 0,.string ⟨#[]⟩]).flatten ++ spare) 76)]) rfl (Res.tmp rfl) (fun _ h=>h) ⟨rfl,_,rfl,?_⟩)
 have:=Own.set (rows:=dks rs) (spare:=spare) (c:=c) (g:=g) (by rw [dks_len];exact hO0) hsp (by rw [dks_len];exact hle) (i:=slot.toNat) (r:=[.int .i64 slot,.int .i64 life,.int .i64 session,.int .i64 0,.string ⟨#[]⟩]) rfl rfl
 unfold OwnK dks
 rw [List.map_set]
 simpa [dks] using this
theorem ask_nohas (n:Nat) (sv:Value) (rs:List Dk) (G:List Blk) (slot life session number:Int) (hO:OwnK sv rs G) (hh:hasB slot rs.length = false):Con prog 147 #[ptr n,.int .i64 slot,.int .i64 life,.int .i64 session,.int .i64 number] (TabB n sv G) fun v A=>v = .tuple #[.int .i64 1,.string ⟨#[]⟩] ∧ A = TabB n sv G:=by
 refine zqI (vs:=[_,_,_,_,_]) func147 ntmps147 fun B=>?_
 refine zg0 ?_
 refine zqA (has_spec n sv rs G slot hO) fun v A' hR=>?_
 obtain ⟨rfl,rfl⟩:=hR
 rw [hh]
 refine zg6 ?_
 exact ze82
theorem task_stale (n:Nat) (sv:Value) (rs:List Dk) (G:List Blk) (slot life session number:Int) (r:Dk) (hO:OwnK sv rs G) (hh:hasB slot rs.length = true) (hr:rs[slot.toNat]? = some r) (hb0:0 ≤ r.last) (hb1:r.last ≤ 1099511627776) (hl:r.life = 0 ∨ r.life ≠ life ∨ r.session ≠ session):Con prog 147 #[ptr n,.int .i64 slot,.int .i64 life,.int .i64 session,.int .i64 number] (TabB n sv G) fun v A=>v = .tuple #[.int .i64 1,.string ⟨#[]⟩] ∧ A = TabB n sv G:=by
 have hO0:=hO
 obtain ⟨h0,h1⟩:0 ≤ slot ∧ slot < rs.length:=by simpa [hasB] using hh
 obtain ⟨g,c,spare,rfl,rfl,hsp,hle⟩:=hO.some_ (by omega)
 have hok:=dks_ok rs
 have hx:(dks rs)[slot.toNat]? = some [.int .i64 r.slot,.int .i64 r.life,.int .i64 r.session,.int .i64 r.last,.string r.reply]:=by simp [dks,hr]
 refine zqI (vs:=[_,_,_,_,_]) func147 ntmps147 fun B=>?_
 refine zg0 ?_
 refine Ops.call (has_spec n _ rs _ slot hO0) rfl (noPd rfl) rfl rfl rfl (fun v A' hR=>?_)
 obtain ⟨rfl,rfl⟩:=hR
 rw [hh]
 repeat' (first|refine zs8 ?_|refine Ops.alloc rfl rfl rfl (noPd rfl) (fun b=>?_)|((fail_if_success refine Ops.probe rfl ?_);refine Ops.gSplit rfl rfl (fun hc=>?_) (fun hc=>?_) <;> (try simp only [decide_eq_true_eq,decide_eq_false_iff_not,Bool.not_eq_true',Bool.not_eq_false',Bool.not_eq_eq_eq_not,Bool.not_true,Bool.not_false,Int.not_lt,Int.not_le] at hc)))
 all_goals exact Cd.ret (ret2 rfl (Res.tmp rfl) (Res.tmp rfl) (fun _ h=>h.split) ⟨rfl,rfl⟩)
theorem task_zero (n:Nat) (sv:Value) (rs:List Dk) (G:List Blk) (slot life session number:Int) (r:Dk) (hO:OwnK sv rs G) (hh:hasB slot rs.length = true) (hr:rs[slot.toNat]? = some r) (hb0:0 ≤ r.last) (hb1:r.last ≤ 1099511627776) (hl:r.life ≠ 0 ∧ r.life = life ∧ r.session = session ∧ number < 1):Con prog 147 #[ptr n,.int .i64 slot,.int .i64 life,.int .i64 session,.int .i64 number] (TabB n sv G) fun v A=>v = .tuple #[.int .i64 0,.string ⟨#[]⟩] ∧ A = TabB n sv G:=by
 have hO0:=hO
 obtain ⟨h0,h1⟩:0 ≤ slot ∧ slot < rs.length:=by simpa [hasB] using hh
 obtain ⟨g,c,spare,rfl,rfl,hsp,hle⟩:=hO.some_ (by omega)
 have hok:=dks_ok rs
 have hx:(dks rs)[slot.toNat]? = some [.int .i64 r.slot,.int .i64 r.life,.int .i64 r.session,.int .i64 r.last,.string r.reply]:=by simp [dks,hr]
 refine zqI (vs:=[_,_,_,_,_]) func147 ntmps147 fun B=>?_
 refine zg0 ?_
 refine Ops.call (has_spec n _ rs _ slot hO0) rfl (noPd rfl) rfl rfl rfl (fun v A' hR=>?_)
 obtain ⟨rfl,rfl⟩:=hR
 rw [hh]
 repeat' (first|refine Cd.seq ?_|refine Cd.reg ?_|refine Ops.nil ?_|refine Ops.mv rfl rfl rfl rfl ?_|refine Ops.asg rfl rfl rfl rfl ?_|refine Ops.nilP rfl rfl rfl rfl ?_|refine Ops.fa0 rfl rfl rfl rfl ?_|refine Ops.ld1 rfl rfl rfl rfl rfl ?_|refine Ops.bin rfl rfl rfl rfl rfl ?_|refine Ops.un rfl rfl rfl rfl ?_|refine Ops.pickF rfl rfl rfl rfl rfl ?_|refine Ops.alloc rfl rfl rfl (noPd rfl) (fun b=>?_)|refine Ops.stN rfl rfl rfl rfl rfl rfl (noPd rfl) ?_|refine Cd.condF rfl rfl ?_|refine Cd.block ?_|refine Cd.skip (Cd.next ?_)|refine Ops.ixa0 rfl rfl rfl rfl (by omega) (by omega) rfl ?_|refine Ops.ldRow rfl rfl rfl (by assumption) (by assumption) rfl ?_|refine Cd.condT rfl zp0 ?_|refine Cd.condF rfl zp0 ?_|((fail_if_success refine Ops.probe rfl ?_);refine Ops.gF rfl rfl zp0 ?_))
 all_goals exact Cd.ret (ret2 rfl (Res.tmp rfl) (Res.tmp rfl) (fun _ h=>h.split) ⟨rfl,rfl⟩)
theorem task_again (n:Nat) (sv:Value) (rs:List Dk) (G:List Blk) (slot life session number:Int) (r:Dk) (hO:OwnK sv rs G) (hh:hasB slot rs.length = true) (hr:rs[slot.toNat]? = some r) (hb0:0 ≤ r.last) (hb1:r.last ≤ 1099511627776) (hl:r.life ≠ 0 ∧ r.life = life ∧ r.session = session ∧ 1 ≤ number ∧ number = r.last):Con prog 147 #[ptr n,.int .i64 slot,.int .i64 life,.int .i64 session,.int .i64 number] (TabB n sv G) fun v A=>v = .tuple #[.int .i64 2,.string r.reply] ∧ A = TabB n sv G:=by
 have hO0:=hO
 obtain ⟨h0,h1⟩:0 ≤ slot ∧ slot < rs.length:=by simpa [hasB] using hh
 obtain ⟨g,c,spare,rfl,rfl,hsp,hle⟩:=hO.some_ (by omega)
 have hok:=dks_ok rs
 have hx:(dks rs)[slot.toNat]? = some [.int .i64 r.slot,.int .i64 r.life,.int .i64 r.session,.int .i64 r.last,.string r.reply]:=by simp [dks,hr]
 refine zqI (vs:=[_,_,_,_,_]) func147 ntmps147 fun B=>?_
 refine zg0 ?_
 refine Ops.call (has_spec n _ rs _ slot hO0) rfl (noPd rfl) rfl rfl rfl (fun v A' hR=>?_)
 obtain ⟨rfl,rfl⟩:=hR
 rw [hh]
 repeat' (first|refine Cd.seq ?_|refine Cd.reg ?_|refine Ops.nil ?_|refine Ops.mv rfl rfl rfl rfl ?_|refine Ops.asg rfl rfl rfl rfl ?_|refine Ops.nilP rfl rfl rfl rfl ?_|refine Ops.fa0 rfl rfl rfl rfl ?_|refine Ops.ld1 rfl rfl rfl rfl rfl ?_|refine Ops.bin rfl rfl rfl rfl rfl ?_|refine Ops.un rfl rfl rfl rfl ?_|refine Ops.pickF rfl rfl rfl rfl rfl ?_|refine Ops.alloc rfl rfl rfl (noPd rfl) (fun b=>?_)|refine Ops.stN rfl rfl rfl rfl rfl rfl (noPd rfl) ?_|refine Cd.condF rfl rfl ?_|refine Cd.block ?_|refine Cd.skip (Cd.next ?_)|refine Ops.ixa0 rfl rfl rfl rfl (by omega) (by omega) rfl ?_|refine Ops.ldRow rfl rfl rfl (by assumption) (by assumption) rfl ?_|refine Cd.condT rfl zp0 ?_|refine Cd.condF rfl zp0 ?_|((fail_if_success refine Ops.probe rfl ?_);refine Ops.gF rfl rfl zp0 ?_))
 refine zdr [qz 0,qy 1,qz 2,qz 3] ?_
 refine zg1 ?_
 all_goals exact Cd.ret (ret2 rfl (Res.tmp rfl) (Res.tmp rfl) (fun _ h=>h.split) ⟨rfl,rfl⟩)
theorem task_new (n:Nat) (sv:Value) (rs:List Dk) (G:List Blk) (slot life session number:Int) (r:Dk) (hO:OwnK sv rs G) (hh:hasB slot rs.length = true) (hr:rs[slot.toNat]? = some r) (hb0:0 ≤ r.last) (hb1:r.last ≤ 1099511627776) (hl:r.life ≠ 0 ∧ r.life = life ∧ r.session = session ∧ 1 ≤ number ∧ number = r.last + 1):Con prog 147 #[ptr n,.int .i64 slot,.int .i64 life,.int .i64 session,.int .i64 number] (TabB n sv G) fun v A=>v = .tuple #[.int .i64 3,.string ⟨#[]⟩] ∧ A = TabB n sv G:=by
 have hO0:=hO
 obtain ⟨h0,h1⟩:0 ≤ slot ∧ slot < rs.length:=by simpa [hasB] using hh
 obtain ⟨g,c,spare,rfl,rfl,hsp,hle⟩:=hO.some_ (by omega)
 have hok:=dks_ok rs
 have hx:(dks rs)[slot.toNat]? = some [.int .i64 r.slot,.int .i64 r.life,.int .i64 r.session,.int .i64 r.last,.string r.reply]:=by simp [dks,hr]
 refine zqI (vs:=[_,_,_,_,_]) func147 ntmps147 fun B=>?_
 refine zg0 ?_
 refine Ops.call (has_spec n _ rs _ slot hO0) rfl (noPd rfl) rfl rfl rfl (fun v A' hR=>?_)
 obtain ⟨rfl,rfl⟩:=hR
 rw [hh]
 repeat' (first|refine Cd.seq ?_|refine Cd.reg ?_|refine Ops.nil ?_|refine Ops.mv rfl rfl rfl rfl ?_|refine Ops.asg rfl rfl rfl rfl ?_|refine Ops.nilP rfl rfl rfl rfl ?_|refine Ops.fa0 rfl rfl rfl rfl ?_|refine Ops.ld1 rfl rfl rfl rfl rfl ?_|refine Ops.addI rfl rfl rfl rfl (by omega) (by omega) rfl ?_|refine Ops.bin rfl rfl rfl rfl rfl ?_|refine Ops.un rfl rfl rfl rfl ?_|refine Ops.pickF rfl rfl rfl rfl rfl ?_|refine Ops.alloc rfl rfl rfl (noPd rfl) (fun b=>?_)|refine Ops.stN rfl rfl rfl rfl rfl rfl (noPd rfl) ?_|refine Cd.condF rfl rfl ?_|refine Cd.block ?_|refine Cd.skip (Cd.next ?_)|refine Ops.ixa0 rfl rfl rfl rfl (by omega) (by omega) rfl ?_|refine Ops.ldRow rfl rfl rfl (by assumption) (by assumption) rfl ?_|refine Cd.condT rfl zp0 ?_|refine Cd.condF rfl zp0 ?_|((fail_if_success refine Ops.probe rfl ?_);refine Ops.gF rfl rfl zp0 ?_))
 all_goals exact Cd.ret (ret2 rfl (Res.tmp rfl) (Res.tmp rfl) (fun _ h=>h.split) ⟨rfl,rfl⟩)
theorem task_pass (n:Nat) (sv:Value) (rs:List Dk) (G:List Blk) (slot life session number:Int) (r:Dk) (hO:OwnK sv rs G) (hh:hasB slot rs.length = true) (hr:rs[slot.toNat]? = some r) (hb0:0 ≤ r.last) (hb1:r.last ≤ 1099511627776) (hl:r.life ≠ 0 ∧ r.life = life ∧ r.session = session ∧ 1 ≤ number ∧ number ≠ r.last ∧ number ≠ r.last + 1):Con prog 147 #[ptr n,.int .i64 slot,.int .i64 life,.int .i64 session,.int .i64 number] (TabB n sv G) fun v A=>v = .tuple #[.int .i64 0,.string ⟨#[]⟩] ∧ A = TabB n sv G:=by
 have hO0:=hO
 obtain ⟨h0,h1⟩:0 ≤ slot ∧ slot < rs.length:=by simpa [hasB] using hh
 obtain ⟨g,c,spare,rfl,rfl,hsp,hle⟩:=hO.some_ (by omega)
 have hok:=dks_ok rs
 have hx:(dks rs)[slot.toNat]? = some [.int .i64 r.slot,.int .i64 r.life,.int .i64 r.session,.int .i64 r.last,.string r.reply]:=by simp [dks,hr]
 refine zqI (vs:=[_,_,_,_,_]) func147 ntmps147 fun B=>?_
 refine zg0 ?_
 refine Ops.call (has_spec n _ rs _ slot hO0) rfl (noPd rfl) rfl rfl rfl (fun v A' hR=>?_)
 obtain ⟨rfl,rfl⟩:=hR
 rw [hh]
 repeat' (first|refine Cd.seq ?_|refine Cd.reg ?_|refine Ops.nil ?_|refine Ops.mv rfl rfl rfl rfl ?_|refine Ops.asg rfl rfl rfl rfl ?_|refine Ops.nilP rfl rfl rfl rfl ?_|refine Ops.fa0 rfl rfl rfl rfl ?_|refine Ops.ld1 rfl rfl rfl rfl rfl ?_|refine Ops.addI rfl rfl rfl rfl (by omega) (by omega) rfl ?_|refine Ops.bin rfl rfl rfl rfl rfl ?_|refine Ops.un rfl rfl rfl rfl ?_|refine Ops.pickF rfl rfl rfl rfl rfl ?_|refine Ops.alloc rfl rfl rfl (noPd rfl) (fun b=>?_)|refine Ops.stN rfl rfl rfl rfl rfl rfl (noPd rfl) ?_|refine Cd.condF rfl rfl ?_|refine Cd.block ?_|refine Cd.skip (Cd.next ?_)|refine Cd.skip (Cd.next (Q':=fun _ _ _=>True) ?_)|refine Ops.ixa0 rfl rfl rfl rfl (by omega) (by omega) rfl ?_|refine Ops.ldRow rfl rfl rfl (by assumption) (by assumption) rfl ?_|refine Cd.condF rfl zp0 ?_|((fail_if_success refine Ops.probe rfl ?_);refine Ops.gF rfl rfl zp0 ?_))
 all_goals exact Cd.ret (ret2 rfl (Res.tmp rfl) (Res.tmp rfl) (fun _ h=>h.split) ⟨rfl,rfl⟩)
theorem answer_nohas (n:Nat) (sv:Value) (rs:List Dk) (G:List Blk) (slot:Int) (reply:ByteArray) (hO:OwnK sv rs G) (hh:hasB slot rs.length = false):Con prog 152 #[ptr n,.int .i64 slot,.string reply] (TabB n sv G) fun v A=>v = .int .i64 130 ∧ A = TabB n sv G:=by
 refine zqI (vs:=[_,_,_]) func152 ntmps152 fun B=>?_
 refine zg0 ?_
 refine zqA (has_spec n sv rs G slot hO) fun v A' hR=>?_
 obtain ⟨rfl,rfl⟩:=hR
 rw [hh]
 refine zg6 ?_
 exact ze83
theorem answer_none (n:Nat) (sv:Value) (rs:List Dk) (G:List Blk) (slot:Int) (reply:ByteArray) (r:Dk) (hO:OwnK sv rs G) (hh:hasB slot rs.length = true) (hr:rs[slot.toNat]? = some r) (hl:r.life = 0 ∨ r.last = 1099511627776):Con prog 152 #[ptr n,.int .i64 slot,.string reply] (TabB n sv G) fun v A=>v = .int .i64 132 ∧ A = TabB n sv G:=by
 have hO0:=hO
 obtain ⟨h0,h1⟩:0 ≤ slot ∧ slot < rs.length:=by simpa [hasB] using hh
 obtain ⟨g,c,spare,rfl,rfl,hsp,hle⟩:=hO.some_ (by omega)
 have hok:=dks_ok rs
 have hx:(dks rs)[slot.toNat]? = some [.int .i64 r.slot,.int .i64 r.life,.int .i64 r.session,.int .i64 r.last,.string r.reply]:=by simp [dks,hr]
 refine zqI (vs:=[_,_,_]) func152 ntmps152 fun B=>?_
 refine zg0 ?_
 refine Ops.call (has_spec n _ rs _ slot hO0) rfl (noPd rfl) rfl rfl rfl (fun v A' hR=>?_)
 obtain ⟨rfl,rfl⟩:=hR
 rw [hh]
 repeat' (first|refine zs8 ?_|((fail_if_success refine Ops.probe rfl ?_);refine Ops.gSplit rfl rfl (fun hc=>?_) (fun hc=>?_) <;> (try simp only [decide_eq_true_eq,decide_eq_false_iff_not,Bool.not_eq_true',Bool.not_eq_false',Bool.not_eq_eq_eq_not,Bool.not_true,Bool.not_false,Int.not_lt,Int.not_le] at hc)))
 all_goals exact Cd.ret (ret1 rfl (Res.tmp rfl) (fun _ h=>h.split) ⟨rfl,rfl⟩)
theorem answer_ok (n:Nat) (sv:Value) (rs:List Dk) (G:List Blk) (slot:Int) (reply:ByteArray) (r:Dk) (hO:OwnK sv rs G) (hh:hasB slot rs.length = true) (hr:rs[slot.toNat]? = some r) (hb0:0 ≤ r.last) (hb1:r.last ≤ 1099511627776) (hl:r.life ≠ 0) (hl2:r.last ≠ 1099511627776):Con prog 152 #[ptr n,.int .i64 slot,.string reply] (TabB n sv G) fun v A=>v = .int .i64 0 ∧ ∃ G',A = TabB n sv G' ∧ OwnK sv (rs.set slot.toNat { r with last:=r.last + 1,reply:=reply }) G':=by
 have hO0:=hO
 obtain ⟨h0,h1⟩:0 ≤ slot ∧ slot < rs.length:=by simpa [hasB] using hh
 obtain ⟨g,c,spare,rfl,rfl,hsp,hle⟩:=hO.some_ (by omega)
 have hok:=dks_ok rs
 have hx:(dks rs)[slot.toNat]? = some [.int .i64 r.slot,.int .i64 r.life,.int .i64 r.session,.int .i64 r.last,.string r.reply]:=by simp [dks,hr]
 refine zqI (vs:=[_,_,_]) func152 ntmps152 fun B=>?_
 refine zg0 ?_
 refine Ops.call (has_spec n _ rs _ slot hO0) rfl (noPd rfl) rfl rfl rfl (fun v A' hR=>?_)
 obtain ⟨rfl,rfl⟩:=hR
 rw [hh]
 refine zg10 ?_
 refine Ops.stRow1 (sz:=5) (rows:=dks rs) (i:=slot.toNat) (o:=3) rfl rfl rfl rfl rfl hok hx rfl (noPd rfl) ?_
 have hok1:RowsOk 5 ((dks rs).set slot.toNat ([.int .i64 r.slot,.int .i64 r.life,.int .i64 r.session,.int .i64 r.last,.string r.reply].set 3 (.int .i64 (r.last + 1)))):=fun x hx=>by
  rcases List.mem_or_eq_of_mem_set hx with h|h
  ·exact hok x h
  ·subst h;exact ⟨rfl,rfl⟩
 have hx1:((dks rs).set slot.toNat ([.int .i64 r.slot,.int .i64 r.life,.int .i64 r.session,.int .i64 r.last,.string r.reply].set 3 (.int .i64 (r.last + 1))))[slot.toNat]? = some [.int .i64 r.slot,.int .i64 r.life,.int .i64 r.session,.int .i64 (r.last + 1),.string r.reply]:=by
  rw [List.getElem?_set_self (by rw [dks_len];omega)];rfl
 refine zg1 ?_
 refine Ops.stRow1 (sz:=5) (i:=slot.toNat) (o:=4) rfl rfl rfl rfl rfl hok1 hx1 rfl (noPd rfl) ?_
 refine zg1 ?_
 refine Cd.ret (ret1 (A':=TabB n (.slice (some ⟨g,0,none⟩) rs.length c) [(g,cl (((dks rs).set slot.toNat [.int .i64 r.slot,.int .i64 r.life,.int .i64 r.session,.int .i64 (r.last + 1),.string reply]).flatten ++ spare) 76)]) rfl (Res.tmp rfl) (fun _ h=>by rw [List.set_set] at h;exact h) ⟨rfl,_,rfl,?_⟩)
 have:=Own.set (rows:=dks rs) (spare:=spare) (c:=c) (g:=g) (by rw [dks_len];exact hO0) hsp (by rw [dks_len];exact hle) (i:=slot.toNat) (r:=[.int .i64 r.slot,.int .i64 r.life,.int .i64 r.session,.int .i64 (r.last + 1),.string reply]) rfl rfl
 unfold OwnK dks
 rw [List.map_set]
 simpa [dks] using this
end Go.Proofs.YtkoelgkghijgiaaGreat.Se
