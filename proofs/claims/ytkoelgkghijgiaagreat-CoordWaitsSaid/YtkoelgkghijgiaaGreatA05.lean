import Derived.Test.YtkoelgkghijgiaaGreatA04
import Derived.Laws.Externs
import Derived.RecoverIn
import Derived.Test.YtkoelgkghijgiaaGreatA01
set_option linter.unusedVariables false
set_option linter.unusedSimpArgs false
namespace Go.Sep
open Go
structure ME where
 k:Int
 v:Value
 b:Nat
def ME.ent (e:ME):MapEntry:={ key:=.int .i64 e.k,val:=e.v,born:=e.b }
def mpo (es:List ME) (ck:Nat):Obj:=.map (es.map ME.ent).toArray ck
def mfind (i:Int):List ME → Nat → Option (Nat × Value)
 | [],_=>none
 | e :: es,n=>if e.k = i then some (n,e.v) else mfind i es (n + 1)
def mget (es:List ME) (i:Int):Option Value:=(mfind i es 0).map (·.2)
def mput (es:List ME) (ck:Nat) (i:Int) (v:Value):List ME:=match mfind i es 0 with
 | some (n,_)=>es.set n ⟨i,v,((es[n]?).map (·.b)).getD 0⟩
 | none=>es ++ [⟨i,v,ck⟩]
def mck (es:List ME) (ck:Nat) (i:Int):Nat:=match mfind i es 0 with
 | some _=>ck
 | none=>ck + 1
def mdel (es:List ME) (i:Int):List ME:=match mfind i es 0 with
 | some (n,_)=>es.eraseIdx n
 | none=>es
structure MOk (es:List ME) (ck:Nat):Prop where
 keys:(es.map ME.k).Nodup
 borns:(es.map ME.b).Nodup
 lt:∀ e ∈ es,e.b < ck
theorem map_eraseIdx' {α β:Type} {f:α → β}:∀ (l:List α) (n:Nat),(l.eraseIdx n).map f = (l.map f).eraseIdx n
 | [],n=>by simp
 | x :: l,0=>by simp
 | x :: l,n + 1=>by simp [map_eraseIdx' l n]
theorem mfind_some {i:Int}:∀ {es:List ME} {n m:Nat} {v:Value},mfind i es n = some (m,v) → ∃ j e,m = n + j ∧ es[j]? = some e ∧ e.k = i ∧ e.v = v
 | [],_,_,_,h=>by simp [mfind] at h
 | e :: es,n,m,v,h=>by
  simp only [mfind] at h
  split at h
  ·rename_i he
   injection h with h;injection h with h1 h2
   exact ⟨0,e,h1.symm,rfl,he,h2⟩
  ·obtain ⟨j,e',h1,h2,h3,h4⟩:=mfind_some h
   exact ⟨j + 1,e',by omega,by simpa using h2,h3,h4⟩
theorem mfind_none {i:Int}:∀ {es:List ME} {n:Nat},mfind i es n = none → ∀ e ∈ es,e.k ≠ i
 | [],_,_,_,h=>by cases h
 | x :: es,n,h,e,he=>by
  simp only [mfind] at h
  split at h
  ·cases h
  ·rename_i hx
   rcases List.mem_cons.1 he with rfl|he
   ·exact hx
   ·exact mfind_none h e he
theorem mget_none_iff {es:List ME} {i:Int}:mget es i = none ↔ ∀ e ∈ es,e.k ≠ i:=by
 unfold mget
 constructor
 ·intro h
  cases hf:mfind i es 0 with
  | none=>exact mfind_none hf
  | some p=>rw [hf] at h;cases h
 ·intro h
  cases hf:mfind i es 0 with
  | none=>rfl
  | some p =>
   obtain ⟨j,e,_,hj,hk,_⟩:=mfind_some (m:=p.1) (v:=p.2) hf
   exact absurd hk (h e (List.mem_of_getElem? hj))
theorem mget_of_mem {es:List ME} {e:ME} (hn:(es.map ME.k).Nodup) (he:e ∈ es):mget es e.k = some e.v:=by
 unfold mget
 cases hf:mfind e.k es 0 with
 | none=>exact absurd rfl (mfind_none hf e he)
 | some p =>
  obtain ⟨j,e',_,hj,hk,hv⟩:=mfind_some (m:=p.1) (v:=p.2) hf
  obtain ⟨q,hq⟩:=List.getElem?_of_mem he
  have:j = q:=by
   obtain ⟨h1,h2⟩:=List.getElem?_eq_some_iff.1 hj
   obtain ⟨h3,h4⟩:=List.getElem?_eq_some_iff.1 hq
   have hkk:(es.map ME.k)[j]'(by simpa using h1) = (es.map ME.k)[q]'(by simpa using h3):=by
    rw [List.getElem_map,List.getElem_map,h2,h4,hk]
   exact (List.getElem_inj hn).1 hkk
  subst this
  rw [hj] at hq
  injection hq with hq
  subst hq
  simp [hv]
theorem mget_some {es:List ME} {i:Int} {v:Value} (h:mget es i = some v):∃ e ∈ es,e.k = i ∧ e.v = v:=by
 unfold mget at h
 cases hf:mfind i es 0 with
 | none=>rw [hf] at h;cases h
 | some p =>
  rw [hf] at h
  injection h with h
  obtain ⟨j,e,_,hj,hk,hv⟩:=mfind_some (m:=p.1) (v:=p.2) hf
  exact ⟨e,List.mem_of_getElem? hj,hk,hv.trans h⟩
theorem mget_iff {es:List ME} (hn:(es.map ME.k).Nodup) {i:Int} {v:Value}:mget es i = some v ↔ ∃ e ∈ es,e.k = i ∧ e.v = v :=
 ⟨mget_some,fun ⟨e,he,hk,hv⟩=>by rw [← hk,← hv];exact mget_of_mem hn he⟩
theorem mget_isSome {es:List ME} {i:Int}:(mget es i).isSome = true ↔ i ∈ es.map ME.k:=by
 rw [← Option.ne_none_iff_isSome,Ne,mget_none_iff]
 simp only [List.mem_map]
 constructor
 ·intro h
  exact Classical.byContradiction fun hn=>h fun e he hk=>hn ⟨e,he,hk⟩
 ·rintro ⟨e,he,hk⟩ h
  exact h e he hk
theorem mput_old {es:List ME} {ck:Nat} {i:Int} {v:Value} (h:mget es i ≠ none):∃ n e,es[n]? = some e ∧ e.k = i ∧ mput es ck i v = es.set n ⟨i,v,e.b⟩ ∧ mck es ck i = ck:=by
 unfold mget at h
 cases hf:mfind i es 0 with
 | none=>rw [hf] at h;exact absurd rfl h
 | some p =>
  obtain ⟨j,e,h1,hj,hk,hv⟩:=mfind_some (m:=p.1) (v:=p.2) hf
  rw [Nat.zero_add] at h1
  refine ⟨j,e,hj,hk,?_,?_⟩
  ·unfold mput
   rw [hf]
   simp [h1,hj]
  ·unfold mck
   rw [hf]
theorem mput_new {es:List ME} {ck:Nat} {i:Int} {v:Value} (h:mget es i = none):mput es ck i v = es ++ [⟨i,v,ck⟩] ∧ mck es ck i = ck + 1:=by
 unfold mget at h
 cases hf:mfind i es 0 with
 | some p=>rw [hf] at h;cases h
 | none=>unfold mput mck;rw [hf];exact ⟨rfl,rfl⟩
theorem MOk.put {es:List ME} {ck:Nat} (h:MOk es ck) (i:Int) (v:Value):MOk (mput es ck i v) (mck es ck i):=by
 cases hg:mget es i with
 | none =>
  obtain ⟨e1,e2⟩:=mput_new (ck:=ck) (v:=v) hg
  rw [e1,e2]
  refine ⟨?_,?_,fun e he=>?_⟩
  ·rw [List.map_append,List.nodup_append]
   refine ⟨h.keys,by simp,fun a ha b hb=>?_⟩
   simp only [List.map_cons,List.map_nil,List.mem_singleton] at hb
   subst hb
   obtain ⟨e,he,rfl⟩:=List.mem_map.1 ha
   exact mget_none_iff.1 hg e he
  ·rw [List.map_append,List.nodup_append]
   refine ⟨h.borns,by simp,fun a ha b hb=>?_⟩
   simp only [List.map_cons,List.map_nil,List.mem_singleton] at hb
   subst hb
   obtain ⟨e,he,rfl⟩:=List.mem_map.1 ha
   have:=h.lt e he
   omega
  ·rcases List.mem_append.1 he with he|he
   ·have:=h.lt e he;omega
   ·obtain rfl:=List.mem_singleton.1 he
    exact Nat.lt_succ_self ck
 | some u =>
  obtain ⟨n,e,hn,hk,e1,e2⟩:=mput_old (ck:=ck) (v:=v) (by rw [hg];simp:mget es i ≠ none)
  rw [e1,e2]
  refine ⟨?_,?_,fun x hx=>?_⟩
  ·rw [map_set_same (f:=ME.k) hn (by rw [hk])];exact h.keys
  ·rw [map_set_same (f:=ME.b) (y:=⟨i,v,e.b⟩) hn rfl];exact h.borns
  ·rcases List.mem_or_eq_of_mem_set hx with hx|hx
   ·exact h.lt x hx
   ·subst hx;exact h.lt e (List.mem_of_getElem? hn)
theorem mget_put {es:List ME} {ck:Nat} (h:MOk es ck) (i:Int) (v:Value) (j:Int):mget (mput es ck i v) j = if j = i then some v else mget es j:=by
 have h':=h.put i v
 split
 ·rename_i e
  subst e
  rw [mget_iff h'.keys]
  cases hg:mget es j with
  | none =>
   rw [(mput_new (ck:=ck) (v:=v) hg).1]
   exact ⟨_,List.mem_append_right _ (List.mem_singleton.2 rfl),rfl,rfl⟩
  | some u =>
   obtain ⟨n,e,hn,hk,e1,_⟩:=mput_old (ck:=ck) (v:=v) (by rw [hg];simp:mget es j ≠ none)
   rw [e1]
   exact ⟨⟨j,v,e.b⟩,List.mem_of_getElem? (List.getElem?_set_self (List.getElem?_eq_some_iff.1 hn).1),rfl,rfl⟩
 ·rename_i hne
  have key:∀ u,mget (mput es ck i v) j = some u ↔ mget es j = some u:=by
   intro u
   rw [mget_iff h'.keys,mget_iff h.keys]
   cases hg:mget es i with
   | none =>
    rw [(mput_new (ck:=ck) (v:=v) hg).1]
    constructor
    ·rintro ⟨e,he,hk,hv⟩
     rcases List.mem_append.1 he with he|he
     ·exact ⟨e,he,hk,hv⟩
     ·obtain rfl:=List.mem_singleton.1 he
      exact absurd hk.symm hne
    ·rintro ⟨e,he,hk,hv⟩
     exact ⟨e,List.mem_append_left _ he,hk,hv⟩
   | some u' =>
    obtain ⟨n,e0,hn,hk0,e1,_⟩:=mput_old (ck:=ck) (v:=v) (by rw [hg];simp:mget es i ≠ none)
    rw [e1]
    constructor
    ·rintro ⟨e,he,hk,hv⟩
     rcases List.mem_or_eq_of_mem_set he with he|he
     ·exact ⟨e,he,hk,hv⟩
     ·subst he;exact absurd hk.symm hne
    ·rintro ⟨e,he,hk,hv⟩
     obtain ⟨q,hq⟩:=List.getElem?_of_mem he
     have:n ≠ q:=fun e'=>by
      subst e'
      rw [hn] at hq
      injection hq with hq
      subst hq
      exact hne (hk.symm.trans hk0)
     exact ⟨e,List.mem_of_getElem? (by rw [List.getElem?_set_ne this];exact hq),hk,hv⟩
  cases hx:mget es j with
  | some u=>exact (key u).2 hx
  | none =>
   cases hy:mget (mput es ck i v) j with
   | none=>rfl
   | some u=>have:=(key u).1 hy;rw [hx] at this;cases this
theorem MOk.del {es:List ME} {ck:Nat} (h:MOk es ck) (i:Int):MOk (mdel es i) ck:=by
 unfold mdel
 split
 ·rename_i n _ _
  exact ⟨by rw [map_eraseIdx'];exact h.keys.sublist (List.eraseIdx_sublist ..),by rw [map_eraseIdx'];exact h.borns.sublist (List.eraseIdx_sublist ..),fun e he=>h.lt e ((List.eraseIdx_sublist ..).subset he)⟩
 ·exact h
theorem mget_del {es:List ME} {ck:Nat} (h:MOk es ck) (i j:Int):mget (mdel es i) j = if j = i then none else mget es j:=by
 have h':=h.del i
 have key:∀ u,mget (mdel es i) j = some u ↔ (j ≠ i ∧ mget es j = some u):=by
  intro u
  rw [mget_iff h'.keys,mget_iff h.keys]
  unfold mdel
  cases hf:mfind i es 0 with
  | none =>
   have hno:=mfind_none hf
   constructor
   ·rintro ⟨e,he,hk,hv⟩
    exact ⟨fun e'=>hno e he (hk.trans e'),e,he,hk,hv⟩
   ·rintro ⟨_,hx⟩;exact hx
  | some p =>
   obtain ⟨n,e0,h1,hn,hk0,_⟩:=mfind_some (m:=p.1) (v:=p.2) hf
   rw [Nat.zero_add] at h1
   simp only [h1]
   constructor
   ·rintro ⟨e,he,hk,hv⟩
    refine ⟨fun e'=>?_,e,(List.eraseIdx_sublist ..).subset he,hk,hv⟩
    obtain ⟨q,hq⟩:=List.getElem?_of_mem he
    have hkn:=h.keys
    rw [List.getElem?_eraseIdx] at hq
    have hx:∀ r,es[r]? = some e → r = n:=fun r hr=>by
     obtain ⟨a1,a2⟩:=List.getElem?_eq_some_iff.1 hr
     obtain ⟨b1,b2⟩:=List.getElem?_eq_some_iff.1 hn
     refine (List.getElem_inj (i:=r) (j:=n) (h₀:=by simpa using a1) (h₁:=by simpa using b1) hkn).1 ?_
     rw [List.getElem_map,List.getElem_map,a2,b2,hk,hk0,e']
    split at hq
    ·have:=hx q hq;omega
    ·have:=hx (q + 1) hq;omega
   ·rintro ⟨hne,e,he,hk,hv⟩
    refine ⟨e,?_,hk,hv⟩
    obtain ⟨q,hq⟩:=List.getElem?_of_mem he
    have hqn:q ≠ n:=fun e'=>by
     subst e'
     rw [hn] at hq
     injection hq with hq
     subst hq
     exact hne (hk.symm.trans hk0)
    rcases Nat.lt_or_gt_of_ne hqn with hlt|hgt
    ·exact List.mem_of_getElem? (i:=q) (by rw [List.getElem?_eraseIdx,if_pos hlt];exact hq)
    ·exact List.mem_of_getElem? (i:=q - 1) (by rw [List.getElem?_eraseIdx,if_neg (by omega),show q - 1 + 1 = q from by omega];exact hq)
 split
 ·rename_i e
  cases hy:mget (mdel es i) j with
  | none=>rfl
  | some u=>exact absurd e ((key u).1 hy).1
 ·rename_i hne
  cases hx:mget es j with
  | some u=>exact (key u).2 ⟨hne,hx⟩
  | none =>
   cases hy:mget (mdel es i) j with
   | none=>rfl
   | some u=>have:=((key u).1 hy).2;rw [hx] at this;cases this
class TyZ (P:Program) (t:TypeId) (z:outParam Value):Prop where
 eq:(P.info? t).bind (·.zero) = some z
theorem TyZ.run {P:Program} {t:TypeId} {z:Value} {w:World} (h:TyZ P t z):(zeroValue t).run P w = .ok z w:=by
 have h1:=h.eq
 cases hi:P.info? t with
 | none=>rw [hi] at h1;cases h1
 | some i =>
  rw [hi] at h1
  simp only [Option.bind_some] at h1
  simp [zeroValue,typeInfo,hi,h1]
theorem findNow_eq {q:IntKind} {i:Int}:∀ (es:List ME) (n:Nat),Instr.findNow (.int q) (.int .i64 i) (es.map ME.ent) n = some (mfind i es n)
 | [],n=>rfl
 | e :: es,n=>by
  simp only [List.map_cons,Instr.findNow,ME.ent,Instr.sameNow,if_true,mfind]
  by_cases h:i = e.k
  ·subst h;simp
  ·have h':¬ e.k = i:=fun x=>h x.symm
   have h2:(i == e.k) = false:=by simpa using h
   rw [h2]
   simp only [if_neg h']
   exact findNow_eq es (n + 1)
section
variable {P:Program} {kt:TypeId} {q:IntKind} {w:World}
theorem run_findKey [h:TyD P kt (.int q)] (es:List ME) (i:Int):(Instr.findKey kt (.int .i64 i) (es.map ME.ent)).run P w = .ok (mfind i es 0) w:=by
 unfold Instr.findKey
 simp only [Sem.run_bind,h.run_und,Result.andThen_ok,findNow_eq]
 rfl
theorem run_checkKey [h:TyD P kt (.int q)] (b:Bool) (i:Int):(Instr.checkKey b 10000 kt (.int .i64 i)).run P w = .ok () w:=by
 have:∀ n,(Instr.checkKey b (n + 1) kt (.int .i64 i)).run P w = .ok () w:=fun n=>by
  simp only [Instr.checkKey,Sem.run_bind,h.run_und,Result.andThen_ok]
  rfl
 exact this 9999
theorem run_getMap {b:Nat} {es:List ME} {ck:Nat} (h:w.heap[b]? = some (mpo es ck)):(getObj b).run P w = .ok (.map (es.map ME.ent).toArray ck) w:=by
 simp only [getObj,Sem.run,h,mpo]
theorem run_setMap {b:Nat} {es:List ME} {ck:Nat} {o:Obj} (h:w.heap[b]? = some (mpo es ck)):(setObj b o).run P w = .ok () (w.putObj b o):=by
 simp [setObj,Sem.run,h,mpo,World.putObj]
end
theorem Sat.putObj {B:Base} {A1 A2:List Blk} {w:World} {n:Nat} {o o':Obj} (h:Sat B (A1 ++ (n,o) :: A2) w):Sat B (A1 ++ (n,o') :: A2) (w.putObj n o'):=by
 have hh:=h.here (n,o) (List.mem_append_right _ (List.mem_cons_self ..))
 exact Sat.put h rfl rfl rfl (World.putObj_heap_same (lt_of_get hh)) fun k hk=>World.putObj_heap_other hk
theorem ents_modify {es:List ME} {n:Nat} {e:ME} {i:Int} {v:Value} (hn:es[n]? = some e) (hk:e.k = i) :
  ((es.map ME.ent).toArray.modify n fun x=>{ x with key:=.int .i64 i,val:=v }) = ((es.set n ⟨i,v,e.b⟩).map ME.ent).toArray:=by
 apply Array.ext_getElem?
 intro q
 rw [Array.getElem?_modify]
 simp only [List.getElem?_toArray,List.getElem?_map]
 by_cases hq:n = q
 ·subst hq
  rw [if_pos rfl,hn,List.getElem?_set_self (List.getElem?_eq_some_iff.1 hn).1]
  rfl
 ·rw [if_neg hq,List.getElem?_set_ne hq]
section
variable {P:Program} {N:Fi} {B:Base} {Q:Exit → Act → World → Prop} {T:Tm} {A:List Blk} {ops:Array Oper} {l:List Oper}
variable {d:Nat} {ty:TypeId} {pos:String} {af:Array Edge} {m:Md} {gd:Option (Nat × Bool)}
theorem run_lookupI {t kt et:TypeId} {q:IntKind} {z:Value} {b:Nat} {es:List ME} {ck:Nat} {i:Int} {ok:Bool} {w:World} [ht:TyD P t (.map kt et)] [hk:TyD P kt (.int q)] [hz:TyZ P et z] (hb:w.heap[b]? = some (mpo es ck)) :
  (Instr.lookup t (.map (some b)) (.int .i64 i) ok).run P w = .ok (if ok then .tuple #[(mget es i).getD z,.bool (mget es i).isSome] else (mget es i).getD z) w:=by
 unfold Instr.lookup
 simp only [Sem.run_bind,ht.run_und,Result.andThen_ok,run_getMap hb,Sem.run_pure,run_checkKey,run_findKey,List.toList_toArray]
 unfold mget
 cases hf:mfind i es 0 with
 | some p=>obtain ⟨n,v⟩:=p;cases ok <;> simp
 | none=>cases ok <;> simp [hz.run]
theorem Ops.lkI {t kt et:TypeId} {q:IntKind} {z:Value} {x y:Operand} {b:Nat} {es:List ME} {ck:Nat} {i:Int} (hm:m.rd false = true) (hg:gst ops T gd = some true) [ht:TyD P t (.map kt et)] [hk:TyD P kt (.int q)] [hz:TyZ P et z]
  (hx:ev T x = some (.map (some b))) (hy:ev T y = some (.int .i64 i)) [hb:Has A b (mpo es ck)] (hd:Nat.blt d N.n = true) (k:Ops P N B Q ops m.tl l ((d,.tuple #[(mget es i).getD z,.bool (mget es i).isSome]) :: T) A) :
  Ops P N B Q ops m (⟨some d,.lookup t x y true,ty,pos,af,gd⟩ :: l) T A :=
 Ops.readV hm hg hd (fun a w hF hS=>by simp [execOp,hF.eval hx,hF.eval hy,run_lookupI (ok:=true) (hS.here _ hb.mem)]) k
theorem Ops.lk1 {t kt et:TypeId} {q:IntKind} {z:Value} {x y:Operand} {b:Nat} {es:List ME} {ck:Nat} {i:Int} (hm:m.rd false = true) (hg:gst ops T gd = some true) [ht:TyD P t (.map kt et)] [hk:TyD P kt (.int q)] [hz:TyZ P et z]
  (hx:ev T x = some (.map (some b))) (hy:ev T y = some (.int .i64 i)) [hb:Has A b (mpo es ck)] (hd:Nat.blt d N.n = true) (k:Ops P N B Q ops m.tl l ((d,(mget es i).getD z) :: T) A) :
  Ops P N B Q ops m (⟨some d,.lookup t x y false,ty,pos,af,gd⟩ :: l) T A :=
 Ops.readV hm hg hd (fun a w hF hS=>by simp [execOp,hF.eval hx,hF.eval hy,run_lookupI (ok:=false) (hS.here _ hb.mem)]) k
theorem Ops.upI {t kt et:TypeId} {q:IntKind} {x y z:Operand} {b:Nat} {es:List ME} {ck:Nat} {i:Int} {v:Value} {A':List Blk} (hm:m.eff = true) (hg:gst ops T gd = some true) [ht:TyD P t (.map kt et)] [hk:TyD P kt (.int q)]
  (hx:ev T x = some (.map (some b))) (hy:ev T y = some (.int .i64 i)) (hz:ev T z = some v) [hb:Has A b (mpo es ck)] [hu:Upd A b (mpo es ck) (mpo (mput es ck i v) (mck es ck i)) A'] (hp:Pd P N B ops m T none (fun _ X=>X = A')) (k:Ops P N B Q ops m.tl l T A') :
  Ops P N B Q ops m (⟨none,.mapUpdate t x y z,ty,pos,af,gd⟩ :: l) T A :=
 Ops.unit hm hp hg (fun a w hF hS=>by
  obtain ⟨A1,A2,rfl,rfl⟩:=hu.put
  have hh:=hS.here (b,mpo es ck) (List.mem_append_right _ (List.mem_cons_self ..))
  refine ⟨w.putObj b (mpo (mput es ck i v) (mck es ck i)),?_,hS.putObj⟩
  have hrun:(Instr.mapUpdate t (.map (some b)) (.int .i64 i) v).run P w = .ok () (w.putObj b (mpo (mput es ck i v) (mck es ck i))):=by
   unfold Instr.mapUpdate
   simp only [Sem.run_bind,ht.run_und,Result.andThen_ok,run_getMap hh,run_checkKey,run_findKey,List.toList_toArray]
   cases hf:mfind i es 0 with
   | none =>
    have e1:mput es ck i v = es ++ [⟨i,v,ck⟩]:=by unfold mput;rw [hf]
    have e2:mck es ck i = ck + 1:=by unfold mck;rw [hf]
    simp only [run_setMap hh]
    rw [e1,e2]
    simp [mpo,ME.ent]
   | some p =>
    obtain ⟨n,u⟩:=p
    obtain ⟨j,e,h1,hj,hek,_⟩:=mfind_some hf
    rw [Nat.zero_add] at h1
    subst h1
    have e1:mput es ck i v = es.set n ⟨i,v,e.b⟩:=by unfold mput;rw [hf];simp [hj]
    have e2:mck es ck i = ck:=by unfold mck;rw [hf]
    have hkey:(((es.map ME.ent).toArray[n]?).map (·.key)).getD (.int .i64 i) = .int .i64 i:=by
     simp [hj,ME.ent,hek]
    have hstay:(Instr.keyThatStays (.int .i64 i) (.int .i64 i)).run P w = .ok (.int .i64 i) w:=by
     unfold Instr.keyThatStays
     rw [if_pos (by simp [Instr.sameBits])]
     rfl
    simp only [Sem.run_bind,hkey,hstay,Result.andThen_ok,run_setMap hh]
    rw [e1,e2,ents_modify hj hek]
    rfl
  simp [execOp,hF.eval hx,hF.eval hy,hF.eval hz,hrun]) k
theorem Ops.delI {t t' kt et:TypeId} {q:IntKind} {x y:Operand} {b:Nat} {es:List ME} {ck:Nat} {i:Int} {A':List Blk} (hm:m.eff = true) (hg:gst ops T gd = some true) [ht:TyD P t (.map kt et)] [hk:TyD P kt (.int q)]
  (hx:ev T x = some (.map (some b))) (hy:ev T y = some (.int .i64 i)) [hb:Has A b (mpo es ck)] [hu:Upd A b (mpo es ck) (mpo (mdel es i) ck) A'] (hp:Pd P N B ops m T none (fun _ X=>X = A')) (k:Ops P N B Q ops m.tl l T A') :
  Ops P N B Q ops m (⟨none,.call { callee:=.builtin .delete,args:=#[x,y],argTypes:=#[t,t'] },ty,pos,af,gd⟩ :: l) T A :=
 Ops.effU hm hp hg (fun a w hF hS=>by
  obtain ⟨A1,A2,rfl,rfl⟩:=hu.put
  have hh:=hS.here (b,mpo es ck) (List.mem_append_right _ (List.mem_cons_self ..))
  have hrun:(Builtin.delete_ #[t,t'] ty #[.map (some b),.int .i64 i]).run P w = .ok (.tuple #[]) (w.putObj b (mpo (mdel es i) ck)):=by
   unfold Builtin.delete_
   simp only [List.getElem?_toArray,List.getElem?_cons_zero,List.getElem?_cons_succ,Sem.run_bind,ht.run_und,Result.andThen_ok,run_getMap hh,run_checkKey,run_findKey,List.toList_toArray]
   cases hf:mfind i es 0 with
   | none =>
    have e1:mdel es i = es:=by unfold mdel;rw [hf]
    simp only [Sem.run_bind,run_setMap hh,Result.andThen_ok,Sem.run_pure]
    rw [e1];rfl
   | some p =>
    obtain ⟨n,u⟩:=p
    obtain ⟨j,e,h1,hj,hek,_⟩:=mfind_some hf
    rw [Nat.zero_add] at h1
    subst h1
    have e1:mdel es i = es.eraseIdx n:=by unfold mdel;rw [hf]
    have hlt:=(List.getElem?_eq_some_iff.1 hj).1
    simp only [Sem.run_bind,run_setMap hh,Result.andThen_ok,Sem.run_pure]
    rw [e1]
    simp [mpo,Array.eraseIdxIfInBounds,hlt,map_eraseIdx']
  simp only [execOp,resolve,invoke,builtin,Sem.run_bind,Sem.run_pure,Result.andThen_ok,List.map_toArray,List.map_cons,List.map_nil,hF.eval hx,hF.eval hy,hrun,effPost]
  exact ⟨_,rfl,hS.putObj⟩) fun v X hX=>by rw [hX];exact k
theorem Ops.lenM {t kt et:TypeId} {x:Operand} {b:Nat} {es:List ME} {ck:Nat} (hm:m.rd false = true) (hg:gst ops T gd = some true) [ht:TyD P t (.map kt et)] (hx:ev T x = some (.map (some b))) [hb:Has A b (mpo es ck)] (hd:Nat.blt d N.n = true)
  (k:Ops P N B Q ops m.tl l ((d,.int .i64 es.length) :: T) A):Ops P N B Q ops m (⟨some d,.call { callee:=.builtin .len,args:=#[x],argTypes:=#[t] },ty,pos,af,gd⟩ :: l) T A :=
 Ops.readV hm hg hd (fun a w hF hS=>by
  have hh:=run_getMap (P:=P) (hS.here _ hb.mem)
  simp [execOp,resolve,invoke,builtin,Builtin.len_,hF.eval hx,ht.run_und,hh,goInt]) k
theorem Ops.mkM {t:TypeId} (hm:m.eff = true) (hg:gst ops T gd = some true) (hd:Nat.blt d N.n = true) (hp:Pd P N B ops m T (some d) (NewR (fun b=>.map (some b)) (mpo [] 0) A))
  (k:∀ b,Ops P N B Q ops m.tl l ((d,.map (some b)) :: T) ((b,mpo [] 0) :: A)):Ops P N B Q ops m (⟨some d,.makeMap t none,ty,pos,af,gd⟩ :: l) T A :=
 Ops.new (v:=fun b=>.map (some b)) hm hp hg hd (fun a w hF hS=>by
  simp [execOp,Instr.makeMap,mpo]) k
theorem eqIn_mapNil {t kt et:TypeId} [h:TyD P t (.map kt et)] {a:Option Nat} {w:World} (d:Nat):(Op.equalIn (d + 1) t (.map a) (.map none)).run P w = .ok a.isNone w:=by
 cases a <;> simp [Op.equalIn,h.run_und]
theorem run_eqGuard_map {t:TypeId} {op:BinOp} {xo yo:Operand} {a b:Option Nat} {w:World}:(eqGuard op t xo yo (.map a) (.map b)).run P w = .ok () w:=by
 unfold eqGuard;cases op <;> rfl
instance BinRun.eqMapNil {t kt et:TypeId} [h:TyD P t (.map kt et)] {a:Option Nat}:BinRun P .eql t (.map a) (.map none) (.bool a.isNone):=⟨fun xo yo w=>by
 rw [Sem.run_bind,run_eqGuard_map,Result.andThen_ok]
 exact run_eql rfl fun d=>eqIn_mapNil d⟩
theorem Ops.mkI {t:TypeId} {dd:TypeDesc} {x:Operand} {v:Value} (hm:m.rd true = true) (hg:gst ops T gd = some true) [ht:TyD P t dd] (hi:∀ ms,dd ≠ .interface ms) (hx:ev T x = some v) (hd:Nat.blt d N.n = true) (k:Ops P N B Q ops m.tl l ((d,.iface t v) :: T) A) :
  Ops P N B Q ops m (⟨some d,.makeInterface t x,ty,pos,af,gd⟩ :: l) T A :=
 Ops.pureV hm hg hd (fun a w hF=>by
  have:(Instr.makeInterface t v).run P w = .ok (.iface t v) w:=by
   unfold Instr.makeInterface
   simp only [Sem.run_bind,ht.run_und,Result.andThen_ok]
   cases dd <;> first|rfl|exact absurd rfl (hi _)
  simp [execOp,hF.eval hx,this]) k
theorem Ops.asM {t kt et xT:TypeId} {x:Operand} {v:Value} (hm:m.rd true = true) (hg:gst ops T gd = some true) [ht:TyD P t (.map kt et)] (hx:ev T x = some (.iface t v)) (hd:Nat.blt d N.n = true) (k:Ops P N B Q ops m.tl l ((d,v) :: T) A) :
  Ops P N B Q ops m (⟨some d,.typeAssert x xT t false,ty,pos,af,gd⟩ :: l) T A :=
 Ops.pureV hm hg hd (fun a w hF=>by
  have:(Instr.typeAssert (.iface t v) xT t false).run P w = .ok v w:=by
   simp [Instr.typeAssert,ht.run_und]
  simp [execOp,hF.eval hx,this]) k
class IsMapClone (P:Program) (f:FuncId):Prop where
 ok:∃ fn,P.funcs[f]? = some fn ∧ (fn.name == "runtime.NumGoroutine") = false ∧ fn.body.isNone = true ∧ Extern.findNext fn = none ∧ Extern.find fn = some Extern.MapsClone.clone
theorem Ops.cloneM {f:FuncId} {t:TypeId} {x:Operand} {ats:Array TypeId} {b:Nat} {es:List ME} {ck:Nat} (hm:m.eff = true) (hg:gst ops T gd = some true) [hf:IsMapClone P f] (hx:ev T x = some (.iface t (.map (some b)))) [hb:Has A b (mpo es ck)] (hd:Nat.blt d N.n = true)
  (hp:Pd P N B ops m T (some d) (NewR (fun b=>.iface t (.map (some b))) (mpo es ck) A)) (k:∀ b',Ops P N B Q ops m.tl l ((d,.iface t (.map (some b'))) :: T) ((b',mpo es ck) :: A)) :
  Ops P N B Q ops m (⟨some d,.call { callee:=.value (.func f),args:=#[x],argTypes:=ats },ty,pos,af,gd⟩ :: l) T A :=
 Ops.new (v:=fun b=>.iface t (.map (some b))) hm hp hg hd (fun a w hF hS=>by
  obtain ⟨fn,h1,h2,h3,h4,h5⟩:=hf.ok
  have hh:=run_getMap (P:=P) (hS.here _ hb.mem)
  have hc:(Extern.MapsClone.clone #[.iface t (.map (some b))]).run P w = .ok (.iface t (.map (some w.heap.size))) (w.alloc (mpo es ck)):=by
   have e:Extern.MapsClone.clone #[.iface t (.map (some b))] = (getObj b >>= fun o=>match o with
     | .map entries clock=>(newObj (.map entries clock) >>= fun n=>pure (.iface t (.map (some n))))
     | _=>stuck "maps.clone: a map expected"):=rfl
   rw [e]
   simp [hh,mpo]
  have hr2:resolve a.eval { callee:=.value (.func f),args:=#[x],argTypes:=ats } ty = (pure { target:=.fn (.func f) #[],args:=#[a.eval x] }:Sem Deferred):=by
   simp [resolve,Act.eval,Deferred.ofValue]
  simp only [execOp,hr2,Sem.run_bind,Sem.run_pure,Result.andThen_ok,hF.eval hx]
  simp [invoke,run_callFunc_extern h1 h2 h3 h4 h5,hc]) k
def mit (b ck:Nat) (seen:List Nat):Obj:=.mapIter (some b) ck seen.toArray ck
def mleft (es:List ME) (seen:List Nat):List ME:=es.filter fun e=>!seen.contains e.b
theorem Ops.rngM {t kt et:TypeId} {x:Operand} {b:Nat} {es:List ME} {ck:Nat} (hm:m.eff = true) (hg:gst ops T gd = some true) [ht:TyD P t (.map kt et)] (hx:ev T x = some (.map (some b))) [hb:Has A b (mpo es ck)] (hd:Nat.blt d N.n = true)
  (hp:Pd P N B ops m T (some d) (NewR (fun r=>.pointer (some ⟨r,0,none⟩)) (mit b ck []) A)) (k:∀ r,Ops P N B Q ops m.tl l ((d,.pointer (some ⟨r,0,none⟩)) :: T) ((r,mit b ck []) :: A)) :
  Ops P N B Q ops m (⟨some d,.range t x,ty,pos,af,gd⟩ :: l) T A :=
 Ops.new (v:=fun r=>.pointer (some ⟨r,0,none⟩)) hm hp hg hd (fun a w hF hS=>by
  have hh:=run_getMap (P:=P) (hS.here _ hb.mem)
  simp [execOp,hF.eval hx,Instr.range,ht.run_und,hh,mit]) k
def NextR (r b ck:Nat) (es:List ME) (seen:List Nat) (A:List Blk) (A':Nat → List Blk):Value → List Blk → Prop:=fun v X =>
 (mleft es seen = [] ∧ v = .tuple #[.bool false] ∧ X = A) ∨ ∃ e ∈ mleft es seen,v = .tuple #[.bool true,.int .i64 e.k,e.v] ∧ X = A' e.b
theorem Ops.nxM {x:Operand} {r b ck:Nat} {es:List ME} {seen:List Nat} {A':Nat → List Blk} (hok:MOk es ck) (hm:m.eff = true) (hg:gst ops T gd = some true) (hx:ev T x = some (.pointer (some ⟨r,0,none⟩))) [hr:Has A r (mit b ck seen)] [hb:Has A b (mpo es ck)]
  [hu:∀ n,Upd A r (mit b ck seen) (mit b ck (seen ++ [n])) (A' n)] (hd:Nat.blt d N.n = true) (hp:Pd P N B ops m T (some d) (NextR r b ck es seen A A'))
  (k0:mleft es seen = [] → Ops P N B Q ops m.tl l ((d,.tuple #[.bool false]) :: T) A) (k1:∀ e,e ∈ mleft es seen → Ops P N B Q ops m.tl l ((d,.tuple #[.bool true,.int .i64 e.k,e.v]) :: T) (A' e.b)) :
  Ops P N B Q ops m (⟨some d,.next x false,ty,pos,af,gd⟩ :: l) T A :=
 Ops.effV (R:=NextR r b ck es seen A A') hm hp hg hd (fun a w hF hS=>by
  have hh:=run_getMap (P:=P) (hS.here _ hb.mem)
  have hi:(getObj r).run P w = .ok (.mapIter (some b) ck seen.toArray ck) w:=by
   have:=hS.here _ hr.mem
   simp only [mit] at this
   simp only [getObj,Sem.run,this]
  have hset:∀ (w1:World) (o:Obj),w1.heap = w.heap → (setObj r o).run P w1 = .ok () (w1.putObj r o):=fun w1 o hw1=>by
   have:=hS.here _ hr.mem
   simp only [mit] at this
   simp [setObj,Sem.run,hw1,this,World.putObj]
  have hleft:((es.map ME.ent).toArray.filter fun e=>!seen.toArray.contains e.born) = ((mleft es seen).map ME.ent).toArray:=by
   have e0:(fun e:MapEntry=>!seen.toArray.contains e.born) ∘ ME.ent = fun e=>!seen.contains e.b:=by
    funext e
    simp [ME.ent]
    exact decide_eq_decide.2 Iff.rfl
   rw [List.filter_toArray,List.filter_map,e0]
   rfl
  have hold:(((mleft es seen).map ME.ent).toArray.filter fun e=>decide (e.born < ck)) = ((mleft es seen).map ME.ent).toArray:=by
   rw [List.filter_toArray]
   congr 1
   rw [List.filter_eq_self]
   intro e he
   obtain ⟨e',he',rfl⟩:=List.mem_map.1 he
   exact decide_eq_true (hok.lt e' (List.mem_filter.1 he').1)
  have hnew:(((mleft es seen).map ME.ent).toArray.filter fun e=>decide (e.born ≥ ck)) = #[]:=by
   rw [List.filter_toArray]
   have:(List.filter (fun e:MapEntry=>decide (e.born ≥ ck)) ((mleft es seen).map ME.ent)) = []:=by
    rw [List.filter_eq_nil_iff]
    intro e he
    obtain ⟨e',he',rfl⟩:=List.mem_map.1 he
    have:=hok.lt e' (List.mem_filter.1 he').1
    simp [ME.ent]
    omega
   rw [this]
  have hall:((!seen.toArray.isEmpty && !(es.map ME.ent).toArray.isEmpty) && ((es.map ME.ent).toArray.all fun x=>decide (x.born ≥ ck))) = false:=by
   cases es with
   | nil=>simp
   | cons e es =>
    have:=hok.lt e (List.mem_cons_self ..)
    simp [ME.ent]
    intro _ h
    omega
  simp only [execOp,hF.eval hx]
  unfold Instr.next
  simp only [Sem.run_bind,hi,Result.andThen_ok,hh,hall,Bool.false_eq_true,if_false,hleft,hold,hnew]
  cases hl:mleft es seen with
  | nil =>
   simp only [List.map_nil]
   have hch:(choose (.mapNext (#[(none:Option MapEntry)]).size)).run P w = .ok 0 w:=by
    rw [run_choose_drew];simp [Question.forced]
   simp only [Array.isEmpty_empty,if_true,Array.append_empty,Array.map_empty,List.isEmpty_toArray,List.isEmpty_nil,hch,Result.andThen_ok]
   simp [effPost]
   exact ⟨A,.inl ⟨hl,rfl,rfl⟩,hS⟩
  | cons e0 rest =>
   have hne:(((e0 :: rest).map ME.ent).toArray.isEmpty) = false:=by simp
   simp only [hne,Bool.false_eq_true,if_false,Array.empty_append,Array.append_empty]
   have hsz:((((e0 :: rest).map ME.ent).toArray).map some).size = rest.length + 1:=by simp
   obtain ⟨j,w1,hj,hw1,hch⟩:∃ (j:Nat) (w1:World),j < rest.length + 1 ∧ (w1 = w ∨ w1 = w.drew) ∧ (choose (.mapNext ((((e0 :: rest).map ME.ent).toArray).map some).size)).run P w = .ok j w1:=by
    rw [run_choose_drew,hsz]
    split
    ·exact ⟨0,w,by omega,.inl rfl,rfl⟩
    ·exact ⟨_,w.drew,Nat.mod_lt _ (by omega),.inr rfl,rfl⟩
   simp only [hch,Result.andThen_ok]
   obtain ⟨e,he⟩:∃ e,(e0 :: rest)[j]? = some e:=⟨_,List.getElem?_eq_getElem (by simpa using hj)⟩
   have hget:((((e0 :: rest).map ME.ent).toArray).map some)[j]? = some (some e.ent):=by
    simp only [Array.getElem?_map,List.getElem?_toArray,List.getElem?_map,he,Option.map_some]
   rw [hget]
   have hh1:w1.heap = w.heap:=by rcases hw1 with rfl|rfl <;> rfl
   simp only [Sem.run_bind,hset w1 _ hh1,Result.andThen_ok,Sem.run_pure,effPost]
   have hS1:Sat B A w1:=by
    rcases hw1 with rfl|rfl
    ·exact hS
    ·exact hS.drew
   refine ⟨A' e.b,.inr ⟨e,by rw [hl];exact List.mem_of_getElem? he,rfl,rfl⟩,?_⟩
   obtain ⟨A1,A2,e1,e2⟩:=(hu e.b).put
   rw [e1] at hS1
   rw [e2]
   have:=hS1.putObj (o':=mit b ck (seen ++ [e.b]))
   simpa [mit,ME.ent] using this) fun v X hX=>by
  rcases hX with ⟨h1,rfl,rfl⟩|⟨e,he,rfl,rfl⟩
  ·exact k0 h1
  ·exact k1 e he
theorem Ops.enM {x:Operand} {r b ck:Nat} {es:List ME} {seen:List Nat} {e:ME} (hok:MOk es ck) (he:e ∈ es) (hm:m.rd false = true) (hg:gst ops T gd = some true) (hx:ev T x = some (.pointer (some ⟨r,0,none⟩))) [hr:Has A r (mit b ck (seen ++ [e.b]))] [hb:Has A b (mpo es ck)] (hd:Nat.blt d N.n = true)
  (k:Ops P N B Q ops m.tl l ((d,.tuple #[.int .i64 e.k,e.v]) :: T) A):Ops P N B Q ops m (⟨some d,.entry x,ty,pos,af,gd⟩ :: l) T A :=
 Ops.readV hm hg hd (fun a w hF hS=>by
  have hh:=run_getMap (P:=P) (hS.here _ hb.mem)
  have hi:(getObj r).run P w = .ok (.mapIter (some b) ck (seen ++ [e.b]).toArray ck) w:=by
   have:=hS.here _ hr.mem
   simp only [mit] at this
   simp only [getObj,Sem.run,this]
  have hf:((es.map ME.ent).toArray.find? fun x=>x.born == e.b) = some e.ent:=by
   rw [List.find?_toArray]
   obtain ⟨n,hn⟩:=List.getElem?_of_mem he
   have hb:=hok.borns
   clear hi hh hr hb
   have:∀ (l:List ME),(l.map ME.b).Nodup → e ∈ l → (l.map ME.ent).find? (fun x=>x.born == e.b) = some e.ent:=by
    intro l
    induction l with
    | nil=>intro _ h;cases h
    | cons y l ih =>
     intro hnd hm
     simp only [List.map_cons,List.nodup_cons] at hnd
     rcases List.mem_cons.1 hm with rfl|hm
     ·simp [ME.ent]
     ·have:y.b ≠ e.b:=fun h=>hnd.1 (h ▸ List.mem_map_of_mem hm)
      rw [List.map_cons,List.find?_cons_of_neg (by simpa [ME.ent] using this)]
      exact ih hnd.2 hm
   exact this es hok.borns he
  simp only [execOp,hF.eval hx]
  unfold Instr.entry
  simp [hi,hh,hf,ME.ent]) k
theorem mleft_next {es:List ME} {ck:Nat} {seen:List Nat} {e:ME} (hok:MOk es ck) (he:e ∈ mleft es seen):(mleft es seen).Perm (e :: mleft es (seen ++ [e.b])):=by
 have h1:mleft es (seen ++ [e.b]) = (mleft es seen).filter fun x=>!decide (x.b = e.b):=by
  unfold mleft
  rw [List.filter_filter]
  congr 1
  funext x
  simp only [List.contains_eq_mem,List.mem_append,List.mem_singleton]
  by_cases h1:x.b ∈ seen <;> by_cases h2:x.b = e.b <;> simp [h1,h2]
 rw [h1]
 have hnd:((mleft es seen).map ME.b).Nodup:=hok.borns.sublist ((List.filter_sublist).map _)
 clear h1
 generalize mleft es seen = l at *
 induction l with
 | nil=>cases he
 | cons y l ih =>
  simp only [List.map_cons,List.nodup_cons] at hnd
  rcases List.mem_cons.1 he with rfl|he
  ·have:(l.filter fun x=>!decide (x.b = e.b)) = l:=by
    rw [List.filter_eq_self]
    intro x hx
    have:x.b ≠ e.b:=fun h=>hnd.1 (h ▸ List.mem_map_of_mem hx)
    simpa using this
   rw [List.filter_cons_of_neg (by simp),this]
  ·have hne:y.b ≠ e.b:=fun h=>hnd.1 (h ▸ List.mem_map_of_mem he)
   rw [List.filter_cons_of_pos (by simpa using hne)]
   exact ((ih he hnd.2).cons y).trans (.swap ..)
end
end Go.Sep
namespace Go.Sep
open Go
section
variable {P:Program} {N:Fi} {B:Base} {Q:Exit → Act → World → Prop} {T:Tm} {A:List Blk} {ops:Array Oper} {l:List Oper}
variable {d:Nat} {ty:TypeId} {pos:String} {af:Array Edge} {m:Md} {gd:Option (Nat × Bool)}
theorem Ops.cvI {s t:TypeId} {k1 k2 k3:IntKind} {x:Operand} {i:Int} (hm:m.rd true = true) (hg:gst ops T gd = some true) [hs:TyD P s (.int k1)] [ht:TyD P t (.int k2)] (hx:ev T x = some (.int k3 i)) (hd:Nat.blt d N.n = true)
  (k:Ops P N B Q ops m.tl l ((d,.int k2 (k2.wrap i)) :: T) A):Ops P N B Q ops m (⟨some d,.convert s t x,ty,pos,af,gd⟩ :: l) T A :=
 Ops.pureV hm hg hd (fun a w hF=>by
  have:(convert s t (.int k3 i)).run P w = .ok (.int k2 (k2.wrap i)) w:=by
   unfold convert
   simp [hs.run_und,ht.run_und]
   rfl
  simp [execOp,hF.eval hx,this]) k
theorem Ops.ixS {t:TypeId} {x y:Operand} {s:ByteArray} {k1:IntKind} {i:Int} {b:UInt8} (hm:m.rd true = true) (hg:gst ops T gd = some true) [ht:TyD P t .string] (hx:ev T x = some (.string s)) (hy:ev T y = some (.int k1 i)) (h0:0 ≤ i) (hb:s[i.toNat]? = some b) (hd:Nat.blt d N.n = true)
  (k:Ops P N B Q ops m.tl l ((d,.int .u8 b.toNat) :: T) A):Ops P N B Q ops m (⟨some d,.index t x y,ty,pos,af,gd⟩ :: l) T A :=
 Ops.pureV hm hg hd (fun a w hF=>by
  simp [execOp,hF.eval hx,hF.eval hy,Instr.index,asIntOf,ht.run_und,h0,hb]) k
theorem Ops.ixE {t:TypeId} {x y:Operand} {s:ByteArray} {k1:IntKind} {i:Int} (hm:m.rd true = true) (hg:gst ops T gd = some true) [ht:TyD P t .string] (hx:ev T x = some (.string s)) (hy:ev T y = some (.int k1 i)) (h0:0 ≤ i) (hlt:i.toNat < s.size) (hd:Nat.blt d N.n = true)
  (k:∀ b:UInt8,s[i.toNat]? = some b → Ops P N B Q ops m.tl l ((d,.int .u8 b.toNat) :: T) A):Ops P N B Q ops m (⟨some d,.index t x y,ty,pos,af,gd⟩ :: l) T A :=
 Ops.ixS (b:=s[i.toNat]) hm hg hx hy h0 (getElem?_pos s i.toNat hlt) hd (k _ (getElem?_pos s i.toNat hlt))
end
end Go.Sep
namespace Go.Sep
open Go
section
variable {P:Program} {N:Fi} {B:Base} {Q:Exit → Act → World → Prop} {T:Tm} {A:List Blk} {ops:Array Oper} {l:List Oper}
variable {d:Nat} {ty:TypeId} {pos:String} {af:Array Edge} {m:Md} {gd:Option (Nat × Bool)}
theorem Ops.shrI {t t':TypeId} {x y:Operand} {k1 k2:IntKind} {i j:Int} (hm:m.rd true = true) (hg:gst ops T gd = some true) (hx:ev T x = some (.int k1 i)) (hy:ev T y = some (.int k2 j)) (h0:0 ≤ j) (hd:Nat.blt d N.n = true)
  (k:Ops P N B Q ops m.tl l ((d,.int k1 (i.fdiv (2 ^ min j.toNat k1.bits))) :: T) A):Ops P N B Q ops m (⟨some d,.binOp .shr t x y t',ty,pos,af,gd⟩ :: l) T A :=
 Ops.pureV hm hg hd (fun a w hF=>by
  have h1:¬ j < 0:=by omega
  simp [execOp,hF.eval hx,hF.eval hy,eqGuard,binOp,Op.shift,h1]) k
def bytesS (l:List Int):ByteArray:=l.foldl (fun s n=>s.push (UInt8.ofNat n.toNat)) ByteArray.empty
end
end Go.Sep
namespace Go.Sep
open Go
def ConX (P:Program) (B0:Base) (f:FuncId) (args:Array Value) (A:List Blk) (R:Value → List Blk → Prop) (X:List PanicEntry → List Blk → Prop):Prop :=
 ∀ (B:Base) (w:World),Ext B0 B → Sat B A w → Calls P f args w fun e w'=>(∃ v A',e = .returned v ∧ R v A' ∧ Sat B A' w') ∨ (∃ c A',e = .panicked c ∧ X c A' ∧ Sat B A' w')
theorem ConX.frame {P:Program} {B0:Base} {f:FuncId} {args:Array Value} {A F:List Blk} {R:Value → List Blk → Prop} {X:List PanicEntry → List Blk → Prop} (h:ConX P B0 f args A R X)
  {B:Base} {w:World} (hx:Ext B0 B) (hs:Sat B (A ++ F) w):Calls P f args w fun e w'=>(∃ v A',e = .returned v ∧ R v A' ∧ Sat B (A' ++ F) w') ∨ (∃ c A',e = .panicked c ∧ X c A' ∧ Sat B (A' ++ F) w') :=
 (h (B.with F) w (hx.trans (Ext.with hs)) hs.frameIn).mono fun _ _ h=>h.imp (fun ⟨v,A',he,hR,hS⟩=>⟨v,A',he,hR,hs.frameOut hS⟩) (fun ⟨c,A',he,hX,hS⟩=>⟨c,A',he,hX,hs.frameOut hS⟩)
theorem ConX.calm {P:Program} {B0:Base} {f:FuncId} {args:Array Value} {A:List Blk} {R:Value → List Blk → Prop} {X:List PanicEntry → List Blk → Prop} (h:ConX P B0 f args A R X) (hx:∀ c A',¬ X c A'):ConB P B0 f args A R:=fun B w he hs =>
 (h B w he hs).mono fun _ _ h=>h.elim id fun ⟨c,A',_,hX,_⟩=>absurd hX (hx c A')
def postX (P:Program) (fn:Func) (B:Base) (R:Value → List Blk → Prop) (X:List PanicEntry → List Blk → Prop):Exit → Act → World → Prop :=
 bodyPostM Fence.wide 0 P fn fun e w'=>(∃ v A',e = .returned v ∧ R v A' ∧ Sat B A' w') ∨ (∃ c A',e = .panicked c ∧ X c A' ∧ Sat B A' w')
theorem ConX.intro {P:Program} {B0:Base} {f:FuncId} {fn:Func} {c:Code} {K:Nat} {vs:List Value} {A:List Blk} {R:Value → List Blk → Prop} {X:List PanicEntry → List Blk → Prop} (hf:P.funcs[f]? = some fn) (hb:fn.body = some c) (hN:fn.ntmps = K)
  (hle:Nat.ble vs.length K = true) (h:∀ B:Base,Ext B0 B.plain → Cd P ⟨K,[]⟩ B.plain (postX P fn B.plain R X) c (slots 0 vs) A):ConX P B0 f vs.toArray A R X:=by
 intro B w he hS
 have hle':vs.length ≤ K:=by simpa [Nat.ble_eq] using hle
 have pl:∀ {A' w'},Sat B.plain A' w' → Sat B A' w':=fun hS'=>⟨hS'.os,hS'.tape,hS'.output,hS'.base,hS'.here,hS'.apart,hS'.nodup⟩
 refine Calls.mono (callsIn_wide.1 (callsIn_of_wp_marks hf hb trivial (h B he.plain _ w ⟨by simp [hN];omega,rfl,fun i v hi=>?_⟩ ⟨hS.os,hS.tape,hS.output,hS.base,hS.here,hS.apart,hS.nodup⟩) rfl)) fun e w' h=>h.imp (fun ⟨v,A',he,hR,hS'⟩=>⟨v,A',he,hR,pl hS'⟩) (fun ⟨c,A',he,hX,hS'⟩=>⟨c,A',he,hX,pl hS'⟩)
 obtain ⟨j,hj,hv⟩:=look_slots _ _ _ _ hi
 simp only [Nat.zero_add] at hj
 subst hj
 have hlt:i < vs.length:=(List.getElem?_eq_some_iff.1 hv).1
 simp only [Array.getElem?_append_left (show i < vs.toArray.size by simpa using hlt)]
 simpa using hv
section
variable {P:Program} {K:Nat} {B:Base} {T:Tm} {A A':List Blk} {fn:Func} {R:Value → List Blk → Prop} {X:List PanicEntry → List Blk → Prop}
theorem retX (h:∀ a w,Fr ⟨K,[]⟩ T a → Sat B A w → post P fn B R .ret a w):∀ a w,Fr ⟨K,[]⟩ T a → Sat B A w → postX P fn B R X .ret a w:=fun a w hF hS=>by
 have h1:=h a w hF hS
 have hd:a.defers = []:=hF.dfr
 show LeavesInM Fence.wide 0 P fn a.tmps _ a.defers .returning w
 rw [hd]
 have h2:LeavesInM Fence.wide 0 P fn a.tmps _ a.defers .returning w:=h1
 rw [hd] at h2
 obtain ⟨v,hr,hR⟩:=leaves_nil.1 h2
 exact leaves_nil.2 ⟨v,hr,.inl hR⟩
theorem panX {c:List PanicEntry} (hA:∀ w,Sat B A w → Sat B A' w) (hX:X c A'):∀ a w,Fr ⟨K,[]⟩ T a → Sat B A w → postX P fn B R X (.panic c) a w:=fun a w hF hS=>by
 have hd:a.defers = []:=hF.dfr
 show LeavesInM Fence.wide 0 P fn a.tmps _ a.defers (.panicking c) w
 rw [hd]
 exact .inr ⟨c,A',rfl,hX,hA w hS⟩
end
section
variable {P:Program} {N:Fi} {B:Base} {Q:Exit → Act → World → Prop} {T:Tm} {A:List Blk} {ops:Array Oper} {l:List Oper}
variable {d:Nat} {op:Op} {ty:TypeId} {pos:String} {af:Array Edge} {gd:Option (Nat × Bool)}
theorem semAt_call {o:Oper} {ρ:Operand → Value} {w:World} {f:FuncId} {args:Array Value} (ro:Option Nat) (h:(execOp ρ o).run P w = .ok (.enter f args) w):o.semAt ro ρ = execOp ρ o :=
 Oper.semAt_eq ro ρ o fun c hc=>by
  unfold execOp at h
  rw [hc] at h
  simp only [Sem.run_bind] at h
  generalize (resolve ρ c o.type).run P w = r at h
  cases r <;> simp at h
theorem semAt_pan {o:Oper} {ρ:Operand → Value} {w:World} {u:Value} (ro:Option Nat) (h:(execOp ρ o).run P w = .halt (.panic u) w) (hn:∀ c,o.op ≠ .defer c):o.semAt ro ρ = execOp ρ o :=
 Oper.semAt_eq ro ρ o fun c hc=>absurd hc (hn c)
theorem Ops.callX {B0:Base} {f:FuncId} {xs:List Operand} {ats:Array TypeId} {vs:List Value} {A1 F:List Blk} {R:Value → List Blk → Prop} {X:List PanicEntry → List Blk → Prop} (h:ConX P B0 f vs.toArray A1 R X) (hx0:Ext B0 B) [hs:Split A A1 F] (hg:gst ops T gd = some true)
  [hf:FnOk P f] (hx:evs T xs = some vs) (hd:Nat.blt d N.n = true) (kp:∀ c A',X c A' → ∀ a w,Fr N T a → Sat B (A' ++ F) w → Q (.panic c) a w) (k:∀ v A',R v A' → Ops P N B Q ops none l ((d,v) :: T) (A' ++ F)) :
  Ops P N B Q ops none (⟨some d,.call { callee:=.value (.func f),args:=xs.toArray,argTypes:=ats },ty,pos,af,gd⟩ :: l) T A:=fun a w hF hS=>by
 have hr:(execOp a.eval ⟨some d,.call { callee:=.value (.func f),args:=xs.toArray,argTypes:=ats },ty,pos,af,gd⟩).run P w = .ok (.enter f vs.toArray) w:=by
  simp [execOp,resolve,Act.eval,Deferred.ofValue,invoke,run_callFunc hf,hF.evals hx]
 unfold wpListIn
 rw [if_pos (gst_wanted hF hg)]
 unfold Oper.wpIn
 refine ⟨fun _ _=>trivial,?_⟩
 rw [semAt_call _ hr,hr]
 simp only [Oper.uponIn]
 refine ⟨fun hn=>by simp [fen] at hn,(callsIn_fen B).2 ((h.frame hx0 (hS.perm hs.perm)).mono fun e w'' he=>?_)⟩
 rcases he with ⟨v,A',he,hR,hS'⟩|⟨c,A',he,hX,hS'⟩
 ·subst he;exact k v A' hR _ _ (hF.put hd v) hS'
 ·subst he;exact kp c A' hX a w'' hF hS'
theorem Ops.callVX {B0:Base} {f:FuncId} {c:Operand} {fi ca:List Value} {xs:List Operand} {ats:Array TypeId} {vs:List Value} {A1 F:List Blk} {R:Value → List Blk → Prop} {X:List PanicEntry → List Blk → Prop} (h:ConX P B0 f (fi ++ vs ++ ca).toArray A1 R X) (hx0:Ext B0 B) [hs:Split A A1 F] (hg:gst ops T gd = some true)
  (hc:ev T c = some (.func (.func f) fi.toArray ca.toArray)) [hf:FnOk P f] (hx:evs T xs = some vs) (hd:Nat.blt d N.n = true) (kp:∀ c A',X c A' → ∀ a w,Fr N T a → Sat B (A' ++ F) w → Q (.panic c) a w) (k:∀ v A',R v A' → Ops P N B Q ops none l ((d,v) :: T) (A' ++ F)) :
  Ops P N B Q ops none (⟨some d,.call { callee:=.value c,args:=xs.toArray,argTypes:=ats },ty,pos,af,gd⟩ :: l) T A:=fun a w hF hS=>by
 have hr:(execOp a.eval ⟨some d,.call { callee:=.value c,args:=xs.toArray,argTypes:=ats },ty,pos,af,gd⟩).run P w = .ok (.enter f (fi ++ vs ++ ca).toArray) w:=by
  simp [execOp,resolve,hF.eval hc,Deferred.ofValue,invoke,run_callFunc hf,hF.evals hx]
 unfold wpListIn
 rw [if_pos (gst_wanted hF hg)]
 unfold Oper.wpIn
 refine ⟨fun _ _=>trivial,?_⟩
 rw [semAt_call _ hr,hr]
 simp only [Oper.uponIn]
 refine ⟨fun hn=>by simp [fen] at hn,(callsIn_fen B).2 ((h.frame hx0 (hS.perm hs.perm)).mono fun e w'' he=>?_)⟩
 rcases he with ⟨v,A',he,hR,hS'⟩|⟨c,A',he,hX,hS'⟩
 ·subst he;exact k v A' hR _ _ (hF.put hd v) hS'
 ·subst he;exact kp c A' hX a w'' hF hS'
def PanP (P:Program) (B:Base) (R:Value → List Blk → Prop) (X:List PanicEntry → List Blk → Prop) (r:Result Next):Prop :=
 ∃ f args w,r = .ok (.enter f args) w ∧ Calls P f args w fun e w'=>(∃ v A',e = .returned v ∧ R v A' ∧ Sat B A' w') ∨ (∃ c A',e = .panicked c ∧ X c A' ∧ Sat B A' w')
theorem wp_of_panP {o:Oper} {a:Act} {w:World} {R:Value → List Blk → Prop} {X:List PanicEntry → List Blk → Prop} {K:Act → World → Prop} (h:PanP P B R X ((execOp a.eval o).run P w)) (hF:Fr N [] a)
  (kp:∀ c A',X c A' → ∀ a w,Fr N [] a → Sat B A' w → Q (.panic c) a w) (hK:∀ v A' w',R v A' → Sat B A' w' → K (a.put o.dst v) w'):o.wpIn (fen B) 0 P a w K Q:=by
 obtain ⟨f,args,w0,hr,h⟩:=h
 unfold Oper.wpIn
 refine ⟨fun _ _=>trivial,?_⟩
 have hs:o.semAt (fen B).round a.eval = execOp a.eval o:=Oper.semAt_eq _ _ o fun c hc=>by
  unfold execOp at hr
  rw [hc] at hr
  simp only [Sem.run_bind] at hr
  generalize (resolve a.eval c o.type).run P w = r at hr
  cases r <;> simp at hr
 rw [hs,hr]
 simp only [Oper.uponIn]
 refine ⟨fun hn=>by simp [fen] at hn,(callsIn_fen B).2 (h.mono fun e w'' he=>?_)⟩
 rcases he with ⟨v,A',he,hR,hS'⟩|⟨c,A',he,hX,hS'⟩
 ·subst he;exact hK v A' w'' hR hS'
 ·subst he;exact kp c A' hX a w'' hF hS'
theorem Ops.callXD {m:Md} {B0:Base} {f:FuncId} {xs:List Operand} {ats:Array TypeId} {vs:List Value} {A1 F:List Blk} {R:Value → List Blk → Prop} {X:List PanicEntry → List Blk → Prop} (h:ConX P B0 f vs.toArray A1 R X) (hx0:Ext B0 B) (hm:m.eff = true) [hs:Split A A1 F] (hp:Pd P N B ops m T (some d) (CallR R F)) (hg:gst ops T gd = some true)
  [hf:FnOk P f] (hx:evs T xs = some vs) (hd:Nat.blt d N.n = true) (kp:∀ c A',X c A' → ∀ a w,Fr N [] a → Sat B (A' ++ F) w → Q (.panic c) a w) (k:∀ v A',R v A' → Ops P N B Q ops m.tl l ((d,v) :: T) (A' ++ F)) :
  Ops P N B Q ops m (⟨some d,.call { callee:=.value (.func f),args:=xs.toArray,argTypes:=ats },ty,pos,af,gd⟩ :: l) T A:=by
 refine Ops.effE (EP:=PanP P B (CallR R F) fun c X'=>∃ A',X c A' ∧ X' = A' ++ F) hm (fun d' h=>by injection h with h;rw [← h];exact hd) (fun a w K hF he hK=>wp_of_panP he hF (fun c X' hX=>?_) hK)
  (fun a w hF hS=>.inl ⟨gst_wanted hF hg,?_⟩) hp (fun v X' hR=>?_)
 ·obtain ⟨A',hX,rfl⟩:=hX;exact kp c A' hX
 ·refine ⟨f,vs.toArray,w,by simp [execOp,resolve,Act.eval,Deferred.ofValue,invoke,run_callFunc hf,hF.evals hx],?_⟩
  exact (h.frame hx0 (hS.perm hs.perm)).mono fun e w'' he=>he.imp (fun ⟨v,A',he,hR,hS'⟩=>⟨v,_,he,⟨A',hR,rfl⟩,hS'⟩) (fun ⟨c,A',he,hX,hS'⟩=>⟨c,_,he,⟨A',hX,rfl⟩,hS'⟩)
 ·obtain ⟨A',hR,rfl⟩:=hR;exact k v A' hR
theorem Ops.pan {dd:Option Nat} {x:Operand} {t:TypeId} {u:Value} (hg:gst ops T gd = some true) (hx:ev T x = some (.iface t u)) (kp:∀ a w,Fr N T a → Sat B A w → Q (.panic [⟨.iface t u,false,false⟩]) a w) :
  Ops P N B Q ops none (⟨dd,.panic x,ty,pos,af,gd⟩ :: l) T A:=fun a w hF hS=>by
 have hr:(execOp a.eval ⟨dd,.panic x,ty,pos,af,gd⟩).run P w = .halt (.panic (.iface t u)) w:=by
  simp only [execOp,hF.eval hx,Sem.run_bind]
  rfl
 unfold wpListIn
 rw [if_pos (gst_wanted hF hg)]
 unfold Oper.wpIn
 refine ⟨fun _ _=>trivial,?_⟩
 rw [semAt_pan _ hr (fun c hc=>by cases hc),hr]
 exact kp a w hF hS
end
section
variable {P:Program} {N:Fi} {B:Base} {Q:Exit → Act → World → Prop} {T:Tm} {A:List Blk} {ops:Array Oper} {l:List Oper}
variable {ty:TypeId} {pos:String} {af:Array Edge} {gd:Option (Nat × Bool)}
theorem Ops.dfr {c:Operand} {f:FuncId} {fi ca vs:List Value} {xs:List Operand} {ats:Array TypeId} (hr:B.round = none) (hg:gst ops T gd = some true) (hc:ev T c = some (.func (.func f) fi.toArray ca.toArray)) (hx:evs T xs = some vs)
  (k:Ops P ⟨N.n,⟨.fn (.func f) ca.toArray,(fi ++ vs).toArray⟩ :: N.ds⟩ B Q ops none l T A) :
  Ops P N B Q ops none (⟨none,.defer { callee:=.value c,args:=xs.toArray,argTypes:=ats },ty,pos,af,gd⟩ :: l) T A:=fun a w hF hS=>by
 have hrun:(execOp a.eval ⟨none,.defer { callee:=.value c,args:=xs.toArray,argTypes:=ats },ty,pos,af,gd⟩).run P w = .ok (.defer ⟨.fn (.func f) ca.toArray,(fi ++ vs).toArray⟩) w:=by
  simp [execOp,resolve,hF.eval hc,Deferred.ofValue,hF.evals hx]
 unfold wpListIn
 rw [if_pos (gst_wanted hF hg)]
 unfold Oper.wpIn
 refine ⟨fun _ _=>trivial,?_⟩
 rw [show (fen B).round = none from hr,Oper.semAt_none,hrun,Oper.uponIn_defer]
 exact k _ w ⟨hF.size,by rw [← hF.dfr];rfl,hF.get⟩ hS
end
def DCon (P:Program) (B0:Base) (f:FuncId) (args:Array Value) (u:FrameMode) (A:List Blk) (R:FrameMode → List Blk → Prop):Prop :=
 ∀ (B:Base) (w:World),Ext B0 B → Sat B A w → CallsDIn Fence.wide 0 P f args u w fun e u' w'=>∃ v A',e = .returned v ∧ R u' A' ∧ Sat B A' w'
theorem DCon.frame {P:Program} {B0:Base} {f:FuncId} {args:Array Value} {u:FrameMode} {A F:List Blk} {R:FrameMode → List Blk → Prop} (h:DCon P B0 f args u A R) {B:Base} {w:World} (hx:Ext B0 B) (hs:Sat B (A ++ F) w) :
  CallsDIn Fence.wide 0 P f args u w fun e u' w'=>∃ v A',e = .returned v ∧ R u' A' ∧ Sat B (A' ++ F) w' :=
 (h (B.with F) w (hx.trans (Ext.with hs)) hs.frameIn).mono fun _ _ _ ⟨v,A',he,hR,hS⟩=>⟨v,A',he,hR,hs.frameOut hS⟩
section
variable {P:Program} {K:Nat} {B B0:Base} {T:Tm} {A A1 F:List Blk} {fn:Func} {R:Value → List Blk → Prop} {X:List PanicEntry → List Blk → Prop}
theorem leaveD {f:FuncId} {cap args:Array Value} {u:FrameMode} {R1:FrameMode → List Blk → Prop} (hu:u ≠ .run) [hf:FnOk P f] (h:DCon P B0 f (args ++ cap) u A1 R1) (hx0:Ext B0 B) [hs:Split A A1 F]
  (k:∀ u' A',R1 u' A' → (settle u' = .returning ∧ ∀ a w,Fr ⟨K,[]⟩ T a → Sat B (A' ++ F) w → postX P fn B R X .ret a w) ∨ (∃ c,settle u' = .panicking c ∧ ∀ a w,Fr ⟨K,[]⟩ T a → Sat B (A' ++ F) w → postX P fn B R X (.panic c) a w)) :
  ∀ a w,Fr ⟨K,[⟨.fn (.func f) cap,args⟩]⟩ T a → Sat B A w → LeavesInM Fence.wide 0 P fn a.tmps (fun e w'=>(∃ v A',e = .returned v ∧ R v A' ∧ Sat B A' w') ∨ (∃ c A',e = .panicked c ∧ X c A' ∧ Sat B A' w')) a.defers u w:=fun a w hF hS=>by
 have hd:a.defers = [⟨.fn (.func f) cap,args⟩]:=hF.dfr
 rw [hd]
 unfold LeavesInM
 refine ⟨hu,.inr ⟨fun hn=>by simp [Fence.wide] at hn,_,cap,f,args ++ cap,rfl,?_,fun _ _=>trivial,?_⟩⟩
 ·simp [invoke,run_callFunc hf]
 ·refine (h.frame hx0 (hS.perm hs.perm)).mono fun e u' w' ⟨v,A',he,hR,hS'⟩=>?_
  subst he
  have hF0:Fr ⟨K,[]⟩ T { a with defers:=[] }:=⟨hF.size,rfl,hF.get⟩
  show LeavesInM Fence.wide 0 P fn a.tmps _ [] (settle u') w'
  rcases k u' A' hR with ⟨h1,h2⟩|⟨c,h1,h2⟩
  ·have:=h2 _ w' hF0 hS'
   rw [h1];exact this
  ·have:=h2 _ w' hF0 hS'
   rw [h1];exact this
theorem leaveD_ret {f:FuncId} {cap args:Array Value} {R1:FrameMode → List Blk → Prop} [hf:FnOk P f] (h:DCon P B0 f (args ++ cap) .returning A1 R1) (hx0:Ext B0 B) [hs:Split A A1 F]
  (k:∀ u' A',R1 u' A' → (settle u' = .returning ∧ ∀ a w,Fr ⟨K,[]⟩ T a → Sat B (A' ++ F) w → postX P fn B R X .ret a w) ∨ (∃ c,settle u' = .panicking c ∧ ∀ a w,Fr ⟨K,[]⟩ T a → Sat B (A' ++ F) w → postX P fn B R X (.panic c) a w)) :
  ∀ a w,Fr ⟨K,[⟨.fn (.func f) cap,args⟩]⟩ T a → Sat B A w → postX P fn B R X .ret a w:=leaveD (by simp) h hx0 k
theorem leaveD_pan {f:FuncId} {cap args:Array Value} {ch:List PanicEntry} {R1:FrameMode → List Blk → Prop} [hf:FnOk P f] (h:DCon P B0 f (args ++ cap) (.panicking ch) A1 R1) (hx0:Ext B0 B) [hs:Split A A1 F]
  (k:∀ u' A',R1 u' A' → (settle u' = .returning ∧ ∀ a w,Fr ⟨K,[]⟩ T a → Sat B (A' ++ F) w → postX P fn B R X .ret a w) ∨ (∃ c,settle u' = .panicking c ∧ ∀ a w,Fr ⟨K,[]⟩ T a → Sat B (A' ++ F) w → postX P fn B R X (.panic c) a w)) :
  ∀ a w,Fr ⟨K,[⟨.fn (.func f) cap,args⟩]⟩ T a → Sat B A w → postX P fn B R X (.panic ch) a w:=leaveD (by simp) h hx0 k
end
def CdS (P:Program) (N:Fi) (B:Base) (Q:Exit → Act → List Frame → World → Prop) (c:Code) (T:Tm) (A:List Blk) (cs:List Frame):Prop:=∀ a w,Fr N T a → Sat B A w → c.wpSIn Fence.wide 0 P Q a cs w
def postS (P:Program) (fn:Func) (B:Base) (R:FrameMode → List Blk → Prop) (c₀:Frame) (cs:List Frame):Exit → Act → List Frame → World → Prop :=
 bodyPostS P fn c₀ cs fun e u' w'=>∃ v A',e = .returned v ∧ R u' A' ∧ Sat B A' w'
theorem DCon.intro {P:Program} {B0:Base} {f:FuncId} {fn:Func} {c:Code} {K:Nat} {vs:List Value} {u:FrameMode} {A:List Blk} {R:FrameMode → List Blk → Prop} (hf:P.funcs[f]? = some fn) (hb:fn.body = some c) (hN:fn.ntmps = K)
  (hle:Nat.ble vs.length K = true) (h:∀ (B:Base) (c₀:Frame) (cs:List Frame),Ext B0 B.plain → c₀.mode = u → CdS P ⟨K,[]⟩ B.plain (postS P fn B.plain R c₀ cs) c (slots 0 vs) A (c₀ :: cs)):DCon P B0 f vs.toArray u A R:=by
 intro B w he hS
 have hle':vs.length ≤ K:=by simpa [Nat.ble_eq] using hle
 have pl:∀ {A' w'},Sat B.plain A' w' → Sat B A' w':=fun hS'=>⟨hS'.os,hS'.tape,hS'.output,hS'.base,hS'.here,hS'.apart,hS'.nodup⟩
 refine (callsDIn_of_wpSIn (F:=Fence.wide) (n:=0) hf hb trivial (R:=fun e u' w'=>∃ v A',e = .returned v ∧ R u' A' ∧ Sat B.plain A' w') fun c₀ cs hu=>h B c₀ cs he.plain hu _ w ⟨by simp [hN];omega,rfl,fun i v hi=>?_⟩ ⟨hS.os,hS.tape,hS.output,hS.base,hS.here,hS.apart,hS.nodup⟩).mono fun e u' w' ⟨v,A',he,hR,hS'⟩=>⟨v,A',he,hR,pl hS'⟩
 obtain ⟨j,hj,hv⟩:=look_slots _ _ _ _ hi
 simp only [Nat.zero_add] at hj
 subst hj
 have hlt:i < vs.length:=(List.getElem?_eq_some_iff.1 hv).1
 simp only [Array.getElem?_append_left (show i < vs.toArray.size by simpa using hlt)]
 simpa using hv
def calmOp:Op → Bool
 | .move _|.assign _|.pick ..|.typeAssert ..|.extract ..|.unOp ..|.binOp ..|.load ..|.store ..|.fieldAddr ..|.build ..|.box ..|.alloc ..=>true
 | _=>false
theorem calm_run {P:Program} {o:Oper} (h:calmOp o.op = true) (ρ:Operand → Value) (w:World):match (execOp ρ o).run P w with
  | .ok (.value _) _|.ok .skip _|.halt _ _=>True
  | _=>False:=by
 have hv:∀ s:Sem Value,(match (do pure (Next.value (← s)):Sem Next).run P w with
  | .ok (.value _) _|.ok .skip _|.halt _ _=>True
  | _=>False):=fun s=>by
  simp only [Sem.run_bind]
  cases s.run P w <;> simp
 have hu:∀ s:Sem Unit,(match (do s;pure Next.skip:Sem Next).run P w with
  | .ok (.value _) _|.ok .skip _|.halt _ _=>True
  | _=>False):=fun s=>by
  simp only [Sem.run_bind]
  cases s.run P w <;> simp
 unfold execOp
 cases ho:o.op <;> simp only [calmOp,ho,Bool.false_eq_true] at h ⊢
 case pick c a b =>
  simp only [Sem.run_bind]
  cases (asBool (ρ c)).run P w <;> simp
 case box e x =>
  simp only [Sem.run_bind]
  cases (Instr.box e (ρ x)).run P w <;> simp
 all_goals first
  | exact hv _
  | exact hu _
  | (simp;done)
def wpListS (P:Program) (ops:Array Oper) (Q:Exit → Act → List Frame → World → Prop):List Oper → Act → List Frame → World → Prop
 | [],a,cs,w=>Q .normal a cs w
 | o :: rest,a,cs,w =>
   if Region.wanted o (yielded ops a.tmps) then
    match (execOp a.eval o).run P w with
    | .ok .recover w' =>
     match recoverD cs with
     | some (v,cs')=>wpListS P ops Q rest (a.put o.dst v) cs' w'
     | none=>wpListS P ops Q rest (a.put o.dst .nilIface) cs w'
    | .ok (.value v) w'=>wpListS P ops Q rest (a.put o.dst v) cs w'
    | .ok .skip w'=>wpListS P ops Q rest (a.put o.dst undef) cs w'
    | .halt (.panic v) w'=>Q (.panic [{ v,recovered:=false }]) a cs w'
    | _=>False
   else wpListS P ops Q rest (a.put o.dst undef) cs w
theorem wpOpsS_of_list {P:Program} {ops:Array Oper} {Q:Exit → Act → List Frame → World → Prop}:∀ (l:List Oper) (k:Nat),(∀ j,l[j]? = ops[k + j]?) → ∀ a cs w,wpListS P ops Q l a cs w → wpOpsSIn Fence.wide 0 P ops Q (List.range' k l.length) a cs w
 | [],_,_,_,_,_,h=>h
 | o :: l,k,hk,a,cs,w,h=>by
  have h0:ops[k]? = some o:=by have:=hk 0;simpa using this.symm
  have ih:=wpOpsS_of_list (P:=P) (ops:=ops) (Q:=Q) l (k + 1) (fun j=>by have:=hk (j + 1);rw [List.getElem?_cons_succ] at this;rw [this];congr 1;omega)
  show wpOpsSIn Fence.wide 0 P ops Q (k :: List.range' (k + 1) l.length) a cs w
  unfold wpOpsSIn
  simp only [h0]
  refine ⟨fun _ _=>trivial,?_⟩
  unfold wpListS at h
  by_cases hw:Region.wanted o (yielded ops a.tmps) = true
  ·rw [if_pos hw] at h ⊢
   generalize (execOp a.eval o).run P w = r at h ⊢
   cases r with
   | ok n w' =>
    cases n <;> dsimp only at h ⊢ <;> first|exact h.elim|exact ih _ _ _ h|skip
    case recover =>
     cases hr:recoverD cs with
     | none=>rw [hr] at h;exact ih _ _ _ h
     | some p=>rw [hr] at h;obtain ⟨v,cs'⟩:=p;exact ih _ _ _ h
   | halt x w'=>cases x <;> dsimp only at h ⊢ <;> first|exact h.elim|exact h
  ·rw [if_neg hw] at h ⊢
   exact ih _ _ _ h
theorem wpListS_of_in {P:Program} {ops:Array Oper} {Q:Exit → Act → List Frame → World → Prop} {cs:List Frame}:∀ (l:List Oper),(l.all fun o=>calmOp o.op) = true → ∀ a w,wpListIn Fence.wide 0 P ops (fun e a' w'=>Q e a' cs w') l a w → wpListS P ops Q l a cs w
 | [],_,_,_,h=>h
 | o :: l,hc,a,w,h=>by
  rw [List.all_cons,Bool.and_eq_true] at hc
  have ih:=wpListS_of_in (P:=P) (ops:=ops) (Q:=Q) (cs:=cs) l hc.2
  unfold wpListS
  unfold wpListIn at h
  by_cases hw:Region.wanted o (yielded ops a.tmps) = true
  ·rw [if_pos hw] at h ⊢
   have hcr:=calm_run (P:=P) (o:=o) hc.1 a.eval w
   unfold Oper.wpIn at h
   have h:=h.2
   rw [show (Fence.wide).round = none from rfl,Oper.semAt_none] at h
   generalize (execOp a.eval o).run P w = r at h hcr ⊢
   cases r with
   | ok n w'=>cases n <;> dsimp only at hcr ⊢ <;> first|exact hcr.elim|exact ih _ _ h
   | halt x w'=>cases x <;> dsimp only [Oper.uponIn] at h ⊢ <;> exact h
  ·rw [if_neg hw] at h ⊢
   exact ih _ _ h.2
section
variable {P:Program} {N:Fi} {B:Base} {Q:Exit → Act → List Frame → World → Prop} {T:Tm} {A:List Blk} {cs:List Frame}
theorem CdS.seq {x y:Code} (h:CdS P N B (Exit.thenS (y.wpSIn Fence.wide 0 P Q) Q) x T A cs):CdS P N B Q (.seq x y) T A cs:=fun a w hF hS=>wpSIn_seq (h a w hF hS)
theorem CdS.of {c:Code} (hr:B.round = none) (h:Cd P N B (fun e a w=>Q e a cs w) c T A):CdS P N B Q c T A cs:=fun a w hF hS=>by
 have h1:=h a w hF hS
 have hfen:fen B = Fence.wide:=by unfold fen Fence.wide;rw [hr]
 rw [hfen] at h1
 exact wpSIn_of_wpIn rfl h1
theorem CdS.next {c:Code} (h:CdS P N B Q c T A cs):∀ a w,Fr N T a → Sat B A w → Exit.thenS (c.wpSIn Fence.wide 0 P Q) Q .normal a cs w:=h
theorem CdS.rec_ {id d:Nat} {ty:TypeId} {pos:String} {af:Array Edge} {ats:Array TypeId} {l:List Oper} {v:Value} {cs':List Frame} (hr:B.round = none) (hrec:recoverD cs = some (v,cs')) (hd:Nat.blt d N.n = true) (hcalm:(l.all fun o=>calmOp o.op) = true)
  (h:Ops P N B (fun e a w=>Q e a cs' w) (⟨some d,.call { callee:=.builtin .recover,args:=#[],argTypes:=ats },ty,pos,af,none⟩ :: l).toArray none l ((d,v) :: T) A) :
  CdS P N B Q (.region id (⟨some d,.call { callee:=.builtin .recover,args:=#[],argTypes:=ats },ty,pos,af,none⟩ :: l).toArray false) T A cs:=fun a w hF hS=>by
 refine wpSIn_region ?_
 rw [List.range_eq_range']
 refine wpOpsS_of_list _ 0 (fun j=>by simp) a cs w ?_
 unfold wpListS
 rw [if_pos (by simp [Region.wanted])]
 have hrun:(execOp a.eval ⟨some d,.call { callee:=.builtin .recover,args:=#[],argTypes:=ats },ty,pos,af,none⟩).run P w = .ok .recover w:=by
  simp [execOp,resolve,invoke,builtin]
 rw [hrun]
 simp only [hrec]
 have h1:=h _ w (hF.put hd v) hS
 have hfen:fen B = Fence.wide:=by unfold fen Fence.wide;rw [hr]
 rw [hfen] at h1
 exact wpListS_of_in l hcalm _ _ h1
theorem CdS.rec_no {id d:Nat} {ty:TypeId} {pos:String} {af:Array Edge} {ats:Array TypeId} {l:List Oper} (hr:B.round = none) (hrec:recoverD cs = none) (hd:Nat.blt d N.n = true) (hcalm:(l.all fun o=>calmOp o.op) = true)
  (h:Ops P N B (fun e a w=>Q e a cs w) (⟨some d,.call { callee:=.builtin .recover,args:=#[],argTypes:=ats },ty,pos,af,none⟩ :: l).toArray none l ((d,.nilIface) :: T) A) :
  CdS P N B Q (.region id (⟨some d,.call { callee:=.builtin .recover,args:=#[],argTypes:=ats },ty,pos,af,none⟩ :: l).toArray false) T A cs:=fun a w hF hS=>by
 refine wpSIn_region ?_
 rw [List.range_eq_range']
 refine wpOpsS_of_list _ 0 (fun j=>by simp) a cs w ?_
 unfold wpListS
 rw [if_pos (by simp [Region.wanted])]
 have hrun:(execOp a.eval ⟨some d,.call { callee:=.builtin .recover,args:=#[],argTypes:=ats },ty,pos,af,none⟩).run P w = .ok .recover w:=by
  simp [execOp,resolve,invoke,builtin]
 rw [hrun]
 simp only [hrec]
 have h1:=h _ w (hF.put hd .nilIface) hS
 have hfen:fen B = Fence.wide:=by unfold fen Fence.wide;rw [hr]
 rw [hfen] at h1
 exact wpListS_of_in l hcalm _ _ h1
end
section
variable {P:Program} {K:Nat} {B:Base} {T:Tm} {A A':List Blk} {fn:Func} {R:FrameMode → List Blk → Prop} {c₀:Frame} {cs:List Frame}
theorem retS {u':FrameMode} (hr:fn.results = #[]) (hA:∀ w,Sat B A w → Sat B A' w) (hR:R u' A'):∀ a w,Fr ⟨K,[]⟩ T a → Sat B A w → postS P fn B R c₀ cs .ret a ({ c₀ with mode:=u' } :: cs) w :=
 fun a w hF hS=>⟨hF.dfr,u',rfl,.tuple #[],by simp [results,hr],.tuple #[],A',rfl,hR,hA w hS⟩
theorem endS {u':FrameMode} (hr:fn.results = #[]) (hA:∀ w,Sat B A w → Sat B A' w) (hR:R u' A'):∀ a w,Fr ⟨K,[]⟩ T a → Sat B A w → postS P fn B R c₀ cs .normal a ({ c₀ with mode:=u' } :: cs) w:=retS hr hA hR
end
end Go.Sep
namespace Go.Sep
open Go
def orI (k:IntKind) (a b:Int):Int:=k.wrap ((BitVec.ofInt k.bits a ||| BitVec.ofInt k.bits b).toNat:Int)
def andI (k:IntKind) (a b:Int):Int:=k.wrap ((BitVec.ofInt k.bits a &&& BitVec.ofInt k.bits b).toNat:Int)
section
variable {P:Program} {t:TypeId} {k:IntKind} {a b:Int}
instance (priority:=400) BinRun.orI:BinRun P .or t (.int k a) (.int k b) (.int k (orI k a b)):=⟨fun _ _ w=>by simp [eqGuard,binOp,Op.intBits,Sep.orI]⟩
instance (priority:=400) BinRun.andI:BinRun P .and t (.int k a) (.int k b) (.int k (andI k a b)):=⟨fun _ _ w=>by simp [eqGuard,binOp,Op.intBits,Sep.andI]⟩
end
section
variable {P:Program} {N:Fi} {B:Base} {Q:Exit → Act → World → Prop} {T:Tm} {A:List Blk} {ops:Array Oper} {l:List Oper}
variable {d:Nat} {ty:TypeId} {pos:String} {af:Array Edge} {m:Md} {gd:Option (Nat × Bool)}
theorem Ops.shlI {t u:TypeId} {x y:Operand} {k1 k2:IntKind} {a b:Int} (hm:m.rd true = true) (hg:gst ops T gd = some true) (hx:ev T x = some (.int k1 a)) (hy:ev T y = some (.int k2 b)) (h0:0 ≤ b) (hd:Nat.blt d N.n = true)
  (k:Ops P N B Q ops m.tl l ((d,.int k1 (k1.wrap (a * 2 ^ (min b.toNat k1.bits)))) :: T) A):Ops P N B Q ops m (⟨some d,.binOp .shl t x y u,ty,pos,af,gd⟩ :: l) T A :=
 Ops.pureV hm hg hd (fun a' w hF=>by
  simp [execOp,hF.eval hx,hF.eval hy,eqGuard,binOp,Op.shift,show ¬ b < 0 from by omega]) k
theorem Ops.cat {t u:TypeId} {x y:Operand} {s r:ByteArray} (hm:m.rd true = true) (hg:gst ops T gd = some true) (hx:ev T x = some (.string s)) (hy:ev T y = some (.string r)) (hs:s.size + r.size ≤ 4611686018427387904) (hd:Nat.blt d N.n = true)
  (k:Ops P N B Q ops m.tl l ((d,.string (s ++ r)) :: T) A):Ops P N B Q ops m (⟨some d,.binOp .add t x y u,ty,pos,af,gd⟩ :: l) T A :=
 Ops.pureV hm hg hd (fun a' w hF=>by
  have:¬ ((s.size + r.size:Nat):Int) > IntKind.i64.max:=by simp [IntKind.max,IntKind.bits,IntKind.signed];omega
  simp only [execOp,hF.eval hx,hF.eval hy,eqGuard,binOp,Op.stringOp,if_neg this]
  simp) k
end
theorem orI_u64 {a b:Nat} (ha:a < 18446744073709551616) (hb:b < 18446744073709551616):orI .u64 (a:Int) (b:Int) = ((a ||| b:Nat):Int):=by
 have hlt:a ||| b < 2 ^ 64:=Nat.or_lt_two_pow (by omega) (by omega)
 show IntKind.wrap .u64 ((BitVec.ofInt 64 (a:Int) ||| BitVec.ofInt 64 (b:Int)).toNat:Int) = _
 rw [BitVec.toNat_or,BitVec.toNat_ofInt,BitVec.toNat_ofInt]
 rw [show ((a:Int) % ((2 ^ 64:Nat):Int)).toNat = a from by omega,show ((b:Int) % ((2 ^ 64:Nat):Int)).toNat = b from by omega]
 simp only [IntKind.wrap,IntKind.bits,IntKind.signed,Bool.false_and,Bool.false_eq_true,if_false]
 omega
theorem orI_u8 {a b:Nat} (ha:a < 256) (hb:b < 256):orI .u8 (a:Int) (b:Int) = ((a ||| b:Nat):Int):=by
 have hlt:a ||| b < 2 ^ 8:=Nat.or_lt_two_pow (by omega) (by omega)
 show IntKind.wrap .u8 ((BitVec.ofInt 8 (a:Int) ||| BitVec.ofInt 8 (b:Int)).toNat:Int) = _
 rw [BitVec.toNat_or,BitVec.toNat_ofInt,BitVec.toNat_ofInt]
 rw [show ((a:Int) % ((2 ^ 8:Nat):Int)).toNat = a from by omega,show ((b:Int) % ((2 ^ 8:Nat):Int)).toNat = b from by omega]
 simp only [IntKind.wrap,IntKind.bits,IntKind.signed,Bool.false_and,Bool.false_eq_true,if_false]
 omega
theorem andI_u8 {a b:Nat} (ha:a < 256) (hb:b < 256):andI .u8 (a:Int) (b:Int) = ((a &&& b:Nat):Int):=by
 have hlt:a &&& b < 2 ^ 8:=Nat.and_lt_two_pow _ (by omega)
 show IntKind.wrap .u8 ((BitVec.ofInt 8 (a:Int) &&& BitVec.ofInt 8 (b:Int)).toNat:Int) = _
 rw [BitVec.toNat_and,BitVec.toNat_ofInt,BitVec.toNat_ofInt]
 rw [show ((a:Int) % ((2 ^ 8:Nat):Int)).toNat = a from by omega,show ((b:Int) % ((2 ^ 8:Nat):Int)).toNat = b from by omega]
 simp only [IntKind.wrap,IntKind.bits,IntKind.signed,Bool.false_and,Bool.false_eq_true,if_false]
 omega
end Go.Sep
namespace Go.Sep
open Go
section
variable {P:Program} {N:Fi} {B:Base} {Q:Exit → Act → World → Prop} {T:Tm} {A:List Blk} {ops:Array Oper} {l:List Oper}
variable {d:Nat} {ty:TypeId} {pos:String} {af:Array Edge} {m:Md} {gd:Option (Nat × Bool)}
theorem Ops.ixA {t e:TypeId} {ge:Bool} {x y:Operand} {n sz' bs':Nat} {zc':List Value} {b o:Nat} {k':IntKind} {i:Int} (hm:m.rd true = true) (hg:gst ops T gd = some true) [ht:TyD P t (.array n e)] [he:Ty P e ge sz' bs' zc']
  (hx:ev T x = some (.pointer (some ⟨b,o,none⟩))) (hy:ev T y = some (.int k' i)) (h0:0 ≤ i) (h1:i < n) (hd:Nat.blt d N.n = true)
  (k:Ops P N B Q ops m.tl l ((d,.pointer (some ⟨b,o + i.toNat * sz',none⟩)) :: T) A):Ops P N B Q ops m (⟨some d,.indexAddr t x y,ty,pos,af,gd⟩ :: l) T A :=
 Ops.pureV hm hg hd (fun a w hF=>by
  simp [execOp,hF.eval hx,hF.eval hy,Instr.indexAt,Instr.sureAddr,asIntOf,ht.run_und,he.run_size,h0,h1,add_none]) k
end
theorem SetS.all {l l':List Value} (h:l.length = l'.length):SetS l 0 l' l':=⟨by simp [← h],by omega⟩
end Go.Sep
namespace Go.Sep
open Go
def Rs (E sz:Nat) (sv:Value) (rows:List (List Value)) (G:List Blk):Prop :=
 RowsOk sz rows ∧ ((sv = .slice none 0 0 ∧ rows = [] ∧ G = []) ∨ ∃ g c spare,sv = .slice (some ⟨g,0,none⟩) rows.length c ∧ G = [(g,cl (rows.flatten ++ spare) E)])
theorem Rs.form {E sz:Nat} {sv:Value} {rows:List (List Value)} {G:List Blk} (h:Rs E sz sv rows G):∃ a c,sv = .slice a rows.length c:=by
 rcases h.2 with ⟨rfl,rfl,_⟩|⟨g,c,_,rfl,_⟩
 ·exact ⟨_,_,rfl⟩
 ·exact ⟨_,_,rfl⟩
theorem Rs.some_ {E sz:Nat} {sv:Value} {rows:List (List Value)} {G:List Blk} (h:Rs E sz sv rows G) (hn:0 < rows.length) :
  ∃ g c spare,sv = .slice (some ⟨g,0,.none⟩) rows.length c ∧ G = [(g,cl (rows.flatten ++ spare) E)]:=by
 rcases h.2 with ⟨_,rfl,_⟩|h
 ·simp at hn
 ·exact h
section
variable {P:Program} {N:Fi} {B:Base} {Q:Exit → Act → World → Prop} {T:Tm} {A:List Blk} {ops:Array Oper} {l:List Oper}
variable {d:Nat} {ty:TypeId} {pos:String} {af:Array Edge} {m:Md} {gd:Option (Nat × Bool)}
theorem Ops.slHM {t e:TypeId} {ge:Bool} {x z u:Operand} {sz bs n c:Nat} {a0:Option Addr} {zc:List Value} {k2 k3:IntKind} {j q:Int} (hm:m.rd true = true) (hg:gst ops T gd = some true) [ht:TyD P t (.slice e)] [he:Ty P e ge sz bs zc]
  (hx:ev T x = some (.slice a0 n c)) (hz:ev T z = some (.int k2 j)) (hu:ev T u = some (.int k3 q)) (h1:0 ≤ j) (h2:j ≤ q) (h3:q ≤ c) (hd:Nat.blt d N.n = true)
  (k:Ops P N B Q ops m.tl l ((d,.slice a0 j.toNat q.toNat) :: T) A):Ops P N B Q ops m (⟨some d,.slice t x none (some z) (some u),ty,pos,af,gd⟩ :: l) T A :=
 Ops.pureV hm hg hd (fun a w hF=>by
  have e0:(if q.toNat = 0 then a0 else a0.map (·.add (0 * sz))) = a0:=by
   split
   ·rfl
   ·cases a0 <;> simp [Addr.add]
  simp only [execOp,hF.eval hx,hF.eval hz,hF.eval hu,Option.map_some,Option.map_none,Instr.sliceAt,Instr.slice,ht.run_und,Instr.sliceBounds,run_bound (show 0 ≤ q by omega) h3,run_bound h1 (show j ≤ (q.toNat:Int) by omega),if_true,Option.isSome_some,he.run_size,Sem.run_bind,Sem.run_pure,Result.andThen_ok,e0,Nat.sub_zero]) k
theorem eqIn_funcNil {t:TypeId} {ps rs:Array TypeId} {vr:Bool} [h:TyD P t (.func ps rs vr)] {f:Fn} {x y:Array Value} {w:World} (d:Nat):(Op.equalIn (d + 1) t (.func f x y) .nilFunc).run P w = .ok false w:=by
 simp [Op.equalIn,h.run_und]
theorem run_eqGuard_func {t:TypeId} {op:BinOp} {xo yo:Operand} {f:Fn} {x y:Array Value} {w:World}:(eqGuard op t xo yo (.func f x y) .nilFunc).run P w = .ok () w:=by
 unfold eqGuard;cases op <;> rfl
instance BinRun.eqFuncNil {t:TypeId} {ps rs:Array TypeId} {vr:Bool} [h:TyD P t (.func ps rs vr)] {f:Fn} {x y:Array Value}:BinRun P .eql t (.func f x y) .nilFunc (.bool false):=⟨fun xo yo w=>by
 rw [Sem.run_bind,run_eqGuard_func,Result.andThen_ok]
 exact run_eql rfl fun d=>eqIn_funcNil d⟩
end
end Go.Sep
namespace Go.Sep
open Go
section
variable {P:Program} {kt:TypeId} {w:World}
end
section
variable {P:Program} {N:Fi} {B:Base} {Q:Exit → Act → World → Prop} {T:Tm} {A:List Blk} {ops:Array Oper} {l:List Oper}
variable {d:Nat} {ty:TypeId} {pos:String} {af:Array Edge} {m:Md} {gd:Option (Nat × Bool)}
end
end Go.Sep
namespace Go.Sep
open Go
section
variable {P:Program} {N:Fi} {B:Base} {Q:Exit → Act → World → Prop} {T:Tm} {A:List Blk} {ops:Array Oper} {l:List Oper}
variable {d:Nat} {ty:TypeId} {pos:String} {af:Array Edge} {m:Md} {gd:Option (Nat × Bool)}
theorem rows_get {sz i o n:Nat} {r r':List Value} {rows:List (List Value)} (hr:RowsOk sz rows) (hi:rows[i]? = some r) (hg:GetS r o n r') (spare:List Value):∀ (j:Nat) (u:Value),r'[j]? = some u → (rows.flatten ++ spare)[i * sz + o + j]? = some u:=fun j u hu=>by
 have h1:=getS_at hg j u hu
 have hl:=(hr r (List.mem_of_getElem? hi)).1
 have ho:o + j < sz:=by rw [← hl];exact (List.getElem?_eq_some_iff.1 h1).1
 have h2:=hr.at_ hi ho
 rw [Nat.add_assoc,List.getElem?_append_left (List.getElem?_eq_some_iff.1 (h2.trans h1)).1,h2,h1]
theorem Ops.ldRowN {t:TypeId} {x:Operand} {b i o:Nat} {sz sz' bs:Nat} {zc r r':List Value} {rows:List (List Value)} {spare:List Value} {E:TypeId} (hm:m.rd false = true) (hg:gst ops T gd = some true) [ht:Ty P t true sz' bs zc]
  (hx:ev T x = some (.pointer (some ⟨b,i * sz + o,none⟩))) [hb:Has A b (cl (rows.flatten ++ spare) E)] (hr:RowsOk sz rows) (hi:rows[i]? = some r) [hs:GetS r o sz' r'] (hd:Nat.blt d N.n = true)
  (k:Ops P N B Q ops m.tl l ((d,.agg r'.toArray) :: T) A):Ops P N B Q ops m (⟨some d,.load t x,ty,pos,af,gd⟩ :: l) T A :=
 Ops.readV hm hg hd (fun a w hF hS=>by
  have hc:∀ (j:Nat) (u:Value),r'[j]? = some u → w.cell? ⟨b,i * sz + o + j,none⟩ = some u:=fun j u hu=>(cell_of (hS.here _ hb.mem) _).trans (rows_get hr hi hs spare j u hu)
  simp [execOp,hF.eval hx,run_loadAtN ht (getS_len hs) hc]) k
theorem rows_setN {sz i o:Nat} {r r' vs:List Value} {rows:List (List Value)} (hr:RowsOk sz rows) (hi:rows[i]? = some r) (hs:SetS r o vs r') (spare:List Value) :
  ins (rows.flatten ++ spare) (i * sz + o) vs = (rows.set i r').flatten ++ spare:=by
 have hlt:=(List.getElem?_eq_some_iff.1 hi).1
 have hl:=rows_mid_len hr (Nat.le_of_lt hlt)
 rw [rows_mid (spare:=spare) hi,← hl,ins_mid hs.eq.2,← rows_mid_set hlt,hs.eq.1]
 rfl
theorem Ops.stRowN {t:TypeId} {x y:Operand} {b i o:Nat} {gt:Bool} {sz sz' bs:Nat} {zc r r' vs:List Value} {rows:List (List Value)} {spare:List Value} {E:TypeId} {A':List Blk} (hm:m.eff = true) (hg:gst ops T gd = some true) [ht:Ty P t gt sz' bs zc]
  (hx:ev T x = some (.pointer (some ⟨b,i * sz + o,none⟩))) (hy:ev T y = some (.agg vs.toArray)) (h1:oneAll vs = true) (hn:vs.length = sz') [_hb:Has A b (cl (rows.flatten ++ spare) E)] (hr:RowsOk sz rows) (hi:rows[i]? = some r) [hs:SetS r o vs r']
  [hu:Upd A b (cl (rows.flatten ++ spare) E) (cl ((rows.set i r').flatten ++ spare) E) A'] (hp:Pd P N B ops m T none (fun _ X=>X = A'))
  (k:Ops P N B Q ops m.tl l T A'):Ops P N B Q ops m (⟨none,.store t x y,ty,pos,af,gd⟩ :: l) T A :=
 Ops.unit hm hp hg (fun a w hF hS=>by
  obtain ⟨A1,A2,rfl,rfl⟩:=hu.put
  have hlt:=(List.getElem?_eq_some_iff.1 hi).1
  have hlr:=(hr r (List.mem_of_getElem? hi)).1
  have hso:=hs.eq.2
  have hfit:i * sz + o + vs.length ≤ (rows.flatten ++ spare).length:=by
   have h2:(i + 1) * sz ≤ rows.length * sz:=Nat.mul_le_mul_right _ hlt
   rw [List.length_append,hr.len]
   rw [Nat.add_mul,Nat.one_mul] at h2
   omega
  obtain ⟨w',hr',hS'⟩:=run_storeAt (P:=P) hS ht (v:=.agg vs.toArray) rfl hn (off:=i * sz + o) (oneAll_mem h1) hfit
  refine ⟨w',by simp [execOp,hF.eval hx,hF.eval hy,hr'],?_⟩
  rw [rows_setN hr hi hs] at hS'
  exact hS') k
end
theorem Con.beside {P:Program} {f:FuncId} {args:Array Value} {A F:List Blk} {R:Value → List Blk → Prop} (h:Con P f args A R):Con P f args (A ++ F) fun v X=>∃ A',R v A' ∧ X = A' ++ F:=fun B w hS =>
 (h.frame hS).mono fun _ _ ⟨v,A',he,hR,hS'⟩=>⟨v,_,he,⟨A',hR,rfl⟩,hS'⟩
theorem Con.permIn {P:Program} {f:FuncId} {args:Array Value} {A A2:List Blk} {R:Value → List Blk → Prop} (h:Con P f args A R) (hp:A2.Perm A):Con P f args A2 R:=fun B w hS=>h B w (hS.perm hp)
theorem Con.permOut {P:Program} {f:FuncId} {args:Array Value} {A:List Blk} {R R':Value → List Blk → Prop} (h:Con P f args A R) (hr:∀ v A',R v A' → ∃ A2,R' v A2 ∧ A'.Perm A2):Con P f args A R':=fun B w hS =>
 (h B w hS).mono fun _ _ ⟨v,A',he,hR,hS'⟩=>by
  obtain ⟨A2,h2,hp⟩:=hr _ _ hR
  exact ⟨v,A2,he,h2,hS'.perm hp⟩
theorem ConB.beside {P:Program} {B0:Base} {f:FuncId} {args:Array Value} {A F:List Blk} {R:Value → List Blk → Prop} (h:ConB P B0 f args A R):ConB P B0 f args (A ++ F) fun v X=>∃ A',R v A' ∧ X = A' ++ F:=fun B w hx hS =>
 (h.frame hx hS).mono fun _ _ ⟨v,A',he,hR,hS'⟩=>⟨v,_,he,⟨A',hR,rfl⟩,hS'⟩
theorem ConB.permIn {P:Program} {B0:Base} {f:FuncId} {args:Array Value} {A A2:List Blk} {R:Value → List Blk → Prop} (h:ConB P B0 f args A R) (hp:A2.Perm A):ConB P B0 f args A2 R:=fun B w hx hS=>h B w hx (hS.perm hp)
theorem ConB.permOut {P:Program} {B0:Base} {f:FuncId} {args:Array Value} {A:List Blk} {R R':Value → List Blk → Prop} (h:ConB P B0 f args A R) (hr:∀ v A',R v A' → ∃ A2,R' v A2 ∧ A'.Perm A2):ConB P B0 f args A R':=fun B w hx hS =>
 (h B w hx hS).mono fun _ _ ⟨v,A',he,hR,hS'⟩=>by
  obtain ⟨A2,h2,hp⟩:=hr _ _ hR
  exact ⟨v,A2,he,h2,hS'.perm hp⟩
def Holds (B0:Base) (G:List Blk):Prop:=∀ p ∈ G,B0.h p.1 = some p.2
theorem ConB.lend {P:Program} {B1:Base} {f:FuncId} {args:Array Value} {A1 G:List Blk} {R:Value → List Blk → Prop} (h:∀ B0,Ext B1 B0 → Holds B0 G → ConB P B0 f args A1 R):ConB P B1 f args (A1 ++ G) fun v X=>∃ A',R v A' ∧ X = A' ++ G:=fun B w hx hS=>by
 have hG:Holds (B.with G) G:=fun p hp=>by simp only [Base.with,find_of_mem hS.right.nodup hp]
 exact ((h (B.with G) (hx.trans (Ext.with hS)) hG) (B.with G) w (Ext.refl _) hS.frameIn).mono fun _ _ ⟨v,A',he,hR,hS'⟩=>⟨v,_,he,⟨A',hR,rfl⟩,hS.frameOut hS'⟩
theorem Holds.cell {B0:Base} {G:List Blk} (h:Holds B0 G) {g:Nat} {l:List Value} {E:TypeId} (hm:(g,cl l E) ∈ G) {o:Nat} {v:Value} (hv:l[o]? = some v) (A:List Blk):Rd B0 A g o v:=fun w hS =>
 (cell_of (hS.base g _ (h _ hm)) o).trans hv
theorem Ext.holds {B0 B1:Base} {G:List Blk} (e:Ext B0 B1) (h:Holds B0 G):Holds B1 G:=fun p hp=>e.h _ _ (h p hp)
section
variable {P:Program} {N:Fi} {B:Base} {Q:Exit → Act → World → Prop} {T:Tm} {A:List Blk} {ops:Array Oper} {l:List Oper}
variable {d:Nat} {ty:TypeId} {pos:String} {af:Array Edge} {m:Md} {gd:Option (Nat × Bool)}
theorem Ops.callVB {B0:Base} {f:FuncId} {c:Operand} {fi ca:List Value} {xs:List Operand} {ats:Array TypeId} {vs:List Value} {A1 F:List Blk} {R:Value → List Blk → Prop} (h:ConB P B0 f (fi ++ vs ++ ca).toArray A1 R) (hx0:Ext B0 B) (hm:m.eff = true) [hs:Split A A1 F] (hp:Pd P N B ops m T (some d) (CallR R F)) (hg:gst ops T gd = some true)
  (hc:ev T c = some (.func (.func f) fi.toArray ca.toArray)) [hf:FnOk P f] (hx:evs T xs = some vs) (hd:Nat.blt d N.n = true) (k:∀ v A',R v A' → Ops P N B Q ops m.tl l ((d,v) :: T) (A' ++ F)) :
  Ops P N B Q ops m (⟨some d,.call { callee:=.value c,args:=xs.toArray,argTypes:=ats },ty,pos,af,gd⟩ :: l) T A :=
 Ops.effV hm hp hg hd (fun a w hF hS=>by
  have:(execOp a.eval ⟨some d,.call { callee:=.value c,args:=xs.toArray,argTypes:=ats },ty,pos,af,gd⟩).run P w = .ok (.enter f (fi ++ vs ++ ca).toArray) w:=by
   simp [execOp,resolve,hF.eval hc,Deferred.ofValue,invoke,run_callFunc hf,hF.evals hx]
  rw [this]
  exact (h.frame hx0 (hS.perm hs.perm)).mono fun e w' ⟨v,A',he,hR,hS'⟩=>⟨v,_,he,⟨A',hR,rfl⟩,hS'⟩) fun v X ⟨A',hR,hX⟩=>by rw [hX];exact k v A' hR
end
end Go.Sep
namespace Go.Sep
open Go
class NoIf (P:Program) (t:TypeId):Prop where
 und:∃ dd,P.underlying t = some dd ∧ (match dd with|.interface _=>false|_=>true) = true
theorem NoIf.get {P:Program} {t:TypeId} (h:NoIf P t):∃ dd,(∀ w:World,(underlying t).run P w = .ok dd w) ∧ ∀ ms,dd ≠ .interface ms:=by
 obtain ⟨dd,h1,h2⟩:=h.und
 exact ⟨dd,fun w=>run_underlying h1 w,fun ms hm=>by subst hm;cases h2⟩
theorem run_pushes {P:Program} {w:World} {f:Value → ByteArray → Sem (ForInStep ByteArray)} (hf:∀ n s,f (.int .u8 n) s = pure (ForInStep.yield (s.push (UInt8.ofNat n.toNat)))):∀ (xs:List Int) (s:ByteArray),
  (forIn (xs.map fun n=>(Value.int .u8 n)) s f).run P w = .ok (xs.foldl (fun r n=>r.push (UInt8.ofNat n.toNat)) s) w
 | [],s=>by simp
 | x :: xs,s=>by
  simp only [List.map_cons,List.forIn_cons,Sem.run_bind,hf,Sem.run_pure,Result.andThen_ok,List.foldl_cons]
  exact run_pushes hf xs _
theorem flat_bytes (xs:List Int):(xs.map fun n=>[Value.int .u8 n]).flatten = xs.map fun n=>Value.int .u8 n:=by
 induction xs with
 | nil=>rfl
 | cons y ys ih=>rw [List.map_cons,List.flatten_cons,ih];rfl
def bytesOf (xs:List Int):ByteArray:=xs.foldl (fun r n=>r.push (UInt8.ofNat n.toNat)) .empty
section
variable {P:Program} {N:Fi} {B:Base} {Q:Exit → Act → World → Prop} {T:Tm} {A:List Blk} {ops:Array Oper} {l:List Oper}
variable {d:Nat} {ty:TypeId} {pos:String} {af:Array Edge} {m:Md} {gd:Option (Nat × Bool)}
theorem Ops.slS {t:TypeId} {x y z:Operand} {k' k'':IntKind} {i j:Int} {s:ByteArray} (hm:m.rd true = true) (hg:gst ops T gd = some true) [ht:TyD P t .string]
  (hx:ev T x = some (.string s)) (hy:ev T y = some (.int k' i)) (hz:ev T z = some (.int k'' j)) (h0:0 ≤ i) (h1:i ≤ j) (h2:j ≤ s.size) (hd:Nat.blt d N.n = true)
  (k:Ops P N B Q ops m.tl l ((d,.string (s.extract i.toNat j.toNat)) :: T) A):Ops P N B Q ops m (⟨some d,.slice t x (some y) (some z) none,ty,pos,af,gd⟩ :: l) T A :=
 Ops.pureV hm hg hd (fun a w hF=>by
  simp only [execOp,hF.eval hx,hF.eval hy,hF.eval hz,Option.map_some,Option.map_none,Instr.sliceAt,Instr.slice,ht.run_und,Instr.sliceBounds,run_bound (show 0 ≤ j by omega) h2,run_bound h0 (show i ≤ (j.toNat:Int) by omega),if_true,Option.isSome_none,Bool.false_eq_true,if_false,Sem.run_bind,Sem.run_pure,Result.andThen_ok]) k
theorem Ops.slSLo {t:TypeId} {x y:Operand} {k':IntKind} {i:Int} {s:ByteArray} (hm:m.rd true = true) (hg:gst ops T gd = some true) [ht:TyD P t .string]
  (hx:ev T x = some (.string s)) (hy:ev T y = some (.int k' i)) (h0:0 ≤ i) (h2:i ≤ s.size) (hd:Nat.blt d N.n = true)
  (k:Ops P N B Q ops m.tl l ((d,.string (s.extract i.toNat s.size)) :: T) A):Ops P N B Q ops m (⟨some d,.slice t x (some y) none none,ty,pos,af,gd⟩ :: l) T A :=
 Ops.pureV hm hg hd (fun a w hF=>by
  simp only [execOp,hF.eval hx,hF.eval hy,Option.map_some,Option.map_none,Instr.sliceAt,Instr.slice,ht.run_und,Instr.sliceBounds,run_bound h0 h2,if_true,Option.isSome_none,Bool.false_eq_true,if_false,Sem.run_bind,Sem.run_pure,Result.andThen_ok]) k
theorem Ops.slSHi {t:TypeId} {x z:Operand} {k'':IntKind} {j:Int} {s:ByteArray} (hm:m.rd true = true) (hg:gst ops T gd = some true) [ht:TyD P t .string]
  (hx:ev T x = some (.string s)) (hz:ev T z = some (.int k'' j)) (h0:0 ≤ j) (h2:j ≤ s.size) (hd:Nat.blt d N.n = true)
  (k:Ops P N B Q ops m.tl l ((d,.string (s.extract 0 j.toNat)) :: T) A):Ops P N B Q ops m (⟨some d,.slice t x none (some z) none,ty,pos,af,gd⟩ :: l) T A :=
 Ops.pureV hm hg hd (fun a w hF=>by
  simp only [execOp,hF.eval hx,hF.eval hz,Option.map_some,Option.map_none,Instr.sliceAt,Instr.slice,ht.run_und,Instr.sliceBounds,run_bound h0 h2,if_true,Option.isSome_none,Bool.false_eq_true,if_false,Sem.run_bind,Sem.run_pure,Result.andThen_ok]) k
theorem Ops.mkJ {t:TypeId} {x:Operand} {v:Value} (hm:m.rd true = true) (hg:gst ops T gd = some true) [ht:NoIf P t] (hx:ev T x = some v) (hd:Nat.blt d N.n = true) (k:Ops P N B Q ops m.tl l ((d,.iface t v) :: T) A) :
  Ops P N B Q ops m (⟨some d,.makeInterface t x,ty,pos,af,gd⟩ :: l) T A:=by
 obtain ⟨dd,hu,hi⟩:=ht.get
 exact Ops.pureV hm hg hd (fun a w hF=>by
  have:(Instr.makeInterface t v).run P w = .ok (.iface t v) w:=by
   unfold Instr.makeInterface
   simp only [Sem.run_bind,hu w,Result.andThen_ok]
   cases dd <;> first|rfl|exact absurd rfl (hi _)
  simp [execOp,hF.eval hx,this]) k
theorem Ops.tAss {t xT:TypeId} {x:Operand} {v:Value} (hm:m.rd true = true) (hg:gst ops T gd = some true) [ht:NoIf P t] (hx:ev T x = some (.iface t v)) (hd:Nat.blt d N.n = true)
  (k:Ops P N B Q ops m.tl l ((d,.tuple #[v,.bool true]) :: T) A):Ops P N B Q ops m (⟨some d,.typeAssert x xT t true,ty,pos,af,gd⟩ :: l) T A:=by
 obtain ⟨dd,hu,hi⟩:=ht.get
 exact Ops.pureV hm hg hd (fun a w hF=>by
  have:(Instr.typeAssert (.iface t v) xT t true).run P w = .ok (.tuple #[v,.bool true]) w:=by
   unfold Instr.typeAssert
   simp only [Sem.run_bind,hu w,Result.andThen_ok]
   cases dd <;> first|simp|exact absurd rfl (hi _)
  simp [execOp,hF.eval hx,this]) k
theorem Ops.tAssNo {t xT:TypeId} {x:Operand} {z:Value} (hm:m.rd true = true) (hg:gst ops T gd = some true) [ht:NoIf P t] [hz:TyZ P t z] (hx:ev T x = some .nilIface) (hd:Nat.blt d N.n = true)
  (k:Ops P N B Q ops m.tl l ((d,.tuple #[z,.bool false]) :: T) A):Ops P N B Q ops m (⟨some d,.typeAssert x xT t true,ty,pos,af,gd⟩ :: l) T A:=by
 obtain ⟨dd,hu,hi⟩:=ht.get
 exact Ops.pureV hm hg hd (fun a w hF=>by
  have:(Instr.typeAssert .nilIface xT t true).run P w = .ok (.tuple #[z,.bool false]) w:=by
   unfold Instr.typeAssert
   simp only [Sem.run_bind,hu w,Result.andThen_ok]
   cases dd <;> first|simp [hz.run]|exact absurd rfl (hi _)
  simp [execOp,hF.eval hx,this]) k
theorem Ops.cvBS {s t e:TypeId} {x:Operand} {sv:Value} {xs:List Int} {G F:List Blk} (hown:Own e 1 sv (xs.map fun n=>[Value.int .u8 n]) G) (hm:m.rd false = true) (hg:gst ops T gd = some true) [hs:TyD P s (.slice e)] [he:TyD P e (.int .u8)] [ht:TyD P t .string] (hx:ev T x = some sv) [hsp:Split A G F] (hd:Nat.blt d N.n = true)
  (k:Ops P N B Q ops m.tl l ((d,.string (bytesOf xs)) :: T) A):Ops P N B Q ops m (⟨some d,.convert s t x,ty,pos,af,gd⟩ :: l) T A :=
 Ops.readV hm hg hd (fun a w hF hS=>by
  have hconv:(convert s t sv).run P w = (Conv.bytesToString sv).run P w:=by
   rcases hown.2 with ⟨rfl,_,_⟩|⟨g,c,spare,rfl,_⟩
   ·simp [convert,hs.run_und,ht.run_und,he.run_und]
   ·simp [convert,hs.run_und,ht.run_und,he.run_und]
  have hb:(Conv.bytesToString sv).run P w = .ok (.string (bytesOf xs)) w:=by
   rcases hown.2 with ⟨rfl,h0,_⟩|⟨g,c,spare,rfl,hG,_,_⟩
   ·have:xs = []:=List.map_eq_nil_iff.1 h0
    subst this;simp [Conv.bytesToString,bytesOf]
   ·have hfl:=flat_bytes xs
    have hrd:(loadCells ⟨g,0,none⟩ (xs.map fun n=>[Value.int .u8 n]).length).run P w = .ok (xs.map fun n=>Value.int .u8 n).toArray w:=by
     refine run_loadCells (by simp) fun j u hu=>?_
     have hS2:=hS.perm hsp.perm
     have hmem:(g,cl ((xs.map fun n=>[Value.int .u8 n]).flatten ++ spare) e) ∈ G ++ F:=by rw [hG];simp
     rw [Nat.zero_add,cell_of (hS2.here _ hmem),List.getElem?_append_left (by rw [hfl];exact (List.getElem?_eq_some_iff.1 hu).1),hfl,hu]
    unfold Conv.bytesToString
    simp only [Sem.run_bind,hrd,Result.andThen_ok]
    rw [List.forIn_toArray]
    rw [run_pushes (fun _ _=>rfl)]
    rfl
  simp [execOp,hF.eval hx,hconv,hb]) k
end
end Go.Sep
namespace Go.Proofs.YtkoelgkghijgiaaGreat
open Go Go.Sep Go.Proofs Go.Proofs.Tryz
set_option maxRecDepth 10000
set_option maxHeartbeats 40000000
set_option synthInstance.maxSize 2000
@[reducible] def ptr (b:Nat):Value:=.pointer (some ⟨b,0,none⟩)
def numL (n:Nat):List Int:=if n < 128 then [(n:Int)] else ((n % 128 + 128:Nat):Int) :: numL (n / 128)
termination_by n
decreasing_by omega
def numB (n:Nat):ByteArray:=bytesOf (numL n)
theorem numL_small {n:Nat} (h:n < 128):numL n = [(n:Int)]:=by unfold numL;rw [if_pos h]
theorem numL_big {n:Nat} (h:¬ n < 128):numL n = ((n % 128 + 128:Nat):Int) :: numL (n / 128):=by rw [numL,if_neg h]
theorem numL_len:∀ (k n:Nat),n < 128 ^ (k + 1) → (numL n).length ≤ k + 1
 | 0,n,h=>by rw [numL_small (by simpa using h)];simp
 | k + 1,n,h=>by
  by_cases hs:n < 128
  ·rw [numL_small hs];simp
  ·rw [numL_big hs,List.length_cons]
   have h2:n / 128 < 128 ^ (k + 1):=by
    rw [Nat.div_lt_iff_lt_mul (by decide),← Nat.pow_succ];exact h
   have:=numL_len k (n / 128) h2
   omega
def OwnB (sv:Value) (xs:List Int) (G:List Blk):Prop:=Own 5 1 sv (xs.map fun n=>[Value.int .u8 n]) G
theorem OwnB.form {sv:Value} {xs:List Int} {G:List Blk} (h:OwnB sv xs G):∃ a c,sv = .slice a xs.length c:=by
 obtain ⟨a,c,h⟩:=Own.form h
 exact ⟨a,c,by rw [h,List.length_map]⟩
theorem or_128:∀ a:Nat,a < 256 → a ||| 128 = a % 128 + 128:=by decide
theorem low_byte (m:Nat):orI .u8 (IntKind.wrap .u8 (m:Int)) 128 = ((m % 128 + 128:Nat):Int):=by
 have h1:IntKind.wrap .u8 (m:Int) = ((m % 256:Nat):Int):=by
  simp only [IntKind.wrap,IntKind.bits,IntKind.signed,Bool.false_and,Bool.false_eq_true,if_false]
  omega
 rw [h1,show (128:Int) = ((128:Nat):Int) from rfl,orI_u8 (by omega) (by decide),or_128 _ (by omega)]
 congr 2
 omega
theorem last_byte {m:Nat} (h:m < 128):IntKind.wrap .u8 (m:Int) = (m:Int):=by
 simp only [IntKind.wrap,IntKind.bits,IntKind.signed,Bool.false_and,Bool.false_eq_true,if_false]
 omega
theorem shr7 (m:Nat):((m:Int).fdiv (2 ^ (min (Int.toNat 7) (IntKind.bits .u64)))) = ((m / 128:Nat):Int):=by
 show (m:Int).fdiv 128 = _
 rw [Int.fdiv_eq_ediv_of_nonneg _ (by decide)]
 rfl
structure NumS where
 xs:List Int
 m:Nat
 sv:Value
 G:List Blk
theorem num_spec (n:Nat) (hn:n < 18446744073709551616):Con prog 64 #[.int .u64 n] [] fun v A=>v = .string (numB n) ∧ A = []:=by
 have hlen:(numL n).length ≤ 10:=numL_len 9 n (by omega)
 refine zqI (vs:=[_]) func64 ntmps64 fun B=>?_
 refine zg1 ?_
 refine Cd.loopK (σ:=NumS) (fun s=>numL n = s.xs ++ numL s.m ∧ OwnB s.sv s.xs s.G) (fun s=>[(0,.int .u64 s.m),(3,s.sv)]) (fun s=>s.G) (fun s=>s.m) ⟨[],n,.slice none 0 0,[]⟩ ⟨rfl,Own.none⟩ ⟨rfl,rfl,trivial⟩ (fun w h=>h) (fun s hs=>?_)
 obtain ⟨xs,m,sv,G⟩:=s
 obtain ⟨hx,hO⟩:=hs
 dsimp only at hx hO ⊢
 obtain ⟨a,c,rfl⟩:=hO.form
 have hll:(xs.map fun n=>[Value.int .u8 n]).length = xs.length:=List.length_map _
 have hxl:xs.length ≤ 10:=by
  have:(xs ++ numL m).length ≤ 10:=by rw [← hx];exact hlen
  rw [List.length_append] at this;omega
 by_cases hm:m < 128
 ·have hm':¬ (127:Int) < m:=by omega
  refine zg2 ?_
  refine Ops.cvI rfl rfl rfl rfl ?_
  rw [last_byte hm]
  repeat' (first|refine Ops.bs1 rfl rfl rfl rfl rfl rfl rfl (noPd rfl) (fun b=>?_))
  refine Ops.app1 (rows:=xs.map fun n=>[Value.int .u8 n]) hO (by rw [hll];omega) (by rw [hll];omega) rfl rfl rfl rfl (by rfl) (by rfl) rfl (noPd rfl) rfl (fun v G' hG'=>?_)
  have hG2:OwnB v (xs ++ [(m:Int)]) G':=by
   unfold OwnB;rw [List.map_append];exact hG'
  clear hG'
  skip
  refine Ops.cvBS hG2 rfl rfl rfl rfl ?_
  refine zg0 ?_
  exact ze0
 ·have hm':(127:Int) < m:=by omega
  refine zg2 ?_
  refine Ops.cvI rfl rfl rfl rfl ?_
  repeat' (first|refine Ops.bin rfl rfl rfl rfl rfl ?_|refine Ops.bs1 rfl rfl rfl rfl rfl rfl rfl (noPd rfl) (fun b=>?_))
  rw [low_byte]
  skip
  refine Ops.app1 (rows:=xs.map fun n=>[Value.int .u8 n]) hO (by rw [hll];omega) (by rw [hll];omega) rfl rfl rfl rfl (by rfl) (by rfl) rfl (noPd rfl) rfl (fun v G' hG'=>?_)
  have hG2:OwnB v (xs ++ [((m % 128 + 128:Nat):Int)]) G':=by
   unfold OwnB;rw [List.map_append];exact hG'
  clear hG'
  refine zg3 ?_
  refine Ops.shrI rfl rfl rfl rfl (by decide) rfl ?_
  rw [shr7]
  refine zg0 ?_
  exact Ops.nilN (round_end (⟨xs ++ [((m % 128 + 128:Nat):Int)],m / 128,v,G'⟩:NumS) ⟨by show numL n = (xs ++ [_]) ++ numL (m / 128);rw [hx,numL_big hm];simp,hG2⟩ (by show m / 128 < m;omega) ⟨rfl,rfl,trivial⟩ (fun w h=>h.split))
end Go.Proofs.YtkoelgkghijgiaaGreat
namespace Go.Proofs.YtkoelgkghijgiaaGreat
open Go Go.Sep Go.Proofs Go.Proofs.Tryz
instance :TyZ prog 9 (.string ⟨#[]⟩):=⟨by kernel_rfl⟩
instance :TyZ prog 71 (.agg #[.int .i64 0,.int .i64 0,.int .i64 0,.int .i64 0,.int .i64 0]):=⟨by kernel_rfl⟩
instance :TyZ prog 244 (.pointer none):=⟨by kernel_rfl⟩
instance :TyZ prog 293 (.agg #[.int .i64 0]):=⟨by kernel_rfl⟩
instance :IsMapClone prog 158:=⟨⟨_,func158,by kernel_rfl,by kernel_rfl,by kernel_rfl,by kernel_rfl⟩⟩
end Go.Proofs.YtkoelgkghijgiaaGreat
