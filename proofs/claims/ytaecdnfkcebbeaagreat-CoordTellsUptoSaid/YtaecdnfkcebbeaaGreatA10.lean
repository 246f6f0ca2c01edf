import Derived.Test.YtaecdnfkcebbeaaGreatA09
import Derived.Laws.Externs
set_option linter.unusedVariables false
set_option linter.unusedSimpArgs false
namespace Go.Sep
open Go
structure ME where
 k:Int
 v:Value
 b:Nat
def ME.ent (e:ME):MapEntry:={ key:=.int .i64 e.k,val:=e.v,born:=e.b }
def mpo (es:List ME) (ck:Nat):Obj:=.map (es.map ME.ent).toArray ck
def mfind (i:Int):List ME → Nat → Option (Nat × Value)
 | [],_=>none
 | e :: es,n=>if e.k = i then some (n,e.v) else mfind i es (n + 1)
def mget (es:List ME) (i:Int):Option Value:=(mfind i es 0).map (·.2)
def mput (es:List ME) (ck:Nat) (i:Int) (v:Value):List ME:=match mfind i es 0 with
 | some (n,_)=>es.set n ⟨i,v,((es[n]?).map (·.b)).getD 0⟩
 | none=>es ++ [⟨i,v,ck⟩]
def mck (es:List ME) (ck:Nat) (i:Int):Nat:=match mfind i es 0 with
 | some _=>ck
 | none=>ck + 1
def mdel (es:List ME) (i:Int):List ME:=match mfind i es 0 with
 | some (n,_)=>es.eraseIdx n
 | none=>es
structure MOk (es:List ME) (ck:Nat):Prop where
 keys:(es.map ME.k).Nodup
 borns:(es.map ME.b).Nodup
 lt:∀ e ∈ es,e.b < ck
theorem map_eraseIdx' {α β:Type} {f:α → β}:∀ (l:List α) (n:Nat),(l.eraseIdx n).map f = (l.map f).eraseIdx n
 | [],n=>by simp
 | x :: l,0=>by simp
 | x :: l,n + 1=>by simp [map_eraseIdx' l n]
theorem mfind_some {i:Int}:∀ {es:List ME} {n m:Nat} {v:Value},mfind i es n = some (m,v) → ∃ j e,m = n + j ∧ es[j]? = some e ∧ e.k = i ∧ e.v = v
 | [],_,_,_,h=>by simp [mfind] at h
 | e :: es,n,m,v,h=>by
  simp only [mfind] at h
  split at h
  ·rename_i he
   injection h with h;injection h with h1 h2
   exact ⟨0,e,h1.symm,rfl,he,h2⟩
  ·obtain ⟨j,e',h1,h2,h3,h4⟩:=mfind_some h
   exact ⟨j + 1,e',by omega,by simpa using h2,h3,h4⟩
theorem mfind_none {i:Int}:∀ {es:List ME} {n:Nat},mfind i es n = none → ∀ e ∈ es,e.k ≠ i
 | [],_,_,_,h=>by cases h
 | x :: es,n,h,e,he=>by
  simp only [mfind] at h
  split at h
  ·cases h
  ·rename_i hx
   rcases List.mem_cons.1 he with rfl|he
   ·exact hx
   ·exact mfind_none h e he
theorem mget_none_iff {es:List ME} {i:Int}:mget es i = none ↔ ∀ e ∈ es,e.k ≠ i:=by
 unfold mget
 constructor
 ·intro h
  cases hf:mfind i es 0 with
  | none=>exact mfind_none hf
  | some p=>rw [hf] at h;cases h
 ·intro h
  cases hf:mfind i es 0 with
  | none=>rfl
  | some p =>
   obtain ⟨j,e,_,hj,hk,_⟩:=mfind_some (m:=p.1) (v:=p.2) hf
   exact absurd hk (h e (List.mem_of_getElem? hj))
theorem mget_of_mem {es:List ME} {e:ME} (hn:(es.map ME.k).Nodup) (he:e ∈ es):mget es e.k = some e.v:=by
 unfold mget
 cases hf:mfind e.k es 0 with
 | none=>exact absurd rfl (mfind_none hf e he)
 | some p =>
  obtain ⟨j,e',_,hj,hk,hv⟩:=mfind_some (m:=p.1) (v:=p.2) hf
  obtain ⟨q,hq⟩:=List.getElem?_of_mem he
  have:j = q:=by
   obtain ⟨h1,h2⟩:=List.getElem?_eq_some_iff.1 hj
   obtain ⟨h3,h4⟩:=List.getElem?_eq_some_iff.1 hq
   have hkk:(es.map ME.k)[j]'(by simpa using h1) = (es.map ME.k)[q]'(by simpa using h3):=by
    rw [List.getElem_map,List.getElem_map,h2,h4,hk]
   exact (List.getElem_inj hn).1 hkk
  subst this
  rw [hj] at hq
  injection hq with hq
  subst hq
  simp [hv]
theorem mget_some {es:List ME} {i:Int} {v:Value} (h:mget es i = some v):∃ e ∈ es,e.k = i ∧ e.v = v:=by
 unfold mget at h
 cases hf:mfind i es 0 with
 | none=>rw [hf] at h;cases h
 | some p =>
  rw [hf] at h
  injection h with h
  obtain ⟨j,e,_,hj,hk,hv⟩:=mfind_some (m:=p.1) (v:=p.2) hf
  exact ⟨e,List.mem_of_getElem? hj,hk,hv.trans h⟩
theorem mget_iff {es:List ME} (hn:(es.map ME.k).Nodup) {i:Int} {v:Value}:mget es i = some v ↔ ∃ e ∈ es,e.k = i ∧ e.v = v :=
 ⟨mget_some,fun ⟨e,he,hk,hv⟩=>by rw [← hk,← hv];exact mget_of_mem hn he⟩
theorem mget_isSome {es:List ME} {i:Int}:(mget es i).isSome = true ↔ i ∈ es.map ME.k:=by
 rw [← Option.ne_none_iff_isSome,Ne,mget_none_iff]
 simp only [List.mem_map]
 constructor
 ·intro h
  exact Classical.byContradiction fun hn=>h fun e he hk=>hn ⟨e,he,hk⟩
 ·rintro ⟨e,he,hk⟩ h
  exact h e he hk
theorem mput_old {es:List ME} {ck:Nat} {i:Int} {v:Value} (h:mget es i ≠ none):∃ n e,es[n]? = some e ∧ e.k = i ∧ mput es ck i v = es.set n ⟨i,v,e.b⟩ ∧ mck es ck i = ck:=by
 unfold mget at h
 cases hf:mfind i es 0 with
 | none=>rw [hf] at h;exact absurd rfl h
 | some p =>
  obtain ⟨j,e,h1,hj,hk,hv⟩:=mfind_some (m:=p.1) (v:=p.2) hf
  rw [Nat.zero_add] at h1
  refine ⟨j,e,hj,hk,?_,?_⟩
  ·unfold mput
   rw [hf]
   simp [h1,hj]
  ·unfold mck
   rw [hf]
theorem mput_new {es:List ME} {ck:Nat} {i:Int} {v:Value} (h:mget es i = none):mput es ck i v = es ++ [⟨i,v,ck⟩] ∧ mck es ck i = ck + 1:=by
 unfold mget at h
 cases hf:mfind i es 0 with
 | some p=>rw [hf] at h;cases h
 | none=>unfold mput mck;rw [hf];exact ⟨rfl,rfl⟩
theorem MOk.put {es:List ME} {ck:Nat} (h:MOk es ck) (i:Int) (v:Value):MOk (mput es ck i v) (mck es ck i):=by
 cases hg:mget es i with
 | none =>
  obtain ⟨e1,e2⟩:=mput_new (ck:=ck) (v:=v) hg
  rw [e1,e2]
  refine ⟨?_,?_,fun e he=>?_⟩
  ·rw [List.map_append,List.nodup_append]
   refine ⟨h.keys,by simp,fun a ha b hb=>?_⟩
   simp only [List.map_cons,List.map_nil,List.mem_singleton] at hb
   subst hb
   obtain ⟨e,he,rfl⟩:=List.mem_map.1 ha
   exact mget_none_iff.1 hg e he
  ·rw [List.map_append,List.nodup_append]
   refine ⟨h.borns,by simp,fun a ha b hb=>?_⟩
   simp only [List.map_cons,List.map_nil,List.mem_singleton] at hb
   subst hb
   obtain ⟨e,he,rfl⟩:=List.mem_map.1 ha
   have:=h.lt e he
   omega
  ·rcases List.mem_append.1 he with he|he
   ·have:=h.lt e he;omega
   ·obtain rfl:=List.mem_singleton.1 he
    exact Nat.lt_succ_self ck
 | some u =>
  obtain ⟨n,e,hn,hk,e1,e2⟩:=mput_old (ck:=ck) (v:=v) (by rw [hg];simp:mget es i ≠ none)
  rw [e1,e2]
  refine ⟨?_,?_,fun x hx=>?_⟩
  ·rw [map_set_same (f:=ME.k) hn (by rw [hk])];exact h.keys
  ·rw [map_set_same (f:=ME.b) (y:=⟨i,v,e.b⟩) hn rfl];exact h.borns
  ·rcases List.mem_or_eq_of_mem_set hx with hx|hx
   ·exact h.lt x hx
   ·subst hx;exact h.lt e (List.mem_of_getElem? hn)
theorem mget_put {es:List ME} {ck:Nat} (h:MOk es ck) (i:Int) (v:Value) (j:Int):mget (mput es ck i v) j = if j = i then some v else mget es j:=by
 have h':=h.put i v
 split
 ·rename_i e
  subst e
  rw [mget_iff h'.keys]
  cases hg:mget es j with
  | none =>
   rw [(mput_new (ck:=ck) (v:=v) hg).1]
   exact ⟨_,List.mem_append_right _ (List.mem_singleton.2 rfl),rfl,rfl⟩
  | some u =>
   obtain ⟨n,e,hn,hk,e1,_⟩:=mput_old (ck:=ck) (v:=v) (by rw [hg];simp:mget es j ≠ none)
   rw [e1]
   exact ⟨⟨j,v,e.b⟩,List.mem_of_getElem? (List.getElem?_set_self (List.getElem?_eq_some_iff.1 hn).1),rfl,rfl⟩
 ·rename_i hne
  have key:∀ u,mget (mput es ck i v) j = some u ↔ mget es j = some u:=by
   intro u
   rw [mget_iff h'.keys,mget_iff h.keys]
   cases hg:mget es i with
   | none =>
    rw [(mput_new (ck:=ck) (v:=v) hg).1]
    constructor
    ·rintro ⟨e,he,hk,hv⟩
     rcases List.mem_append.1 he with he|he
     ·exact ⟨e,he,hk,hv⟩
     ·obtain rfl:=List.mem_singleton.1 he
      exact absurd hk.symm hne
    ·rintro ⟨e,he,hk,hv⟩
     exact ⟨e,List.mem_append_left _ he,hk,hv⟩
   | some u' =>
    obtain ⟨n,e0,hn,hk0,e1,_⟩:=mput_old (ck:=ck) (v:=v) (by rw [hg];simp:mget es i ≠ none)
    rw [e1]
    constructor
    ·rintro ⟨e,he,hk,hv⟩
     rcases List.mem_or_eq_of_mem_set he with he|he
     ·exact ⟨e,he,hk,hv⟩
     ·subst he;exact absurd hk.symm hne
    ·rintro ⟨e,he,hk,hv⟩
     obtain ⟨q,hq⟩:=List.getElem?_of_mem he
     have:n ≠ q:=fun e'=>by
      subst e'
      rw [hn] at hq
      injection hq with hq
      subst hq
      exact hne (hk.symm.trans hk0)
     exact ⟨e,List.mem_of_getElem? (by rw [List.getElem?_set_ne this];exact hq),hk,hv⟩
  cases hx:mget es j with
  | some u=>exact (key u).2 hx
  | none =>
   cases hy:mget (mput es ck i v) j with
   | none=>rfl
   | some u=>have:=(key u).1 hy;rw [hx] at this;cases this
theorem MOk.del {es:List ME} {ck:Nat} (h:MOk es ck) (i:Int):MOk (mdel es i) ck:=by
 unfold mdel
 split
 ·rename_i n _ _
  exact ⟨by rw [map_eraseIdx'];exact h.keys.sublist (List.eraseIdx_sublist ..),by rw [map_eraseIdx'];exact h.borns.sublist (List.eraseIdx_sublist ..),fun e he=>h.lt e ((List.eraseIdx_sublist ..).subset he)⟩
 ·exact h
theorem mget_del {es:List ME} {ck:Nat} (h:MOk es ck) (i j:Int):mget (mdel es i) j = if j = i then none else mget es j:=by
 have h':=h.del i
 have key:∀ u,mget (mdel es i) j = some u ↔ (j ≠ i ∧ mget es j = some u):=by
  intro u
  rw [mget_iff h'.keys,mget_iff h.keys]
  unfold mdel
  cases hf:mfind i es 0 with
  | none =>
   have hno:=mfind_none hf
   constructor
   ·rintro ⟨e,he,hk,hv⟩
    exact ⟨fun e'=>hno e he (hk.trans e'),e,he,hk,hv⟩
   ·rintro ⟨_,hx⟩;exact hx
  | some p =>
   obtain ⟨n,e0,h1,hn,hk0,_⟩:=mfind_some (m:=p.1) (v:=p.2) hf
   rw [Nat.zero_add] at h1
   simp only [h1]
   constructor
   ·rintro ⟨e,he,hk,hv⟩
    refine ⟨fun e'=>?_,e,(List.eraseIdx_sublist ..).subset he,hk,hv⟩
    obtain ⟨q,hq⟩:=List.getElem?_of_mem he
    have hkn:=h.keys
    rw [List.getElem?_eraseIdx] at hq
    have hx:∀ r,es[r]? = some e → r = n:=fun r hr=>by
     obtain ⟨a1,a2⟩:=List.getElem?_eq_some_iff.1 hr
     obtain ⟨b1,b2⟩:=List.getElem?_eq_some_iff.1 hn
     refine (List.getElem_inj (i:=r) (j:=n) (h₀:=by simpa using a1) (h₁:=by simpa using b1) hkn).1 ?_
     rw [List.getElem_map,List.getElem_map,a2,b2,hk,hk0,e']
    split at hq
    ·have:=hx q hq;omega
    ·have:=hx (q + 1) hq;omega
   ·rintro ⟨hne,e,he,hk,hv⟩
    refine ⟨e,?_,hk,hv⟩
    obtain ⟨q,hq⟩:=List.getElem?_of_mem he
    have hqn:q ≠ n:=fun e'=>by
     subst e'
     rw [hn] at hq
     injection hq with hq
     subst hq
     exact hne (hk.symm.trans hk0)
    rcases Nat.lt_or_gt_of_ne hqn with hlt|hgt
    ·exact List.mem_of_getElem? (i:=q) (by rw [List.getElem?_eraseIdx,if_pos hlt];exact hq)
    ·exact List.mem_of_getElem? (i:=q - 1) (by rw [List.getElem?_eraseIdx,if_neg (by omega),show q - 1 + 1 = q from by omega];exact hq)
 split
 ·rename_i e
  cases hy:mget (mdel es i) j with
  | none=>rfl
  | some u=>exact absurd e ((key u).1 hy).1
 ·rename_i hne
  cases hx:mget es j with
  | some u=>exact (key u).2 ⟨hne,hx⟩
  | none =>
   cases hy:mget (mdel es i) j with
   | none=>rfl
   | some u=>have:=((key u).1 hy).2;rw [hx] at this;cases this
class TyZ (P:Program) (t:TypeId) (z:outParam Value):Prop where
 eq:(P.info? t).bind (·.zero) = some z
theorem TyZ.run {P:Program} {t:TypeId} {z:Value} {w:World} (h:TyZ P t z):(zeroValue t).run P w = .ok z w:=by
 have h1:=h.eq
 cases hi:P.info? t with
 | none=>rw [hi] at h1;cases h1
 | some i =>
  rw [hi] at h1
  simp only [Option.bind_some] at h1
  simp [zeroValue,typeInfo,hi,h1]
theorem findNow_eq {q:IntKind} {i:Int}:∀ (es:List ME) (n:Nat),Instr.findNow (.int q) (.int .i64 i) (es.map ME.ent) n = some (mfind i es n)
 | [],n=>rfl
 | e :: es,n=>by
  simp only [List.map_cons,Instr.findNow,ME.ent,Instr.sameNow,if_true,mfind]
  by_cases h:i = e.k
  ·subst h;simp
  ·have h':¬ e.k = i:=fun x=>h x.symm
   have h2:(i == e.k) = false:=by simpa using h
   rw [h2]
   simp only [if_neg h']
   exact findNow_eq es (n + 1)
section
variable {P:Program} {kt:TypeId} {q:IntKind} {w:World}
theorem run_findKey [h:TyD P kt (.int q)] (es:List ME) (i:Int):(Instr.findKey kt (.int .i64 i) (es.map ME.ent)).run P w = .ok (mfind i es 0) w:=by
 unfold Instr.findKey
 simp only [Sem.run_bind,h.run_und,Result.andThen_ok,findNow_eq]
 rfl
theorem run_checkKey [h:TyD P kt (.int q)] (b:Bool) (i:Int):(Instr.checkKey b 10000 kt (.int .i64 i)).run P w = .ok () w:=by
 have:∀ n,(Instr.checkKey b (n + 1) kt (.int .i64 i)).run P w = .ok () w:=fun n=>by
  simp only [Instr.checkKey,Sem.run_bind,h.run_und,Result.andThen_ok]
  rfl
 exact this 9999
theorem run_getMap {b:Nat} {es:List ME} {ck:Nat} (h:w.heap[b]? = some (mpo es ck)):(getObj b).run P w = .ok (.map (es.map ME.ent).toArray ck) w:=by
 simp only [getObj,Sem.run,h,mpo]
theorem run_setMap {b:Nat} {es:List ME} {ck:Nat} {o:Obj} (h:w.heap[b]? = some (mpo es ck)):(setObj b o).run P w = .ok () (w.putObj b o):=by
 simp [setObj,Sem.run,h,mpo,World.putObj]
end
theorem Sat.putObj {B:Base} {A1 A2:List Blk} {w:World} {n:Nat} {o o':Obj} (h:Sat B (A1 ++ (n,o) :: A2) w):Sat B (A1 ++ (n,o') :: A2) (w.putObj n o'):=by
 have hh:=h.here (n,o) (List.mem_append_right _ (List.mem_cons_self ..))
 exact Sat.put h rfl rfl rfl (World.putObj_heap_same (lt_of_get hh)) fun k hk=>World.putObj_heap_other hk
theorem ents_modify {es:List ME} {n:Nat} {e:ME} {i:Int} {v:Value} (hn:es[n]? = some e) (hk:e.k = i) :
  ((es.map ME.ent).toArray.modify n fun x=>{ x with key:=.int .i64 i,val:=v }) = ((es.set n ⟨i,v,e.b⟩).map ME.ent).toArray:=by
 apply Array.ext_getElem?
 intro q
 rw [Array.getElem?_modify]
 simp only [List.getElem?_toArray,List.getElem?_map]
 by_cases hq:n = q
 ·subst hq
  rw [if_pos rfl,hn,List.getElem?_set_self (List.getElem?_eq_some_iff.1 hn).1]
  rfl
 ·rw [if_neg hq,List.getElem?_set_ne hq]
section
variable {P:Program} {N:Fi} {B:Base} {Q:Exit → Act → World → Prop} {T:Tm} {A:List Blk} {ops:Array Oper} {l:List Oper}
variable {d:Nat} {ty:TypeId} {pos:String} {af:Array Edge} {m:Md} {gd:Option (Nat × Bool)}
theorem run_lookupI {t kt et:TypeId} {q:IntKind} {z:Value} {b:Nat} {es:List ME} {ck:Nat} {i:Int} {ok:Bool} {w:World} [ht:TyD P t (.map kt et)] [hk:TyD P kt (.int q)] [hz:TyZ P et z] (hb:w.heap[b]? = some (mpo es ck)) :
  (Instr.lookup t (.map (some b)) (.int .i64 i) ok).run P w = .ok (if ok then .tuple #[(mget es i).getD z,.bool (mget es i).isSome] else (mget es i).getD z) w:=by
 unfold Instr.lookup
 simp only [Sem.run_bind,ht.run_und,Result.andThen_ok,run_getMap hb,Sem.run_pure,run_checkKey,run_findKey,List.toList_toArray]
 unfold mget
 cases hf:mfind i es 0 with
 | some p=>obtain ⟨n,v⟩:=p;cases ok <;> simp
 | none=>cases ok <;> simp [hz.run]
theorem Ops.lkI {t kt et:TypeId} {q:IntKind} {z:Value} {x y:Operand} {b:Nat} {es:List ME} {ck:Nat} {i:Int} (hm:m.rd false = true) (hg:gst ops T gd = some true) [ht:TyD P t (.map kt et)] [hk:TyD P kt (.int q)] [hz:TyZ P et z]
  (hx:ev T x = some (.map (some b))) (hy:ev T y = some (.int .i64 i)) [hb:Has A b (mpo es ck)] (hd:Nat.blt d N.n = true) (k:Ops P N B Q ops m.tl l ((d,.tuple #[(mget es i).getD z,.bool (mget es i).isSome]) :: T) A) :
  Ops P N B Q ops m (⟨some d,.lookup t x y true,ty,pos,af,gd⟩ :: l) T A :=
 Ops.readV hm hg hd (fun a w hF hS=>by simp [execOp,hF.eval hx,hF.eval hy,run_lookupI (ok:=true) (hS.here _ hb.mem)]) k
theorem Ops.lk1 {t kt et:TypeId} {q:IntKind} {z:Value} {x y:Operand} {b:Nat} {es:List ME} {ck:Nat} {i:Int} (hm:m.rd false = true) (hg:gst ops T gd = some true) [ht:TyD P t (.map kt et)] [hk:TyD P kt (.int q)] [hz:TyZ P et z]
  (hx:ev T x = some (.map (some b))) (hy:ev T y = some (.int .i64 i)) [hb:Has A b (mpo es ck)] (hd:Nat.blt d N.n = true) (k:Ops P N B Q ops m.tl l ((d,(mget es i).getD z) :: T) A) :
  Ops P N B Q ops m (⟨some d,.lookup t x y false,ty,pos,af,gd⟩ :: l) T A :=
 Ops.readV hm hg hd (fun a w hF hS=>by simp [execOp,hF.eval hx,hF.eval hy,run_lookupI (ok:=false) (hS.here _ hb.mem)]) k
theorem Still.lkI {i' dd:Nat} {t kt et:TypeId} {q:IntKind} {z:Value} {x y:Operand} {b:Nat} {es:List ME} {ck:Nat} {i:Int} (ho:ops[i']? = some ⟨some dd,.lookup t x y true,ty,pos,af,gd⟩) (hg:gst ops T gd = some true) [ht:TyD P t (.map kt et)] [hk:TyD P kt (.int q)] [hz:TyZ P et z]
  (hx:ev T x = some (.map (some b))) (hy:ev T y = some (.int .i64 i)) [hb:Has A b (mpo es ck)] (hl:look T dd = some (.tuple #[(mget es i).getD z,.bool (mget es i).isSome])):Still P N B ops T A i' :=
 ⟨_,dd,_,ho,rfl,hl,fun a w hF hS=>.inl ⟨gst_wanted (o:=⟨some dd,.lookup t x y true,ty,pos,af,gd⟩) hF hg,by simp [execOp,hF.eval hx,hF.eval hy,run_lookupI (ok:=true) (hS.here _ hb.mem)]⟩⟩
theorem Ops.upI {t kt et:TypeId} {q:IntKind} {x y z:Operand} {b:Nat} {es:List ME} {ck:Nat} {i:Int} {v:Value} {A':List Blk} (hm:m.eff = true) (hg:gst ops T gd = some true) [ht:TyD P t (.map kt et)] [hk:TyD P kt (.int q)]
  (hx:ev T x = some (.map (some b))) (hy:ev T y = some (.int .i64 i)) (hz:ev T z = some v) [hb:Has A b (mpo es ck)] [hu:Upd A b (mpo es ck) (mpo (mput es ck i v) (mck es ck i)) A'] (hp:Pd P N B ops m T none (fun _ X=>X = A')) (k:Ops P N B Q ops m.tl l T A') :
  Ops P N B Q ops m (⟨none,.mapUpdate t x y z,ty,pos,af,gd⟩ :: l) T A :=
 Ops.unit hm hp hg (fun a w hF hS=>by
  obtain ⟨A1,A2,rfl,rfl⟩:=hu.put
  have hh:=hS.here (b,mpo es ck) (List.mem_append_right _ (List.mem_cons_self ..))
  refine ⟨w.putObj b (mpo (mput es ck i v) (mck es ck i)),?_,hS.putObj⟩
  have hrun:(Instr.mapUpdate t (.map (some b)) (.int .i64 i) v).run P w = .ok () (w.putObj b (mpo (mput es ck i v) (mck es ck i))):=by
   unfold Instr.mapUpdate
   simp only [Sem.run_bind,ht.run_und,Result.andThen_ok,run_getMap hh,run_checkKey,run_findKey,List.toList_toArray]
   cases hf:mfind i es 0 with
   | none =>
    have e1:mput es ck i v = es ++ [⟨i,v,ck⟩]:=by unfold mput;rw [hf]
    have e2:mck es ck i = ck + 1:=by unfold mck;rw [hf]
    simp only [run_setMap hh]
    rw [e1,e2]
    simp [mpo,ME.ent]
   | some p =>
    obtain ⟨n,u⟩:=p
    obtain ⟨j,e,h1,hj,hek,_⟩:=mfind_some hf
    rw [Nat.zero_add] at h1
    subst h1
    have e1:mput es ck i v = es.set n ⟨i,v,e.b⟩:=by unfold mput;rw [hf];simp [hj]
    have e2:mck es ck i = ck:=by unfold mck;rw [hf]
    have hkey:(((es.map ME.ent).toArray[n]?).map (·.key)).getD (.int .i64 i) = .int .i64 i:=by
     simp [hj,ME.ent,hek]
    have hstay:(Instr.keyThatStays (.int .i64 i) (.int .i64 i)).run P w = .ok (.int .i64 i) w:=by
     unfold Instr.keyThatStays
     rw [if_pos (by simp [Instr.sameBits])]
     rfl
    simp only [Sem.run_bind,hkey,hstay,Result.andThen_ok,run_setMap hh]
    rw [e1,e2,ents_modify hj hek]
    rfl
  simp [execOp,hF.eval hx,hF.eval hy,hF.eval hz,hrun]) k
theorem Ops.delI {t t' kt et:TypeId} {q:IntKind} {x y:Operand} {b:Nat} {es:List ME} {ck:Nat} {i:Int} {A':List Blk} (hm:m.eff = true) (hg:gst ops T gd = some true) [ht:TyD P t (.map kt et)] [hk:TyD P kt (.int q)]
  (hx:ev T x = some (.map (some b))) (hy:ev T y = some (.int .i64 i)) [hb:Has A b (mpo es ck)] [hu:Upd A b (mpo es ck) (mpo (mdel es i) ck) A'] (hp:Pd P N B ops m T none (fun _ X=>X = A')) (k:Ops P N B Q ops m.tl l T A') :
  Ops P N B Q ops m (⟨none,.call { callee:=.builtin .delete,args:=#[x,y],argTypes:=#[t,t'] },ty,pos,af,gd⟩ :: l) T A :=
 Ops.effU hm hp hg (fun a w hF hS=>by
  obtain ⟨A1,A2,rfl,rfl⟩:=hu.put
  have hh:=hS.here (b,mpo es ck) (List.mem_append_right _ (List.mem_cons_self ..))
  have hrun:(Builtin.delete_ #[t,t'] ty #[.map (some b),.int .i64 i]).run P w = .ok (.tuple #[]) (w.putObj b (mpo (mdel es i) ck)):=by
   unfold Builtin.delete_
   simp only [List.getElem?_toArray,List.getElem?_cons_zero,List.getElem?_cons_succ,Sem.run_bind,ht.run_und,Result.andThen_ok,run_getMap hh,run_checkKey,run_findKey,List.toList_toArray]
   cases hf:mfind i es 0 with
   | none =>
    have e1:mdel es i = es:=by unfold mdel;rw [hf]
    simp only [Sem.run_bind,run_setMap hh,Result.andThen_ok,Sem.run_pure]
    rw [e1];rfl
   | some p =>
    obtain ⟨n,u⟩:=p
    obtain ⟨j,e,h1,hj,hek,_⟩:=mfind_some hf
    rw [Nat.zero_add] at h1
    subst h1
    have e1:mdel es i = es.eraseIdx n:=by unfold mdel;rw [hf]
    have hlt:=(List.getElem?_eq_some_iff.1 hj).1
    simp only [Sem.run_bind,run_setMap hh,Result.andThen_ok,Sem.run_pure]
    rw [e1]
    simp [mpo,Array.eraseIdxIfInBounds,hlt,map_eraseIdx']
  simp only [execOp,resolve,invoke,builtin,Sem.run_bind,Sem.run_pure,Result.andThen_ok,List.map_toArray,List.map_cons,List.map_nil,hF.eval hx,hF.eval hy,hrun,effPost]
  exact ⟨_,rfl,hS.putObj⟩) fun v X hX=>by rw [hX];exact k
theorem Ops.lenM {t kt et:TypeId} {x:Operand} {b:Nat} {es:List ME} {ck:Nat} (hm:m.rd false = true) (hg:gst ops T gd = some true) [ht:TyD P t (.map kt et)] (hx:ev T x = some (.map (some b))) [hb:Has A b (mpo es ck)] (hd:Nat.blt d N.n = true)
  (k:Ops P N B Q ops m.tl l ((d,.int .i64 es.length) :: T) A):Ops P N B Q ops m (⟨some d,.call { callee:=.builtin .len,args:=#[x],argTypes:=#[t] },ty,pos,af,gd⟩ :: l) T A :=
 Ops.readV hm hg hd (fun a w hF hS=>by
  have hh:=run_getMap (P:=P) (hS.here _ hb.mem)
  simp [execOp,resolve,invoke,builtin,Builtin.len_,hF.eval hx,ht.run_und,hh,goInt]) k
theorem Ops.mkM {t:TypeId} (hm:m.eff = true) (hg:gst ops T gd = some true) (hd:Nat.blt d N.n = true) (hp:Pd P N B ops m T (some d) (NewR (fun b=>.map (some b)) (mpo [] 0) A))
  (k:∀ b,Ops P N B Q ops m.tl l ((d,.map (some b)) :: T) ((b,mpo [] 0) :: A)):Ops P N B Q ops m (⟨some d,.makeMap t none,ty,pos,af,gd⟩ :: l) T A :=
 Ops.new (v:=fun b=>.map (some b)) hm hp hg hd (fun a w hF hS=>by
  simp [execOp,Instr.makeMap,mpo]) k
theorem eqIn_mapNil {t kt et:TypeId} [h:TyD P t (.map kt et)] {a:Option Nat} {w:World} (d:Nat):(Op.equalIn (d + 1) t (.map a) (.map none)).run P w = .ok a.isNone w:=by
 cases a <;> simp [Op.equalIn,h.run_und]
theorem run_eqGuard_map {t:TypeId} {op:BinOp} {xo yo:Operand} {a b:Option Nat} {w:World}:(eqGuard op t xo yo (.map a) (.map b)).run P w = .ok () w:=by
 unfold eqGuard;cases op <;> rfl
instance BinRun.eqMapNil {t kt et:TypeId} [h:TyD P t (.map kt et)] {a:Option Nat}:BinRun P .eql t (.map a) (.map none) (.bool a.isNone):=⟨fun xo yo w=>by
 rw [Sem.run_bind,run_eqGuard_map,Result.andThen_ok]
 exact run_eql rfl fun d=>eqIn_mapNil d⟩
theorem Ops.mkI {t:TypeId} {dd:TypeDesc} {x:Operand} {v:Value} (hm:m.rd true = true) (hg:gst ops T gd = some true) [ht:TyD P t dd] (hi:∀ ms,dd ≠ .interface ms) (hx:ev T x = some v) (hd:Nat.blt d N.n = true) (k:Ops P N B Q ops m.tl l ((d,.iface t v) :: T) A) :
  Ops P N B Q ops m (⟨some d,.makeInterface t x,ty,pos,af,gd⟩ :: l) T A :=
 Ops.pureV hm hg hd (fun a w hF=>by
  have:(Instr.makeInterface t v).run P w = .ok (.iface t v) w:=by
   unfold Instr.makeInterface
   simp only [Sem.run_bind,ht.run_und,Result.andThen_ok]
   cases dd <;> first|rfl|exact absurd rfl (hi _)
  simp [execOp,hF.eval hx,this]) k
theorem Ops.asM {t kt et xT:TypeId} {x:Operand} {v:Value} (hm:m.rd true = true) (hg:gst ops T gd = some true) [ht:TyD P t (.map kt et)] (hx:ev T x = some (.iface t v)) (hd:Nat.blt d N.n = true) (k:Ops P N B Q ops m.tl l ((d,v) :: T) A) :
  Ops P N B Q ops m (⟨some d,.typeAssert x xT t false,ty,pos,af,gd⟩ :: l) T A :=
 Ops.pureV hm hg hd (fun a w hF=>by
  have:(Instr.typeAssert (.iface t v) xT t false).run P w = .ok v w:=by
   simp [Instr.typeAssert,ht.run_und]
  simp [execOp,hF.eval hx,this]) k
class IsMapClone (P:Program) (f:FuncId):Prop where
 ok:∃ fn,P.funcs[f]? = some fn ∧ (fn.name == "runtime.NumGoroutine") = false ∧ fn.body.isNone = true ∧ Extern.findNext fn = none ∧ Extern.find fn = some Extern.MapsClone.clone
theorem Ops.cloneM {f:FuncId} {t:TypeId} {x:Operand} {ats:Array TypeId} {b:Nat} {es:List ME} {ck:Nat} (hm:m.eff = true) (hg:gst ops T gd = some true) [hf:IsMapClone P f] (hx:ev T x = some (.iface t (.map (some b)))) [hb:Has A b (mpo es ck)] (hd:Nat.blt d N.n = true)
  (hp:Pd P N B ops m T (some d) (NewR (fun b=>.iface t (.map (some b))) (mpo es ck) A)) (k:∀ b',Ops P N B Q ops m.tl l ((d,.iface t (.map (some b'))) :: T) ((b',mpo es ck) :: A)) :
  Ops P N B Q ops m (⟨some d,.call { callee:=.value (.func f),args:=#[x],argTypes:=ats },ty,pos,af,gd⟩ :: l) T A :=
 Ops.new (v:=fun b=>.iface t (.map (some b))) hm hp hg hd (fun a w hF hS=>by
  obtain ⟨fn,h1,h2,h3,h4,h5⟩:=hf.ok
  have hh:=run_getMap (P:=P) (hS.here _ hb.mem)
  have hc:(Extern.MapsClone.clone #[.iface t (.map (some b))]).run P w = .ok (.iface t (.map (some w.heap.size))) (w.alloc (mpo es ck)):=by
   have e:Extern.MapsClone.clone #[.iface t (.map (some b))] = (getObj b >>= fun o=>match o with
     | .map entries clock=>(newObj (.map entries clock) >>= fun n=>pure (.iface t (.map (some n))))
     | _=>stuck "maps.clone: a map expected"):=rfl
   rw [e]
   simp [hh,mpo]
  have hr2:resolve a.eval { callee:=.value (.func f),args:=#[x],argTypes:=ats } ty = (pure { target:=.fn (.func f) #[],args:=#[a.eval x] }:Sem Deferred):=by
   simp [resolve,Act.eval,Deferred.ofValue]
  simp only [execOp,hr2,Sem.run_bind,Sem.run_pure,Result.andThen_ok,hF.eval hx]
  simp [invoke,run_callFunc_extern h1 h2 h3 h4 h5,hc]) k
def mit (b ck:Nat) (seen:List Nat):Obj:=.mapIter (some b) ck seen.toArray ck
def mleft (es:List ME) (seen:List Nat):List ME:=es.filter fun e=>!seen.contains e.b
theorem Ops.rngM {t kt et:TypeId} {x:Operand} {b:Nat} {es:List ME} {ck:Nat} (hm:m.eff = true) (hg:gst ops T gd = some true) [ht:TyD P t (.map kt et)] (hx:ev T x = some (.map (some b))) [hb:Has A b (mpo es ck)] (hd:Nat.blt d N.n = true)
  (hp:Pd P N B ops m T (some d) (NewR (fun r=>.pointer (some ⟨r,0,none⟩)) (mit b ck []) A)) (k:∀ r,Ops P N B Q ops m.tl l ((d,.pointer (some ⟨r,0,none⟩)) :: T) ((r,mit b ck []) :: A)) :
  Ops P N B Q ops m (⟨some d,.range t x,ty,pos,af,gd⟩ :: l) T A :=
 Ops.new (v:=fun r=>.pointer (some ⟨r,0,none⟩)) hm hp hg hd (fun a w hF hS=>by
  have hh:=run_getMap (P:=P) (hS.here _ hb.mem)
  simp [execOp,hF.eval hx,Instr.range,ht.run_und,hh,mit]) k
def NextR (r b ck:Nat) (es:List ME) (seen:List Nat) (A:List Blk) (A':Nat → List Blk):Value → List Blk → Prop:=fun v X =>
 (mleft es seen = [] ∧ v = .tuple #[.bool false] ∧ X = A) ∨ ∃ e ∈ mleft es seen,v = .tuple #[.bool true,.int .i64 e.k,e.v] ∧ X = A' e.b
theorem Ops.nxM {x:Operand} {r b ck:Nat} {es:List ME} {seen:List Nat} {A':Nat → List Blk} (hok:MOk es ck) (hm:m.eff = true) (hg:gst ops T gd = some true) (hx:ev T x = some (.pointer (some ⟨r,0,none⟩))) [hr:Has A r (mit b ck seen)] [hb:Has A b (mpo es ck)]
  [hu:∀ n,Upd A r (mit b ck seen) (mit b ck (seen ++ [n])) (A' n)] (hd:Nat.blt d N.n = true) (hp:Pd P N B ops m T (some d) (NextR r b ck es seen A A'))
  (k0:mleft es seen = [] → Ops P N B Q ops m.tl l ((d,.tuple #[.bool false]) :: T) A) (k1:∀ e,e ∈ mleft es seen → Ops P N B Q ops m.tl l ((d,.tuple #[.bool true,.int .i64 e.k,e.v]) :: T) (A' e.b)) :
  Ops P N B Q ops m (⟨some d,.next x false,ty,pos,af,gd⟩ :: l) T A :=
 Ops.effV (R:=NextR r b ck es seen A A') hm hp hg hd (fun a w hF hS=>by
  have hh:=run_getMap (P:=P) (hS.here _ hb.mem)
  have hi:(getObj r).run P w = .ok (.mapIter (some b) ck seen.toArray ck) w:=by
   have:=hS.here _ hr.mem
   simp only [mit] at this
   simp only [getObj,Sem.run,this]
  have hset:∀ (w1:World) (o:Obj),w1.heap = w.heap → (setObj r o).run P w1 = .ok () (w1.putObj r o):=fun w1 o hw1=>by
   have:=hS.here _ hr.mem
   simp only [mit] at this
   simp [setObj,Sem.run,hw1,this,World.putObj]
  have hleft:((es.map ME.ent).toArray.filter fun e=>!seen.toArray.contains e.born) = ((mleft es seen).map ME.ent).toArray:=by
   have e0:(fun e:MapEntry=>!seen.toArray.contains e.born) ∘ ME.ent = fun e=>!seen.contains e.b:=by
    funext e
    simp [ME.ent]
    exact decide_eq_decide.2 Iff.rfl
   rw [List.filter_toArray,List.filter_map,e0]
   rfl
  have hold:(((mleft es seen).map ME.ent).toArray.filter fun e=>decide (e.born < ck)) = ((mleft es seen).map ME.ent).toArray:=by
   rw [List.filter_toArray]
   congr 1
   rw [List.filter_eq_self]
   intro e he
   obtain ⟨e',he',rfl⟩:=List.mem_map.1 he
   exact decide_eq_true (hok.lt e' (List.mem_filter.1 he').1)
  have hnew:(((mleft es seen).map ME.ent).toArray.filter fun e=>decide (e.born ≥ ck)) = #[]:=by
   rw [List.filter_toArray]
   have:(List.filter (fun e:MapEntry=>decide (e.born ≥ ck)) ((mleft es seen).map ME.ent)) = []:=by
    rw [List.filter_eq_nil_iff]
    intro e he
    obtain ⟨e',he',rfl⟩:=List.mem_map.1 he
    have:=hok.lt e' (List.mem_filter.1 he').1
    simp [ME.ent]
    omega
   rw [this]
  have hall:((!seen.toArray.isEmpty && !(es.map ME.ent).toArray.isEmpty) && ((es.map ME.ent).toArray.all fun x=>decide (x.born ≥ ck))) = false:=by
   cases es with
   | nil=>simp
   | cons e es =>
    have:=hok.lt e (List.mem_cons_self ..)
    simp [ME.ent]
    intro _ h
    omega
  simp only [execOp,hF.eval hx]
  unfold Instr.next
  simp only [Sem.run_bind,hi,Result.andThen_ok,hh,hall,Bool.false_eq_true,if_false,hleft,hold,hnew]
  cases hl:mleft es seen with
  | nil =>
   simp only [List.map_nil]
   have hch:(choose (.mapNext (#[(none:Option MapEntry)]).size)).run P w = .ok 0 w:=by
    rw [run_choose_drew];simp [Question.forced]
   simp only [Array.isEmpty_empty,if_true,Array.append_empty,Array.map_empty,List.isEmpty_toArray,List.isEmpty_nil,hch,Result.andThen_ok]
   simp [effPost]
   exact ⟨A,.inl ⟨hl,rfl,rfl⟩,hS⟩
  | cons e0 rest =>
   have hne:(((e0 :: rest).map ME.ent).toArray.isEmpty) = false:=by simp
   simp only [hne,Bool.false_eq_true,if_false,Array.empty_append,Array.append_empty]
   have hsz:((((e0 :: rest).map ME.ent).toArray).map some).size = rest.length + 1:=by simp
   obtain ⟨j,w1,hj,hw1,hch⟩:∃ (j:Nat) (w1:World),j < rest.length + 1 ∧ (w1 = w ∨ w1 = w.drew) ∧ (choose (.mapNext ((((e0 :: rest).map ME.ent).toArray).map some).size)).run P w = .ok j w1:=by
    rw [run_choose_drew,hsz]
    split
    ·exact ⟨0,w,by omega,.inl rfl,rfl⟩
    ·exact ⟨_,w.drew,Nat.mod_lt _ (by omega),.inr rfl,rfl⟩
   simp only [hch,Result.andThen_ok]
   obtain ⟨e,he⟩:∃ e,(e0 :: rest)[j]? = some e:=⟨_,List.getElem?_eq_getElem (by simpa using hj)⟩
   have hget:((((e0 :: rest).map ME.ent).toArray).map some)[j]? = some (some e.ent):=by
    simp only [Array.getElem?_map,List.getElem?_toArray,List.getElem?_map,he,Option.map_some]
   rw [hget]
   have hh1:w1.heap = w.heap:=by rcases hw1 with rfl|rfl <;> rfl
   simp only [Sem.run_bind,hset w1 _ hh1,Result.andThen_ok,Sem.run_pure,effPost]
   have hS1:Sat B A w1:=by
    rcases hw1 with rfl|rfl
    ·exact hS
    ·exact hS.drew
   refine ⟨A' e.b,.inr ⟨e,by rw [hl];exact List.mem_of_getElem? he,rfl,rfl⟩,?_⟩
   obtain ⟨A1,A2,e1,e2⟩:=(hu e.b).put
   rw [e1] at hS1
   rw [e2]
   have:=hS1.putObj (o':=mit b ck (seen ++ [e.b]))
   simpa [mit,ME.ent] using this) fun v X hX=>by
  rcases hX with ⟨h1,rfl,rfl⟩|⟨e,he,rfl,rfl⟩
  ·exact k0 h1
  ·exact k1 e he
theorem Ops.enM {x:Operand} {r b ck:Nat} {es:List ME} {seen:List Nat} {e:ME} (hok:MOk es ck) (he:e ∈ es) (hm:m.rd false = true) (hg:gst ops T gd = some true) (hx:ev T x = some (.pointer (some ⟨r,0,none⟩))) [hr:Has A r (mit b ck (seen ++ [e.b]))] [hb:Has A b (mpo es ck)] (hd:Nat.blt d N.n = true)
  (k:Ops P N B Q ops m.tl l ((d,.tuple #[.int .i64 e.k,e.v]) :: T) A):Ops P N B Q ops m (⟨some d,.entry x,ty,pos,af,gd⟩ :: l) T A :=
 Ops.readV hm hg hd (fun a w hF hS=>by
  have hh:=run_getMap (P:=P) (hS.here _ hb.mem)
  have hi:(getObj r).run P w = .ok (.mapIter (some b) ck (seen ++ [e.b]).toArray ck) w:=by
   have:=hS.here _ hr.mem
   simp only [mit] at this
   simp only [getObj,Sem.run,this]
  have hf:((es.map ME.ent).toArray.find? fun x=>x.born == e.b) = some e.ent:=by
   rw [List.find?_toArray]
   obtain ⟨n,hn⟩:=List.getElem?_of_mem he
   have hb:=hok.borns
   clear hi hh hr hb
   have:∀ (l:List ME),(l.map ME.b).Nodup → e ∈ l → (l.map ME.ent).find? (fun x=>x.born == e.b) = some e.ent:=by
    intro l
    induction l with
    | nil=>intro _ h;cases h
    | cons y l ih =>
     intro hnd hm
     simp only [List.map_cons,List.nodup_cons] at hnd
     rcases List.mem_cons.1 hm with rfl|hm
     ·simp [ME.ent]
     ·have:y.b ≠ e.b:=fun h=>hnd.1 (h ▸ List.mem_map_of_mem hm)
      rw [List.map_cons,List.find?_cons_of_neg (by simpa [ME.ent] using this)]
      exact ih hnd.2 hm
   exact this es hok.borns he
  simp only [execOp,hF.eval hx]
  unfold Instr.entry
  simp [hi,hh,hf,ME.ent]) k
theorem mleft_next {es:List ME} {ck:Nat} {seen:List Nat} {e:ME} (hok:MOk es ck) (he:e ∈ mleft es seen):(mleft es seen).Perm (e :: mleft es (seen ++ [e.b])):=by
 have h1:mleft es (seen ++ [e.b]) = (mleft es seen).filter fun x=>!decide (x.b = e.b):=by
  unfold mleft
  rw [List.filter_filter]
  congr 1
  funext x
  simp only [List.contains_eq_mem,List.mem_append,List.mem_singleton]
  by_cases h1:x.b ∈ seen <;> by_cases h2:x.b = e.b <;> simp [h1,h2]
 rw [h1]
 have hnd:((mleft es seen).map ME.b).Nodup:=hok.borns.sublist ((List.filter_sublist).map _)
 clear h1
 generalize mleft es seen = l at *
 induction l with
 | nil=>cases he
 | cons y l ih =>
  simp only [List.map_cons,List.nodup_cons] at hnd
  rcases List.mem_cons.1 he with rfl|he
  ·have:(l.filter fun x=>!decide (x.b = e.b)) = l:=by
    rw [List.filter_eq_self]
    intro x hx
    have:x.b ≠ e.b:=fun h=>hnd.1 (h ▸ List.mem_map_of_mem hx)
    simpa using this
   rw [List.filter_cons_of_neg (by simp),this]
  ·have hne:y.b ≠ e.b:=fun h=>hnd.1 (h ▸ List.mem_map_of_mem he)
   rw [List.filter_cons_of_pos (by simpa using hne)]
   exact ((ih he hnd.2).cons y).trans (.swap ..)
end
end Go.Sep
namespace Go.Sep
open Go
section
variable {P:Program} {N:Fi} {B:Base} {Q:Exit → Act → World → Prop} {T:Tm} {A:List Blk} {ops:Array Oper} {l:List Oper}
variable {d:Nat} {ty:TypeId} {pos:String} {af:Array Edge} {m:Md} {gd:Option (Nat × Bool)}
theorem Ops.cvI {s t:TypeId} {k1 k2 k3:IntKind} {x:Operand} {i:Int} (hm:m.rd true = true) (hg:gst ops T gd = some true) [hs:TyD P s (.int k1)] [ht:TyD P t (.int k2)] (hx:ev T x = some (.int k3 i)) (hd:Nat.blt d N.n = true)
  (k:Ops P N B Q ops m.tl l ((d,.int k2 (k2.wrap i)) :: T) A):Ops P N B Q ops m (⟨some d,.convert s t x,ty,pos,af,gd⟩ :: l) T A :=
 Ops.pureV hm hg hd (fun a w hF=>by
  have:(convert s t (.int k3 i)).run P w = .ok (.int k2 (k2.wrap i)) w:=by
   unfold convert
   simp [hs.run_und,ht.run_und]
   rfl
  simp [execOp,hF.eval hx,this]) k
theorem Ops.ixS {t:TypeId} {x y:Operand} {s:ByteArray} {k1:IntKind} {i:Int} {b:UInt8} (hm:m.rd true = true) (hg:gst ops T gd = some true) [ht:TyD P t .string] (hx:ev T x = some (.string s)) (hy:ev T y = some (.int k1 i)) (h0:0 ≤ i) (hb:s[i.toNat]? = some b) (hd:Nat.blt d N.n = true)
  (k:Ops P N B Q ops m.tl l ((d,.int .u8 b.toNat) :: T) A):Ops P N B Q ops m (⟨some d,.index t x y,ty,pos,af,gd⟩ :: l) T A :=
 Ops.pureV hm hg hd (fun a w hF=>by
  simp [execOp,hF.eval hx,hF.eval hy,Instr.index,asIntOf,ht.run_und,h0,hb]) k
theorem Ops.ixE {t:TypeId} {x y:Operand} {s:ByteArray} {k1:IntKind} {i:Int} (hm:m.rd true = true) (hg:gst ops T gd = some true) [ht:TyD P t .string] (hx:ev T x = some (.string s)) (hy:ev T y = some (.int k1 i)) (h0:0 ≤ i) (hlt:i.toNat < s.size) (hd:Nat.blt d N.n = true)
  (k:∀ b:UInt8,s[i.toNat]? = some b → Ops P N B Q ops m.tl l ((d,.int .u8 b.toNat) :: T) A):Ops P N B Q ops m (⟨some d,.index t x y,ty,pos,af,gd⟩ :: l) T A :=
 Ops.ixS (b:=s[i.toNat]) hm hg hx hy h0 (getElem?_pos s i.toNat hlt) hd (k _ (getElem?_pos s i.toNat hlt))
end
end Go.Sep
namespace Go.Sep
open Go
section
variable {P:Program} {N:Fi} {B:Base} {Q:Exit → Act → World → Prop} {T:Tm} {A:List Blk} {ops:Array Oper} {l:List Oper}
variable {d:Nat} {ty:TypeId} {pos:String} {af:Array Edge} {m:Md} {gd:Option (Nat × Bool)}
theorem Ops.shrI {t t':TypeId} {x y:Operand} {k1 k2:IntKind} {i j:Int} (hm:m.rd true = true) (hg:gst ops T gd = some true) (hx:ev T x = some (.int k1 i)) (hy:ev T y = some (.int k2 j)) (h0:0 ≤ j) (hd:Nat.blt d N.n = true)
  (k:Ops P N B Q ops m.tl l ((d,.int k1 (i.fdiv (2 ^ min j.toNat k1.bits))) :: T) A):Ops P N B Q ops m (⟨some d,.binOp .shr t x y t',ty,pos,af,gd⟩ :: l) T A :=
 Ops.pureV hm hg hd (fun a w hF=>by
  have h1:¬ j < 0:=by omega
  simp [execOp,hF.eval hx,hF.eval hy,eqGuard,binOp,Op.shift,h1]) k
def bytesS (l:List Int):ByteArray:=l.foldl (fun s n=>s.push (UInt8.ofNat n.toNat)) ByteArray.empty
end
end Go.Sep
