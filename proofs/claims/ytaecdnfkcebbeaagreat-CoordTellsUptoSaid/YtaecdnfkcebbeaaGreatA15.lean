import Derived.Test.YtaecdnfkcebbeaaGreatA14
import Derived.Lib.Builder
import Derived.Lib.MakeNoZero
import Derived.Laws.Externs
import Derived.Test.YtaecdnfkcebbeaaGreatA01
import Derived.Test.YtaecdnfkcebbeaaGreatA07
set_option linter.unusedVariables false
set_option linter.unusedSimpArgs false
namespace Go.Sep
open Go
def clF (l:List Value) (E:TypeId) (f:Nat):Obj:=.cells l.toArray E (0,f)
def BG (E:TypeId) (sv:Value) (s:ByteArray) (G:List Blk):Prop :=
 (sv = .slice none 0 0 ∧ s = .empty ∧ G = []) ∨ ∃ g c sp f,sv = .slice (some ⟨g,0,none⟩) s.size c ∧ G = [(g,clF (bv s ++ sp) E f)] ∧ f ≤ s.size ∧ s.size + sp.length = c ∧ 0 < c
theorem BG.none {E:TypeId}:BG E (.slice none 0 0) .empty []:=.inl ⟨rfl,rfl,rfl⟩
theorem BG.form {E:TypeId} {sv:Value} {s:ByteArray} {G:List Blk} (h:BG E sv s G):∃ a c,sv = .slice a s.size c:=by
 rcases h with ⟨rfl,rfl,_⟩|⟨g,c,sp,f,rfl,_⟩
 ·exact ⟨_,_,rfl⟩
 ·exact ⟨_,_,rfl⟩
section
variable {P:Program} {B:Base}
theorem clF_cell {w:World} {b:Nat} {l:List Value} {E:TypeId} {f:Nat} (h:w.heap[b]? = some (clF l E f)) (off:Nat):w.cell? ⟨b,off,none⟩ = l[off]?:=by
 simp [World.cell?,h,clF]
theorem run_storeF {A1 A2:List Blk} {b:Nat} {E:TypeId} {off f:Nat} (hf:f ≤ off) (vs:List Value):∀ (i:Nat) (l:List Value) (w:World),Sat B (A1 ++ (b,clF l E f) :: A2) w →
  (∀ u ∈ vs,u.oneCell' = true) → off + i + vs.length ≤ l.length →
  ∃ w',(storeCells ⟨b,off,none⟩ vs i).run P w = .ok () w' ∧ Sat B (A1 ++ (b,clF (ins l (off + i) vs) E f) :: A2) w':=by
 induction vs with
 | nil=>intro i l w h _ _;exact ⟨w,by simp [storeCells],by rw [ins_nil];exact h⟩
 | cons v vs ih =>
  intro i l w h h1 hlen
  simp only [List.length_cons] at hlen
  have hb:=h.here (b,clF l E f) (List.mem_append_right _ (List.mem_cons_self ..))
  have hst:Sat B (A1 ++ (b,clF (l.set (off + i) v) E f) :: A2) (w.setCell ⟨b,off + i,Option.none⟩ v):=by
   refine h.put rfl rfl rfl ?_ fun n hn=>?_
   ·simp only [clF] at hb ⊢
    simp [World.setCell,Array.getElem?_modify,hb]
   ·simp [World.setCell,Array.getElem?_modify,Ne.symm hn]
  obtain ⟨w',hr,hS⟩:=ih (i + 1) (l.set (off + i) v) _ hst (fun u hu=>h1 u (List.mem_cons_of_mem _ hu)) (by simp;omega)
  refine ⟨w',?_,?_⟩
  ·simp only [storeCells,Sem.run_bind,add_none]
   have hfr:w.frozen? ⟨b,off + i,Option.none⟩ = false:=by
    simp only [World.frozen?,hb,clF]
    simp;omega
   rw [run_store P w _ v .plain (h1 v (List.mem_cons_self ..)),clF_cell hb,hfr,List.getElem?_eq_getElem (by omega)]
   simpa using hr
  ·rw [ins_cons (by omega)];exact hS
theorem run_appendS {w:World} {t ts ty e bs:Nat} {zc:List Value} (ht:TyD P t (.slice e)) (hts:TyD P ts .string) (he:Ty P e false 1 bs zc) (hzc:zc.length = 1) (hbs:bs ≤ 8) {sv:Value} {s x:ByteArray} {G F:List Blk} (hS:Sat B (G ++ F) w) (hb:BG e sv s G) (hsz:s.size + x.size ≤ 1000000000000) :
  effPost P B (fun v X=>∃ G',BG e v (s ++ x) G' ∧ X = G' ++ F) ((do pure (Next.value (← Builtin.append_ #[t,ts] ty #[sv,.string x])):Sem Next).run P w):=by
 obtain ⟨a,c,hsv⟩:=hb.form
 obtain ⟨i,hi,his,hib⟩:=he.run_info (w:=w)
 have hfc:∀ w':World,(Builtin.firstCells 1 x.size (.string x)).run P w' = .ok (bv x).toArray w':=fun w'=>by
  have:=bv_arr x x.size
  simp only [ByteArray.extract_zero_size] at this
  simp only [Builtin.firstCells,ByteArray.extract_zero_size,this,Sem.run_pure]
 by_cases hcap:s.size + x.size ≤ c
 ·rcases hb with ⟨h1,h2,h3⟩|⟨g,c',sp,f,h1,h2,h3,h4,h5⟩
  ·subst h2;subst h3
   rw [hsv] at h1
   injection h1 with h1 h1' h1''
   subst h1
   have hx0:x.size = 0:=by simp at hcap;omega
   have hxe:x = .empty:=ByteArray.size_eq_zero_iff.1 hx0
   subst hxe
   have:(Builtin.append_ #[t,ts] ty #[sv,.string .empty]).run P w = .ok sv w:=by
    have:=hfc w
    simp only [ByteArray.size_empty] at this
    simp [Builtin.append_,ht.run_und,hts.run_und,he.run_size,hsv,h1'',Builtin.lenOf,this,bv_empty]
   simp only [Sem.run_bind,this,Result.andThen_ok,Sem.run_pure,effPost]
   exact ⟨F,⟨[],by rw [hsv];simpa [h1''] using (BG.none (E:=e)),rfl⟩,by simpa using hS⟩
  ·rw [hsv] at h1
   injection h1 with h1 h1' h1''
   subst h1;subst h1'';subst h2
   obtain ⟨w',hr,hS'⟩:=run_storeF (P:=P) (A1:=[]) (A2:=F) (b:=g) (E:=e) (off:=s.size) h3 (bv x) 0 (bv s ++ sp) w (by simpa using hS) (oneAll_bv x) (by rw [List.length_append,bv_len,bv_len];omega)
   have:(Builtin.append_ #[t,ts] ty #[sv,.string x]).run P w = .ok (.slice (some ⟨g,0,Option.none⟩) (s.size + x.size) c) w':=by
    simp [Builtin.append_,ht.run_und,hts.run_und,he.run_size,hsv,Builtin.lenOf,hcap,hfc,add_none,hr]
   simp only [Sem.run_bind,this,Result.andThen_ok,Sem.run_pure,effPost]
   refine ⟨_,⟨[(g,clF (ins (bv s ++ sp) (s.size + 0) (bv x)) e f)],.inr ⟨g,c,sp.drop x.size,f,by rw [ByteArray.size_append],?_,by rw [ByteArray.size_append];omega,by rw [ByteArray.size_append,List.length_drop];omega,h5⟩,rfl⟩,by simpa using hS'⟩
   have e1:ins (bv s ++ sp) (s.size + 0) (bv x) = bv s ++ bv x ++ sp.drop (bv x).length:=by rw [Nat.add_zero,← bv_len];exact ins_app _ _ _
   rw [e1,bv_len,bv_app]
 ·have hle:=nextcap_le (need:=s.size + x.size) (c:=c) (by omega)
  have hb2:¬ (Builtin.nextslicecap (s.size + x.size) c * bs > 2 ^ 48):=by
   have h1:=Nat.mul_le_mul_right bs hle
   have h2:=Nat.mul_le_mul_left (s.size + x.size + (s.size + x.size) / 4 + 512) hbs
   rw [show (2:Nat) ^ 48 = 281474976710656 from rfl]
   omega
  have hm2:¬ (IntKind.i64.max < (s.size:Int) + (x.size:Int)):=by
   rw [show IntKind.i64.max = 9223372036854775807 from rfl]
   omega
  obtain ⟨z,hz,hzcell⟩:=he.run_zero (w:=w.drew)
  have hold:∀ w',Sat B (G ++ F) w' → (Builtin.firstCells 1 s.size sv).run P w' = .ok (bv s).toArray w':=by
   intro w' hS'
   rcases hb with ⟨h1,h2,h3⟩|⟨g,c',sp,f,h1,h2,h3,h4,h5⟩
   ·subst h1;subst h2
    simp [Builtin.firstCells,bv_empty]
   ·subst h2;subst h1
    simp only [Builtin.firstCells,Nat.mul_one]
    exact run_loadCells (bv_len s) fun j u hu=>by
     rw [Nat.zero_add,clF_cell (hS'.here (g,clF (bv s ++ sp) e f) (by simp)),List.getElem?_append_left (List.getElem?_eq_some_iff.1 hu).1,hu]
  generalize hq:Question.appendCap (s.size + x.size) c e = q
  have hfo:q.forced = false:=by subst hq;rfl
  have hcut:s.size + x.size ≤ q.cut (w.tape w.drawn q):=by
   subst hq
   simp only [Question.cut]
   omega
  have hS2:Sat B (G ++ F) w.drew:=hS.drew
  obtain ⟨i3,hi3,his3,hib3⟩:=he.run_info (w:=w.drew)
  generalize hnce:q.cut (w.tape w.drawn q) = nc at hcut
  have hrest:(Builtin.zeroCells zc.toArray (nc - (s.size + x.size))).size = nc - (s.size + x.size):=by
   simp [Builtin.zeroCells,hzc]
  have:(Builtin.append_ #[t,ts] ty #[sv,.string x]).run P w =
    .ok (.slice (some ⟨w.heap.size,0,Option.none⟩) (s.size + x.size) nc) (w.drew.alloc (.cells ((bv s).toArray ++ (bv x).toArray ++ Builtin.zeroCells zc.toArray (nc - (s.size + x.size))) e)):=by
   unfold Builtin.append_
   clear hle
   generalize (2:Nat) ^ 48 = M at hb2 ⊢
   generalize IntKind.i64.max = M2 at hm2 ⊢
   have hold2:=hold _ hS2
   have hx2:=hfc w.drew
   rw [hsv] at hold2
   simp [ht.run_und,hts.run_und,he.run_size,hsv,Builtin.lenOf,hcap,hi,hib,hm2,hb2,hq,hfo,hnce,hi3,hold2,hx2,hz,hzcell,newRow]
   simp only [← List.append_toArray,Array.append_assoc]
  simp only [Sem.run_bind,this,Result.andThen_ok,Sem.run_pure,effPost]
  have hnc:0 < nc:=by
   rcases Nat.eq_zero_or_pos nc with h|h
   ·omega
   ·exact h
  refine ⟨_,⟨[(w.heap.size,clF (bv (s ++ x) ++ (Builtin.zeroCells zc.toArray (nc - (s.size + x.size))).toList) e 0)],.inr ⟨w.heap.size,nc,_,0,by rw [ByteArray.size_append],rfl,Nat.zero_le _,by rw [ByteArray.size_append,Array.length_toList,hrest];omega,hnc⟩,rfl⟩,?_⟩
  have h9:=hS2.right.alloc (.cells ((bv s).toArray ++ (bv x).toArray ++ Builtin.zeroCells zc.toArray (nc - (s.size + x.size))) e)
  have e9:(Obj.cells ((bv s).toArray ++ (bv x).toArray ++ Builtin.zeroCells zc.toArray (nc - (s.size + x.size))) e) = clF (bv (s ++ x) ++ (Builtin.zeroCells zc.toArray (nc - (s.size + x.size))).toList) e 0:=by
   simp [clF,bv_app]
  rw [e9] at h9 ⊢
  exact h9
theorem run_us {w:World} {pt it ty e:Nat} (hp:TyD P pt (.pointer e)) (hc:P.cellsOf e = 1) {A1 A2:List Blk} {g f n:Nat} {s:ByteArray} {L:List Value} (hS:Sat B (A1 ++ (g,clF L e f) :: A2) w) (hn:s.size = n) (hL:∀ (j:Nat) (u:Value),(bv s)[j]? = some u → L[j]? = some u) (hle:s.size ≤ L.length) (h0:0 < n) (hf:f ≤ n) (h63:n ≤ 9223372036854775807) :
  ∃ w',(Builtin.unsafeString_ #[pt,it] ty #[.pointer (some ⟨g,0,none⟩),.int .i64 n]).run P w = .ok (.string s) w' ∧ Sat B (A1 ++ (g,clF L e n) :: A2) w':=by
 have hb:=hS.here (g,clF L e f) (List.mem_append_right _ (List.mem_cons_self ..))
 have hsl:s.data.toList.length = n:=by rw [← hn];rfl
 have h1:=Lib.run_unsafeString_row (P:=P) (w:=w) pt it ty e hp.und hc g L.length (by simp [World.shape?,hb,clF]) s.data.toList (fun h=>by rw [h] at hsl;simp at hsl;omega) (by rw [hsl];omega) (by rw [hsl];omega) (fun j x hx=>by
  rw [add_none,Nat.zero_add,clF_cell hb]
  exact hL j _ (by simp only [bv,List.getElem?_map,hx,Option.map_some]))
 refine ⟨w.freeze ⟨g,0,none⟩ n,?_,?_⟩
 ·rw [hsl] at h1
  exact h1
 ·have hn0:¬ n = 0:=by omega
  refine hS.put (by simp [World.freeze,hn0]) (by simp [World.freeze,hn0]) (by simp [World.freeze,hn0]) ?_ fun m hm=>?_
  ·simp only [World.freeze,hn0,if_false,Array.getElem?_modify,if_true,hb,Option.map_some,clF]
   congr 2
   by_cases hz:f = 0
   ·subst hz;simp
   ·have:¬ (0 = f):=fun h=>hz h.symm
    simp [this];omega
  ·simp [World.freeze,hn0,Array.getElem?_modify,Ne.symm hm]
end
class ExtOk (P:Program) (f:FuncId) (e:outParam (Array Value → Sem Value)):Prop where
 ok:∃ fn,P.funcs[f]? = some fn ∧ (fn.name == "runtime.NumGoroutine") = false ∧ fn.body.isNone = true ∧ Extern.findNext fn = none ∧ Extern.find fn = some e
section
variable {P:Program} {N:Fi} {B:Base} {Q:Exit → Act → World → Prop} {T:Tm} {A:List Blk} {ops:Array Oper} {l:List Oper}
variable {d:Nat} {ty:TypeId} {pos:String} {af:Array Edge} {m:Md} {gd:Option (Nat × Bool)}
theorem ExtOk.run {f:FuncId} {e:Array Value → Sem Value} (h:ExtOk P f e) {a:Act} {w:World} {xs:List Operand} {vs:List Value} {ats:Array TypeId} (hF:Fr N T a) (hx:evs T xs = some vs) :
  (execOp a.eval ⟨some d,.call { callee:=.value (.func f),args:=xs.toArray,argTypes:=ats },ty,pos,af,gd⟩).run P w = ((e vs.toArray).run P w).andThen fun v w'=>.ok (.value v) w':=by
 obtain ⟨fn,h1,h2,h3,h4,h5⟩:=h.ok
 simp [execOp,resolve,Act.eval,Deferred.ofValue,invoke,hF.evals hx,run_callFunc_extern h1 h2 h3 h4 h5]
theorem Ops.extR {f:FuncId} {e:Array Value → Sem Value} {xs:List Operand} {vs:List Value} {ats:Array TypeId} {v:Value} (hm:m.eff = true) (hg:gst ops T gd = some true) [h:ExtOk P f e] (hx:evs T xs = some vs) (hr:∀ w:World,(e vs.toArray).run P w = .ok v w) (hd:Nat.blt d N.n = true)
  (hp:Pd P N B ops m T (some d) (fun u X=>u = v ∧ X = A)) (k:Ops P N B Q ops m.tl l ((d,v) :: T) A):Ops P N B Q ops m (⟨some d,.call { callee:=.value (.func f),args:=xs.toArray,argTypes:=ats },ty,pos,af,gd⟩ :: l) T A :=
 Ops.effV hm hp hg hd (fun a w hF hS=>by
  rw [h.run hF hx,hr w]
  exact ⟨A,⟨rfl,rfl⟩,hS⟩) fun u X ⟨h1,h2⟩=>by rw [h1,h2];exact k
theorem Ops.mkNZ {f:FuncId} {ps:Array TypeId} {t e:TypeId} {n:Nat} {xs:List Operand} {ats:Array TypeId} (hm:m.eff = true) (hg:gst ops T gd = some true) [h:ExtOk P f (Extern.BytealgMakeNoZero.makeNoZero ps #[t])] [ht:TyD P t (.slice e)] (hx:evs T xs = some [.int .i64 n]) (h1:n ≤ 1000000000) (hd:Nat.blt d N.n = true)
  (hp:Pd P N B ops m T (some d) (fun v X=>∃ b cs,v = .slice (some ⟨b,0,none⟩) n cs.length ∧ n ≤ cs.length ∧ X = (b,cl cs e) :: A)) (k:∀ b cs,n ≤ cs.length → Ops P N B Q ops m.tl l ((d,.slice (some ⟨b,0,none⟩) n cs.length) :: T) ((b,cl cs e) :: A)) :
  Ops P N B Q ops m (⟨some d,.call { callee:=.value (.func f),args:=xs.toArray,argTypes:=ats },ty,pos,af,gd⟩ :: l) T A :=
 Ops.effV hm hp hg hd (fun a w hF hS=>by
  obtain ⟨cs,hr,hc,_⟩:=Lib.run_makeNoZero (P:=P) w ps t e ht.und n (by omega)
  rw [h.run hF hx,hr]
  have:=(hS.drew.drew).alloc (.cells cs e)
  exact ⟨_,⟨w.heap.size,cs.toList,by rw [Array.length_toList],by rw [Array.length_toList];exact hc,rfl⟩,this⟩) fun v X ⟨b,cs,h1,h2,h3⟩=>by rw [h1,h3];exact k b cs h2
theorem Ops.appG {t ts e bs:Nat} {x y:Operand} {sv:Value} {s u:ByteArray} {G F:List Blk} {zc:List Value} (hown:BG e sv s G) (hsz:s.size + u.size ≤ 1000000000000) (hm:m.eff = true) (hg:gst ops T gd = some true) [ht:TyD P t (.slice e)] [hts:TyD P ts .string] [he:Ty P e false 1 bs zc] (hzc:zc.length = 1) (hbs:bs ≤ 8)
  (hx:ev T x = some sv) (hy:ev T y = some (.string u)) [hs:Split A G F] (hd:Nat.blt d N.n = true) (hp:Pd P N B ops m T (some d) (fun v X=>∃ G',BG e v (s ++ u) G' ∧ X = G' ++ F))
  (k:∀ v G',BG e v (s ++ u) G' → Ops P N B Q ops m.tl l ((d,v) :: T) (G' ++ F)):Ops P N B Q ops m (⟨some d,.call { callee:=.builtin .append,args:=#[x,y],argTypes:=#[t,ts] },ty,pos,af,gd⟩ :: l) T A :=
 Ops.effV hm hp hg hd (fun a w hF hS=>by
  have:=run_appendS (P:=P) (w:=w) (ty:=ty) (ts:=ts) (x:=u) ht hts he hzc hbs (hS.perm hs.perm) hown hsz
  simp only [execOp,resolve,invoke,builtin,Sem.run_bind,Sem.run_pure,Result.andThen_ok,List.map_toArray,List.map_cons,List.map_nil,hF.eval hx,hF.eval hy] at this ⊢
  exact this) fun v X ⟨G',h1,h2⟩=>by rw [h2];exact k v G' h1
theorem Ops.usd {t:TypeId} {x:Operand} {a0:Option Addr} {n c:Nat} (hm:m.eff = true) (hg:gst ops T gd = some true) (hx:ev T x = some (.slice a0 n c)) (hc:a0 = none ∨ 0 < c) (hd:Nat.blt d N.n = true) (hp:Pd P N B ops m T (some d) (fun u X=>u = .pointer a0 ∧ X = A)) (k:Ops P N B Q ops m.tl l ((d,.pointer a0) :: T) A) :
  Ops P N B Q ops m (⟨some d,.call { callee:=.builtin .unsafeSliceData,args:=#[x],argTypes:=#[t] },ty,pos,af,gd⟩ :: l) T A :=
 Ops.effV hm hp hg hd (fun a w hF hS=>by
  have:∀ tt,(Builtin.unsafeSliceData_ #[t] tt #[.slice a0 n c]).run P w = .ok (.pointer a0) w:=fun tt=>by
   cases a0 with
   | none=>exact Lib.run_unsafeSliceData_nil w _ _ _ _
   | some a=>exact Lib.run_unsafeSliceData_row w _ _ _ _ _ (by rcases hc with h|h <;> first|omega|cases h)
  simp only [execOp,resolve,invoke,builtin,Sem.run_bind,Sem.run_pure,Result.andThen_ok,List.map_toArray,List.map_cons,List.map_nil,hF.eval hx,this,effPost]
  exact ⟨A,⟨trivial,rfl⟩,hS⟩) fun u X ⟨h1,h2⟩=>by rw [h1,h2];exact k
theorem Ops.us {pt it e:TypeId} {x y:Operand} {a0:Option Addr} {n c:Nat} {s:ByteArray} {G F:List Blk} (hb:BG e (.slice a0 n c) s G) (hm:m.eff = true) (hg:gst ops T gd = some true) [hp':TyD P pt (.pointer e)] (hc:P.cellsOf e = 1) (hx:ev T x = some (.pointer a0)) (hy:ev T y = some (.int .i64 n)) (h63:n ≤ 9223372036854775807) [hs:Split A G F] (hd:Nat.blt d N.n = true)
  (hp:Pd P N B ops m T (some d) (fun u X=>∃ G',u = .string s ∧ BG e (.slice a0 n c) s G' ∧ X = G' ++ F)) (k:∀ G',BG e (.slice a0 n c) s G' → Ops P N B Q ops m.tl l ((d,.string s) :: T) (G' ++ F)) :
  Ops P N B Q ops m (⟨some d,.call { callee:=.builtin .unsafeString,args:=#[x,y],argTypes:=#[pt,it] },ty,pos,af,gd⟩ :: l) T A :=
 Ops.effV hm hp hg hd (fun a w hF hS=>by
  have hn:n = s.size:=by
   obtain ⟨a1,c1,h⟩:=hb.form
   injection h
  have hS':=hS.perm hs.perm
  have hr:∃ (w':World) (G':List Blk),(Builtin.unsafeString_ #[pt,it] ty #[.pointer a0,.int .i64 n]).run P w = .ok (.string s) w' ∧ BG e (.slice a0 n c) s G' ∧ Sat B (G' ++ F) w':=by
   rcases Nat.eq_zero_or_pos n with h0|h0
   ·have hse:s = .empty:=ByteArray.size_eq_zero_iff.1 (by omega)
    refine ⟨w,G,?_,hb,hS'⟩
    rw [hse,h0]
    exact Lib.run_unsafeString_none w pt it ty a0
   ·rcases hb with ⟨h1,h2,_⟩|⟨g,c',sp,f,h1,h2,h3,h4,h5⟩
    ·subst h2;simp at hn;omega
    ·injection h1 with h1 h1' h1''
     subst h1;subst h2;subst h1''
     obtain ⟨w',hr,hS2⟩:=run_us (P:=P) (it:=it) (ty:=ty) hp' hc (A1:=[]) (A2:=F) (n:=n) (by simpa using hS') hn.symm (fun j u hu=>by rw [List.getElem?_append_left (List.getElem?_eq_some_iff.1 hu).1,hu]) (by rw [List.length_append,bv_len];omega) h0 (by omega) h63
     exact ⟨w',[(g,clF (bv s ++ sp) e n)],hr,.inr ⟨g,c,sp,n,by rw [hn],rfl,by omega,h4,h5⟩,by simpa using hS2⟩
  obtain ⟨w',G',hr,hB,hS2⟩:=hr
  simp only [execOp,resolve,invoke,builtin,Sem.run_bind,Sem.run_pure,Result.andThen_ok,List.map_toArray,List.map_cons,List.map_nil,hF.eval hx,hF.eval hy,hr,effPost]
  exact ⟨_,⟨G',trivial,hB,rfl⟩,hS2⟩) fun u X ⟨G',h1,h2,h3⟩=>by rw [h1,h3];exact k G' h2
theorem Ops.toU {s t u:TypeId} {gu:Bool} {x:Operand} {b off sz bs:Nat} {zc L:List Value} {E:TypeId} (hm:m.rd false = true) (hg:gst ops T gd = some true) [hs:TyD P s (.pointer u)] [ht:TyD P t .unsafePointer] [hu:Ty P u gu sz bs zc] (hsz:sz ≠ 0) (hx:ev T x = some (.pointer (some ⟨b,off,none⟩))) [hb:Has A b (cl L E)] (hoff:off < L.length) (hd:Nat.blt d N.n = true)
  (k:Ops P N B Q ops m.tl l ((d,.pointer (some ⟨b,off,none⟩)) :: T) A):Ops P N B Q ops m (⟨some d,.convert s t x,ty,pos,af,gd⟩ :: l) T A :=
 Ops.readV hm hg hd (fun a w hF hS=>by
  obtain ⟨i,z,hi,_,_,hs',_⟩:=hu.get
  have:=Lib.run_to_unsafe (P:=P) (w:=w) ⟨b,off,none⟩ hs.und ht.und hi (by rw [hs'];exact hsz) (e:=E) (cells:=L.length) (by simp [World.shape?,hS.here _ hb.mem,cl]) hoff
  simp [execOp,hF.eval hx,this]) k
theorem Ops.fromU {s t u:TypeId} {gu:Bool} {x:Operand} {b sz bs:Nat} {zc L:List Value} (hm:m.rd false = true) (hg:gst ops T gd = some true) [hs:TyD P s .unsafePointer] [ht:TyD P t (.pointer u)] [hu:Ty P u gu sz bs zc] (hl:liesAt P P.depth u (L.length / P.cellsOf u) 0 u 1 = true) (hx:ev T x = some (.pointer (some ⟨b,0,none⟩))) [hb:Has A b (cl L u)] (hd:Nat.blt d N.n = true)
  (k:Ops P N B Q ops m.tl l ((d,.pointer (some ⟨b,0,none⟩)) :: T) A):Ops P N B Q ops m (⟨some d,.convert s t x,ty,pos,af,gd⟩ :: l) T A :=
 Ops.readV hm hg hd (fun a w hF hS=>by
  obtain ⟨i,z,hi,_,_,hs',_⟩:=hu.get
  have:=Lib.run_from_unsafe (P:=P) (w:=w) ⟨b,0,none⟩ hs.und ht.und hi (e:=u) (cells:=L.length) (by simp [World.shape?,hS.here _ hb.mem,cl]) hl
  simp [execOp,hF.eval hx,this]) k
theorem Ops.capS {t:TypeId} {x:Operand} {at':Option Addr} {n c:Nat} {e:TypeId} (hm:m.rd true = true) (hg:gst ops T gd = some true) [ht:TyD P t (.slice e)] (hx:ev T x = some (.slice at' n c)) (hd:Nat.blt d N.n = true)
  (k:Ops P N B Q ops m.tl l ((d,.int .i64 c) :: T) A):Ops P N B Q ops m (⟨some d,.call { callee:=.builtin .cap,args:=#[x],argTypes:=#[t] },ty,pos,af,gd⟩ :: l) T A :=
 Ops.pureV hm hg hd (fun a w hF=>by simp [execOp,resolve,invoke,builtin,Builtin.cap_,hF.eval hx,ht.run_und,goInt]) k
end
section
variable {P:Program} {t:TypeId}
theorem eqIn_ptrSame {e:TypeId} [h:TyD P t (.pointer e)] {g:Bool} {sz bs:Nat} {zc:List Value} [he:Ty P e g sz bs zc] {a:Addr} {w:World} (hsz:sz ≠ 0) (d:Nat):(Op.equalIn (d + 1) t (.pointer (some a)) (.pointer (some a))).run P w = .ok true w:=by
 obtain ⟨i,z,hi,_,_,hs,_⟩:=he.get
 simp [Op.equalIn,h.run_und,he.run_size,hsz,samePointer,sameAddr]
class PtrSized (P:Program) (t:TypeId):Prop where
 ok:∃ e g sz bs zc,TyD P t (.pointer e) ∧ Ty P e g sz bs zc ∧ sz ≠ 0
instance (priority:=900) BinRun.nePtrSame [h:PtrSized P t] {a:Addr}:BinRun P .neq t (.pointer (some a)) (.pointer (some a)) (.bool false):=⟨fun xo yo w=>by
 obtain ⟨e,g,sz,bs,zc,h1,h2,h3⟩:=h.ok
 rw [Sem.run_bind,run_eqGuard_ptr,Result.andThen_ok]
 exact run_neq rfl fun d=>eqIn_ptrSame (h:=h1) (he:=h2) h3 d⟩
end
end Go.Sep
namespace Go.Proofs.YtaecdnfkcebbeaaGreat
open Go Go.Sep Go.Proofs
set_option maxRecDepth 10000
set_option maxHeartbeats 40000000
set_option synthInstance.maxSize 2000
instance:TyD Tryz.prog 326 .unsafePointer:=⟨Tryz.underlying326⟩
instance:ExtOk Tryz.prog 254 Extern.AbiNoEscape.same:=⟨⟨_,Tryz.func254,by kernel_rfl,by kernel_rfl,by kernel_rfl,by kernel_rfl⟩⟩
instance:ExtOk Tryz.prog 286 (Extern.BytealgMakeNoZero.makeNoZero #[3] #[197]):=⟨⟨_,Tryz.func286,by kernel_rfl,by kernel_rfl,by kernel_rfl,by kernel_rfl⟩⟩
theorem cells_u8:Tryz.prog.cellsOf 5 = 1:=by kernel_rfl
theorem lies_bld:liesAt Tryz.prog Tryz.prog.depth 221 (2 / Tryz.prog.cellsOf 221) 0 221 1 = true:=by kernel_rfl
instance:PtrSized Tryz.prog 219:=⟨_,_,_,_,_,inferInstance,inferInstance,by decide⟩
@[reducible] def BuB (bb:Nat) (a0:Option Addr) (sv:Value):Blk:=(bb,cl [.pointer a0,sv] 221)
theorem cpck_spec (bb:Nat) (a0:Option Addr) (sv:Value) (ha:a0 = none ∨ a0 = some ⟨bb,0,none⟩):Con Tryz.prog 205 #[ptr bb] [BuB bb a0 sv] fun v A=>A = [BuB bb (some ⟨bb,0,none⟩) sv]:=by
 refine Con.intro (vs:=[_]) Tryz.func205 rfl Tryz.ntmps205 rfl (fun B=>?_)
 rcases ha with rfl|rfl
 ·refine zg7 ?_
  refine Ops.toU (off:=0) rfl rfl (by decide) rfl (by simp) rfl ?_
  refine Ops.extR (vs:=[ptr bb]) rfl rfl rfl (fun w=>Lib.run_noEscape w _) rfl (noPd rfl) ?_
  refine Ops.fromU rfl rfl lies_bld rfl rfl ?_
  refine zg4 ?_
  exact Ops.nilN (end0 (A':=[BuB bb (some ⟨bb,0,none⟩) sv]) rfl (fun _ h=>h.split) rfl)
 ·refine zg7 ?_
  exact Cd.skip (end0 (A':=[BuB bb (some ⟨bb,0,none⟩) sv]) rfl (fun _ h=>h.split) rfl)
def BuA (bb:Nat) (s:ByteArray) (D:List Blk):Prop:=∃ a0 sv G,D = BuB bb a0 sv :: G ∧ (a0 = none ∨ a0 = some ⟨bb,0,none⟩) ∧ BG 5 sv s G
theorem bwrite_spec (bb:Nat) (s u:ByteArray) (D:List Blk) (hD:BuA bb s D) (hsz:s.size + u.size ≤ 1000000000000):Con Tryz.prog 126 #[ptr bb,.string u] D fun v A=>BuA bb (s ++ u) A:=by
 obtain ⟨a0,sv,G,rfl,ha,hG⟩:=hD
 refine Con.intro (vs:=[_,_]) Tryz.func126 rfl Tryz.ntmps126 rfl (fun B=>?_)
 obtain ⟨a1,c1,rfl⟩:=hG.form
 refine zg0 ?_
 refine Ops.call (cpck_spec bb a0 (.slice a1 s.size c1) ha) rfl (noPd rfl) rfl rfl rfl (fun v A' hR=>?_)
 subst hR
 refine zg4 ?_
 refine Ops.appG hG hsz rfl rfl rfl (by decide) rfl rfl rfl (noPd rfl) (fun v G' hG'=>?_)
 obtain ⟨a2,c2,rfl⟩:=hG'.form
 refine zg32 ?_
 exact Cd.ret (ret2 (A':=BuB bb (some ⟨bb,0,none⟩) _ :: G') rfl (Res.tmp rfl) (Res.tmp rfl) (fun _ h=>h.split) ⟨_,_,G',rfl,.inr rfl,hG'⟩)
theorem blen_spec (bb:Nat) (s:ByteArray) (D:List Blk) (hD:BuA bb s D):Con Tryz.prog 247 #[ptr bb] D fun v A=>v = .int .i64 s.size ∧ A = D:=by
 obtain ⟨a0,sv,G,rfl,ha,hG⟩:=hD
 refine Con.intro (vs:=[_]) Tryz.func247 rfl Tryz.ntmps247 rfl (fun B=>?_)
 obtain ⟨a1,c1,rfl⟩:=hG.form
 refine zg7 ?_
 exact Cd.ret (ret1 (A':=BuB bb a0 _ :: G) rfl (Res.tmp rfl) (fun _ h=>h.split) ⟨rfl,rfl⟩)
theorem bstring_spec (bb:Nat) (s:ByteArray) (D:List Blk) (hD:BuA bb s D) (hsz:s.size ≤ 1000000000000):Con Tryz.prog 130 #[ptr bb] D fun v A=>v = .string s ∧ BuA bb s A:=by
 obtain ⟨a0,sv,G,rfl,ha,hG⟩:=hD
 refine Con.intro (vs:=[_]) Tryz.func130 rfl Tryz.ntmps130 rfl (fun B=>?_)
 obtain ⟨a1,c1,rfl⟩:=hG.form
 have hc:a1 = none ∨ 0 < c1:=by
  rcases hG with ⟨h1,_,_⟩|⟨g,c,sp,f,h1,_,_,_,h5⟩
  ·injection h1 with h1;exact .inl h1
  ·injection h1 with h1 _ h3;subst h3;exact .inr h5
 refine zg0 ?_
 refine Cd.draw [(0,0,[]),(1,0,[]),(2,0,[]),(3,1,[]),(5,0,[]),(6,0,[]),(7,0,[]),(8,1,[]),(9,1,[]),(4,2,[8,9]),(10,2,[]),(11,0,[])] (by kernel_rfl) (by kernel_rfl) (by simp only [picked,nth];exact rfl) ?_
 refine zg28 ?_
 refine Ops.usd rfl rfl rfl hc rfl (by intro v A' hR i hi;obtain ⟨rfl,rfl⟩:=hR;(repeat (rcases List.mem_cons.1 hi with rfl|hi;· (first|exact Still.ld1 rfl rfl rfl rfl rfl|exact Still.ldN rfl rfl rfl rfl|exact Still.len rfl rfl rfl rfl rfl|exact Still.skip rfl rfl rfl|exact Still.ldRow1 rfl rfl rfl (by assumption) (by assumption) rfl rfl|exact Still.ldR rfl rfl rfl (by apply_assumption) rfl)));cases hi) ?_
 skip
 refine Ops.us hG rfl rfl cells_u8 rfl rfl (by omega) rfl (noPd rfl) (fun G' hG'=>?_)
 refine zg1 ?_
 exact Cd.ret (ret1 (A':=BuB bb a0 _ :: G') rfl (Res.tmp rfl) (fun _ h=>h.split) ⟨rfl,_,_,G',rfl,ha,hG'⟩)
theorem bgrow_in (bb n:Nat) (h1:n ≤ 100000000) (h2:0 < n) (a0:Option Addr):Con Tryz.prog 268 #[ptr bb,.int .i64 n] [BuB bb a0 (.slice none 0 0)] fun v A=>∃ sv G,A = BuB bb a0 sv :: G ∧ BG 5 sv .empty G:=by
 refine Con.intro (vs:=[_,_]) Tryz.func268 rfl Tryz.ntmps268 rfl (fun B=>?_)
 refine zg0 ?_
 refine Cd.draw [(0,0,[]),(1,0,[]),(2,0,[]),(3,1,[]),(4,0,[]),(5,0,[]),(6,0,[]),(7,0,[]),(9,0,[]),(10,0,[]),(11,0,[]),(12,1,[]),(13,1,[]),(8,2,[12,13]),(14,0,[]),(15,0,[])] (by kernel_rfl) (by kernel_rfl) (by simp only [picked,nth];exact rfl) ?_
 refine zg2 ?_
 refine Ops.capS rfl rfl rfl rfl ?_
 refine zg44 ?_
 rw [show (2 * ((0:Nat):Int) + (n:Int)) = (n:Int) from by omega]
 refine Ops.mkNZ (n:=n) rfl rfl (by rfl) (by omega) rfl (by intro v A' hR i hi;obtain ⟨b2,cs,rfl,_,rfl⟩:=hR;(repeat (rcases List.mem_cons.1 hi with rfl|hi;· (first|exact Still.ld1 rfl rfl rfl rfl rfl|exact Still.ldN rfl rfl rfl rfl|exact Still.len rfl rfl rfl rfl rfl|exact Still.skip rfl rfl rfl|exact Still.ldRow1 rfl rfl rfl (by assumption) (by assumption) rfl rfl|exact Still.ldR rfl rfl rfl (by apply_assumption) rfl)));cases hi) (fun b2 cs hcs=>?_)
 refine zg42 ?_
 rw [show ((0:Nat):Int).toNat = 0 from rfl]
 refine Ops.cpNil rfl rfl rfl rfl rfl ?_
 refine zg4 ?_
 exact Ops.nilN (end0 (A':=BuB bb a0 (.slice (some ⟨b2,0,none⟩) 0 cs.length) :: [(b2,cl cs 5)]) rfl (fun _ h=>h.split) ⟨_,[(b2,cl cs 5)],rfl,.inr ⟨b2,cs.length,cs,0,rfl,rfl,Nat.zero_le _,by simp,by omega⟩⟩)
theorem bgrow_spec (bb n:Nat) (h1:n ≤ 100000000) (h2:0 < n):Con Tryz.prog 246 #[ptr bb,.int .i64 n] [BuB bb none (.slice none 0 0)] fun v A=>BuA bb .empty A:=by
 refine Con.intro (vs:=[_,_]) Tryz.func246 rfl Tryz.ntmps246 rfl (fun B=>?_)
 refine zg0 ?_
 refine Ops.call (cpck_spec bb none (.slice none 0 0) (.inl rfl)) rfl (noPd rfl) rfl rfl rfl (fun v A' hR=>?_)
 subst hR
 have h3:¬ (n:Int) < 0:=by omega
 have h4:(0:Int) < n:=by omega
 refine zg13 ?_
 refine Cd.draw [(0,0,[]),(1,0,[]),(2,0,[]),(3,1,[]),(4,0,[]),(5,0,[]),(6,0,[]),(7,0,[]),(8,1,[]),(9,1,[]),(10,0,[]),(11,0,[]),(12,0,[])] (by kernel_rfl) (by kernel_rfl) (by simp only [picked,nth];exact rfl) ?_
 refine zg2 ?_
 refine Ops.capS rfl rfl rfl rfl ?_
 refine zg33 ?_
 refine Ops.call (bgrow_in bb n h1 h2 (some ⟨bb,0,none⟩)) rfl (noPd rfl) rfl rfl rfl (fun v A' hR=>?_)
 obtain ⟨sv,G,rfl,hG⟩:=hR
 skip
 exact Ops.nilN (end0 (A':=BuB bb (some ⟨bb,0,none⟩) sv :: G) rfl (fun _ h=>h.split) ⟨_,_,G,rfl,.inr rfl,hG⟩)
end Go.Proofs.YtaecdnfkcebbeaaGreat
namespace Go.Sep
open Go
section
variable {P:Program} {N:Fi} {B:Base} {Q:Exit → Act → World → Prop} {T:Tm} {A:List Blk} {ops:Array Oper} {l:List Oper}
variable {d:Nat} {ty:TypeId} {pos:String} {af:Array Edge} {m:Md} {gd:Option (Nat × Bool)}
theorem Ops.min3 {t t' t'':TypeId} {x y z:Operand} {i j q:Int} {k1 k2 k3:IntKind} (hm:m.rd true = true) (hg:gst ops T gd = some true) (hx:ev T x = some (.int k1 i)) (hy:ev T y = some (.int k2 j)) (hz:ev T z = some (.int k3 q)) (hd:Nat.blt d N.n = true)
  (k:Ops P N B Q ops m.tl l ((d,.int k1 (min (min i j) q)) :: T) A):Ops P N B Q ops m (⟨some d,.call { callee:=.builtin .min,args:=#[x,y,z],argTypes:=#[t,t',t''] },ty,pos,af,gd⟩ :: l) T A :=
 Ops.pureV hm hg hd (fun a w hF=>by
  have e1:(if j < i then j else i) = min i j:=by split <;> omega
  have e2:(if q < min i j then q else min i j) = min (min i j) q:=by split <;> omega
  simp [execOp,resolve,invoke,builtin,Builtin.min_,Builtin.min2,hF.eval hx,hF.eval hy,hF.eval hz]
  rw [e1,e2];omega) k
theorem Ops.quoI {t t':TypeId} {x y:Operand} {a b:Nat} (hm:m.rd true = true) (hg:gst ops T gd = some true) (hx:ev T x = some (.int .i64 a)) (hy:ev T y = some (.int .i64 b)) (ha:a ≤ 9223372036854775807) (hb:b ≠ 0) (hd:Nat.blt d N.n = true)
  (k:Ops P N B Q ops m.tl l ((d,.int .i64 ((a / b:Nat):Int)) :: T) A):Ops P N B Q ops m (⟨some d,.binOp .quo t x y t',ty,pos,af,gd⟩ :: l) T A :=
 Ops.pureV hm hg hd (fun a' w hF=>by
  have h1:a / b ≤ a:=Nat.div_le_self _ _
  have h2:∀ q:Nat,q ≤ 9223372036854775807 → IntKind.i64.wrap (q:Int) = q:=by intro q hq;simp [IntKind.wrap,IntKind.bits,IntKind.signed];omega
  have h4:IntKind.i64.wrap ((a:Int) / (b:Int)) = (a:Int) / (b:Int):=by have:=h2 (a / b) (by omega);push_cast at this;exact this
  have h3:((a:Int)).tdiv (b:Int) = (a:Int) / (b:Int):=rfl
  simp [execOp,hF.eval hx,hF.eval hy,eqGuard,binOp,Op.intDiv,hb,h3,h4]) k
end
end Go.Sep
namespace Go.Proofs.YtaecdnfkcebbeaaGreat
open Go Go.Sep Go.Proofs
set_option maxRecDepth 10000
set_option maxHeartbeats 40000000
set_option synthInstance.maxSize 2000
theorem mul64_spec:Con Tryz.prog 266 #[.int .u64 1,.int .u64 103] [] fun v A=>v = .tuple #[.int .u64 0,.int .u64 103] ∧ A = []:=by
 refine Con.intro (vs:=[_,_]) Tryz.func266 rfl Tryz.ntmps266 rfl (fun B=>?_)
 refine zg8 ?_
 refine Ops.shrI rfl rfl rfl rfl (by decide) rfl ?_
 refine zg8 ?_
 refine Ops.shrI rfl rfl rfl rfl (by decide) rfl ?_
 refine zg8 ?_
 refine Ops.shrI rfl rfl rfl rfl (by decide) rfl ?_
 refine zg8 ?_
 refine Ops.shrI rfl rfl rfl rfl (by decide) rfl ?_
 refine zg8 ?_
 refine Ops.shrI rfl rfl rfl rfl (by decide) rfl ?_
 refine zg8 ?_
 exact Cd.ret (ret2 (A':=[]) rfl (Res.tmp rfl) (Res.tmp rfl) (fun _ h=>h.split) ⟨by rfl,rfl⟩)
theorem mul_spec:Con Tryz.prog 244 #[.int .u64 1,.int .u64 103] [] fun v A=>v = .tuple #[.int .u64 0,.int .u64 103] ∧ A = []:=by
 refine Con.intro (vs:=[_,_]) Tryz.func244 rfl Tryz.ntmps244 rfl (fun B=>?_)
 refine zg6 ?_
 refine Ops.call mul64_spec rfl (noPd rfl) rfl rfl rfl (fun v A' hR=>?_)
 obtain ⟨rfl,rfl⟩:=hR
 refine zg5 ?_
 exact ze15
def zB (n:Nat):ByteArray:=⟨Array.replicate n 0⟩
theorem zB_size (n:Nat):(zB n).size = n:=by show (Array.replicate n 0).size = n;simp
theorem zB_cut {n k:Nat} (h:k ≤ n):(zB n).extract 0 k = zB k:=by
 apply ByteArray.ext
 rw [ByteArray.data_extract]
 simp [zB,Nat.min_eq_left h]
theorem zB_app (n k:Nat):zB n ++ zB k = zB (n + k):=by
 apply ByteArray.ext
 rw [ByteArray.data_append]
 simp [zB]
structure RpS where
 m:Nat
 D:List Blk
theorem repeat_spec (s:ByteArray) (hs:s = zB 1):Con Tryz.prog 195 #[.string s,.int .i64 103] [] fun v A=>v = .string (zB 103) ∧ A = []:=by
 have hsz:s.size = 1:=by rw [hs,zB_size]
 have hg:s[(0:Int).toNat]? = some 0:=by subst hs;decide
 refine Con.intro (vs:=[_,_]) Tryz.func195 rfl Tryz.ntmps195 rfl (fun B=>?_)
 refine zg32 ?_
 refine Ops.cvI rfl rfl rfl rfl ?_
 rw [hsz,show IntKind.wrap .u64 ((1:Nat):Int) = 1 from by decide]
 refine zg0 ?_
 refine Ops.cvI rfl rfl rfl rfl ?_
 rw [show IntKind.wrap .u64 (103:Int) = 103 from by decide]
 refine Ops.call mul_spec rfl (noPd rfl) rfl rfl rfl (fun v A' hR=>?_)
 obtain ⟨rfl,rfl⟩:=hR
 refine zg19 ?_
 refine Ops.cvI rfl rfl rfl rfl ?_
 rw [show IntKind.wrap .i64 (103:Int) = 103 from by decide]
 refine zg12 ?_
 rw [hsz]
 skip
 refine Ops.ixS rfl rfl rfl rfl (by decide) hg rfl ?_
 rw [show ((0:UInt8).toNat:Int) = 0 from rfl]
 repeat' (first|refine Cd.seq ?_|refine Cd.reg ?_|refine Ops.nil ?_|refine Ops.mv rfl rfl rfl rfl ?_|refine Ops.asg rfl rfl rfl rfl ?_|refine Ops.bin rfl rfl rfl rfl rfl ?_|refine Ops.alloc rfl rfl rfl (noPd rfl) (fun b=>?_)|refine Cd.condF rfl rfl ?_|refine Cd.block ?_|refine Cd.skip (Cd.next ?_)|refine Cd.skip (Cd.next (Q':=fun _ _ _=>True) ?_))
 rename Nat=>bb
 refine Ops.call (bgrow_spec bb 103 (by decide) (by decide)) rfl (noPd rfl) rfl rfl rfl (fun v A' hR=>?_)
 refine zg0 ?_
 refine Ops.call (bwrite_spec bb .empty s _ hR (by rw [hsz];decide)) rfl (noPd rfl) rfl rfl rfl (fun v A' hR=>?_)
 rw [ByteArray.empty_append,hs] at hR
 refine zg3 ?_
 refine Cd.loopK (σ:=RpS) (fun t=>1 ≤ t.m ∧ t.m ≤ 103 ∧ BuA bb (zB t.m) t.D) (fun t=>[(7,.int .i64 103),(8,.int .i64 103),(9,ptr bb)]) (fun t=>t.D) (fun t=>103 - t.m) ⟨1,_⟩ ⟨Nat.le_refl _,(by decide:(1:Nat) ≤ 103),hR⟩ ⟨rfl,rfl,rfl,trivial⟩ (fun w h=>h.split) (fun t ht=>?_)
 obtain ⟨k,D⟩:=t
 obtain ⟨h1,h2,hD⟩:=ht
 dsimp only at h1 h2 hD ⊢
 have hk:=zB_size k
 by_cases hlt:k < 103
 ·have hlt':(((zB k).size:Nat):Int) < 103:=by omega
  refine zg0 ?_
  refine Ops.call (blen_spec bb (zB k) _ hD) rfl (noPd rfl) rfl rfl rfl (fun v A' hR=>?_)
  obtain ⟨rfl,rfl⟩:=hR
  refine zg14 ?_
  refine Ops.call (blen_spec bb (zB k) _ hD) rfl (noPd rfl) rfl rfl rfl (fun v A' hR=>?_)
  obtain ⟨rfl,rfl⟩:=hR
  refine zg32 ?_
  refine Ops.call (blen_spec bb (zB k) _ hD) rfl (noPd rfl) rfl rfl rfl (fun v A' hR=>?_)
  obtain ⟨rfl,rfl⟩:=hR
  refine zg0 ?_
  refine Ops.min3 rfl rfl rfl rfl rfl rfl ?_
  refine zg0 ?_
  refine Ops.call (bstring_spec bb (zB k) _ hD (by omega)) rfl (noPd rfl) rfl rfl rfl (fun v A' hR=>?_)
  obtain ⟨rfl,hD2⟩:=hR
  have hcut:((min (min ((103:Int) - (((zB k).size:Nat):Int)) (((zB k).size:Nat):Int)) 103).toNat) = min (103 - k) k:=by rw [hk];omega
  refine zg0 ?_
  refine Ops.slSHi rfl rfl rfl rfl (by omega) (by omega) rfl ?_
  rw [hcut,zB_cut (by omega)]
  refine Ops.call (bwrite_spec bb (zB k) (zB (min (103 - k) k)) _ hD2 (by rw [zB_size,zB_size];omega)) rfl (noPd rfl) rfl rfl rfl (fun v A' hR=>?_)
  rw [zB_app] at hR
  exact Ops.nilN (inB (round_end (⟨k + min (103 - k) k,_⟩:RpS) ⟨by show 1 ≤ k + _;omega,by show k + min (103 - k) k ≤ 103;omega,hR⟩ (by show 103 - (k + min (103 - k) k) < 103 - k;omega) ⟨rfl,rfl,rfl,trivial⟩ (fun w h=>h.split)))
 ·have hke:k = 103:=by omega
  have hlt':¬ (((zB k).size:Nat):Int) < 103:=by omega
  refine zg0 ?_
  refine Ops.call (blen_spec bb (zB k) _ hD) rfl (noPd rfl) rfl rfl rfl (fun v A' hR=>?_)
  obtain ⟨rfl,rfl⟩:=hR
  refine zg12 ?_
  refine Ops.call (bstring_spec bb (zB k) _ hD (by omega)) rfl (noPd rfl) rfl rfl rfl (fun v A' hR=>?_)
  obtain ⟨rfl,hD2⟩:=hR
  refine zg1 ?_
  exact Cd.ret (ret1 (A':=[]) rfl (Res.tmp rfl) (fun _ h=>h.split) ⟨by rw [hke],rfl⟩)
theorem noughts_spec:Con Tryz.prog 121 #[.int .i64 103] [] fun v A=>v = .string (zB 103) ∧ A = []:=by
 refine Con.intro (vs:=[_]) Tryz.func121 rfl Tryz.ntmps121 rfl (fun B=>?_)
 refine zg0 ?_
 refine Ops.call (repeat_spec _ (by rfl)) rfl (noPd rfl) rfl rfl rfl (fun v A' hR=>?_)
 obtain ⟨rfl,rfl⟩:=hR
 refine zg1 ?_
 exact ze8
end Go.Proofs.YtaecdnfkcebbeaaGreat
