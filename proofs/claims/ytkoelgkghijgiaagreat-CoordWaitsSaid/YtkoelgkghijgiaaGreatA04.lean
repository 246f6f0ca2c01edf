import Derived.Test.YtkoelgkghijgiaaGreatA03
import Derived.Test.YtkoelgkghijgiaaGreatA02
import Derived.Test.YtkoelgkghijgiaaGreatRows
set_option linter.unusedVariables false
set_option linter.unusedSimpArgs false
namespace Go.Sep
open Go
section
variable {P:Program} {N:Fi} {B:Base} {Q:Exit → Act → World → Prop} {T:Tm} {A:List Blk} {ops:Array Oper} {l:List Oper}
variable {d:Nat} {ty:TypeId} {pos:String} {af:Array Edge} {m:Md} {gd:Option (Nat × Bool)}
theorem Ops.maxI {t t':TypeId} {x y:Operand} {i j:Int} {k1 k2:IntKind} (hm:m.rd true = true) (hg:gst ops T gd = some true) (hx:ev T x = some (.int k1 i)) (hy:ev T y = some (.int k2 j)) (hd:Nat.blt d N.n = true)
  (k:Ops P N B Q ops m.tl l ((d,.int k1 (max i j)) :: T) A):Ops P N B Q ops m (⟨some d,.call { callee:=.builtin .max,args:=#[x,y],argTypes:=#[t,t'] },ty,pos,af,gd⟩ :: l) T A :=
 Ops.pureV hm hg hd (fun a w hF=>by
  have e:(if j > i then j else i) = max i j:=by split <;> omega
  simp [execOp,resolve,invoke,builtin,Builtin.max_,Builtin.max2,hF.eval hx,hF.eval hy,← e]) k
theorem Ops.minI {t t':TypeId} {x y:Operand} {i j:Int} {k1 k2:IntKind} (hm:m.rd true = true) (hg:gst ops T gd = some true) (hx:ev T x = some (.int k1 i)) (hy:ev T y = some (.int k2 j)) (hd:Nat.blt d N.n = true)
  (k:Ops P N B Q ops m.tl l ((d,.int k1 (min i j)) :: T) A):Ops P N B Q ops m (⟨some d,.call { callee:=.builtin .min,args:=#[x,y],argTypes:=#[t,t'] },ty,pos,af,gd⟩ :: l) T A :=
 Ops.pureV hm hg hd (fun a w hF=>by
  have e:(if j < i then j else i) = min i j:=by split <;> omega
  simp [execOp,resolve,invoke,builtin,Builtin.min_,Builtin.min2,hF.eval hx,hF.eval hy,← e]) k
theorem Ops.mk1 {t e:TypeId} {ge:Bool} {x y:Operand} {bs:Nat} {z:Value} {i:Int} {k1 k2:IntKind} (hm:m.eff = true) (hg:gst ops T gd = some true) [ht:TyD P t (.slice e)] [he:Ty P e ge 1 bs [z]] (hx:ev T x = some (.int k1 i)) (hy:ev T y = some (.int k2 i)) (h0:0 ≤ i) (h1:i ≤ 1048576) (hb:bs ≤ 65536) (hd:Nat.blt d N.n = true)
  (hp:Pd P N B ops m T (some d) (NewR (fun b=>.slice (some ⟨b,0,none⟩) i.toNat i.toNat) (cl (List.replicate i.toNat z) e) A)) (k:∀ b,Ops P N B Q ops m.tl l ((d,.slice (some ⟨b,0,none⟩) i.toNat i.toNat) :: T) ((b,cl (List.replicate i.toNat z) e) :: A)):Ops P N B Q ops m (⟨some d,.makeSlice t x y,ty,pos,af,gd⟩ :: l) T A :=
 Ops.new (v:=fun b=>.slice (some ⟨b,0,none⟩) i.toNat i.toNat) hm hp hg hd (fun a w hF hS=>by
  obtain ⟨zv,hz,hzc⟩:=he.run_zero (w:=w)
  obtain ⟨i3,hi3,his3,hib3⟩:=he.run_info (w:=w)
  obtain ⟨n,rfl⟩:∃ n:Nat,i = n:=⟨i.toNat,by omega⟩
  have wl:IntKind.i64.wrap (n:Int) = n:=by simp [IntKind.wrap,IntKind.bits,IntKind.signed];omega
  have hnb:n * bs ≤ 1048576 * 65536:=Nat.mul_le_mul (by omega) hb
  have hnb':(bs:Int) * (n:Int) ≤ 68719476736:=by
   have:((n * bs:Nat):Int) ≤ ((1048576 * 65536:Nat):Int):=by exact_mod_cast hnb
   rw [Int.natCast_mul,Int.mul_comm] at this
   omega
  have n1:¬ ((n:Int) < 0):=by omega
  have n2:¬ (281474976710656 < (bs:Int) * (n:Int)):=by omega
  have n3:¬ (140737488355328 < n * bs):=by omega
  rcases Nat.eq_zero_or_pos n with rfl|hn
  ·have w0:IntKind.i64.wrap 0 = 0:=by decide
   simp [execOp,hF.eval hx,hF.eval hy,Instr.makeSlice,ht.run_und,asInt,asIntOf,hi3,his3,hib3,he.run_size,w0,newRow,askRoom,roomBytes,cl]
   congr 2
   apply Array.ext <;> simp
  ·have hn0:n ≠ 0:=by omega
   simp [execOp,hF.eval hx,hF.eval hy,Instr.makeSlice,ht.run_und,asInt,asIntOf,hi3,his3,hib3,he.run_size,wl,n1,n2,n3,newRow,askRoom,roomBytes,cl,hn0,hz,hzc]
   congr 2
   apply Array.ext
   ·simp
   ·intro q h1 h2;simp [Nat.mod_one]) k
end
end Go.Sep
namespace Go.Sep
open Go
section
variable {P:Program} {N:Fi} {B:Base} {Q:Exit → Act → World → Prop} {T:Tm} {A:List Blk} {ops:Array Oper} {l:List Oper}
variable {d:Nat} {ty:TypeId} {pos:String} {af:Array Edge} {m:Md} {gd:Option (Nat × Bool)}
theorem Still.ldR {i dd t:Nat} {x:Operand} {b off:Nat} {sz bs:Nat} {zc:List Value} {v:Value} (ho:ops[i]? = some ⟨some dd,.load t x,ty,pos,af,gd⟩) (hg:gst ops T gd = some true) (hx:ev T x = some (.pointer (some ⟨b,off,none⟩)))
  [ht:Ty P t false sz bs zc] (hv:Rd B A b off v) (hl:look T dd = some v):Still P N B ops T A i :=
 ⟨_,dd,v,ho,rfl,hl,fun a w hF hS=>.inl ⟨gst_wanted (o:=⟨some dd,.load t x,ty,pos,af,gd⟩) hF hg,by simp [execOp,hF.eval hx,run_loadAt1 ht (hv w hS)]⟩⟩
theorem Still.ldRow1 {i' dd t:Nat} {x:Operand} {b i o:Nat} {sz sz' bs:Nat} {zc r:List Value} {rows:List (List Value)} {spare:List Value} {E:TypeId} {v:Value} (ho:ops[i']? = some ⟨some dd,.load t x,ty,pos,af,gd⟩) (hg:gst ops T gd = some true) [ht:Ty P t false sz' bs zc]
  (hx:ev T x = some (.pointer (some ⟨b,i * sz + o,none⟩))) [hb:Has A b (cl (rows.flatten ++ spare) E)] (hr:RowsOk sz rows) (hi:rows[i]? = some r) (hv:r[o]? = some v) (hl:look T dd = some v):Still P N B ops T A i' :=
 ⟨_,dd,v,ho,rfl,hl,fun a w hF hS=>.inl ⟨gst_wanted (o:=⟨some dd,.load t x,ty,pos,af,gd⟩) hF hg,by
  have hl:=(hr r (List.mem_of_getElem? hi)).1
  have ho:o < sz:=by rw [← hl];exact (List.getElem?_eq_some_iff.1 hv).1
  have h1:=hr.at_ hi ho
  have hc:w.cell? ⟨b,i * sz + o,none⟩ = some v:=by
   rw [cell_of (hS.here _ hb.mem),List.getElem?_append_left (List.getElem?_eq_some_iff.1 (h1.trans hv)).1,h1,hv]
  simp [execOp,hF.eval hx,run_loadAt1 ht hc]⟩⟩
theorem Still.skip {i dd j:Nat} {want:Bool} {op:Op} (ho:ops[i]? = some ⟨some dd,op,ty,pos,af,some (j,want)⟩) (hg:gst ops T (some (j,want)) = some false) (hl:look T dd = some undef):Still P N B ops T A i :=
 ⟨_,dd,undef,ho,rfl,hl,fun a w hF hS=>.inr ⟨gst_wanted (o:=⟨some dd,op,ty,pos,af,some (j,want)⟩) hF hg,rfl⟩⟩
end
end Go.Sep
namespace Go.Sep
open Go
theorem rows_set1 {sz:Nat} {v:Value}:∀ {rows:List (List Value)},RowsOk sz rows → ∀ {i o:Nat} {r:List Value},rows[i]? = some r → o < sz → rows.flatten.set (i * sz + o) v = (rows.set i (r.set o v)).flatten
 | [],_,i,o,r,hi,_=>by simp at hi
 | x :: rows,h,0,o,r,hi,ho=>by
  simp only [List.getElem?_cons_zero,Option.some.injEq] at hi
  subst hi
  have hx:=(h x (List.mem_cons_self ..)).1
  simp only [List.flatten_cons,List.set_cons_zero,Nat.zero_mul,Nat.zero_add]
  rw [List.set_append_left _ _ (by omega)]
 | x :: rows,h,i + 1,o,r,hi,ho=>by
  have hx:=(h x (List.mem_cons_self ..)).1
  have ih:=rows_set1 (rows:=rows) (v:=v) (fun y hy=>h y (List.mem_cons_of_mem _ hy)) (i:=i) (o:=o) (r:=r) (by simpa using hi) ho
  simp only [List.flatten_cons,List.set_cons_succ]
  rw [List.set_append_right _ _ (by rw [hx,Nat.add_mul];omega),hx,show (i + 1) * sz + o - sz = i * sz + o from by rw [Nat.add_mul];omega,ih]
section
variable {P:Program} {N:Fi} {B:Base} {Q:Exit → Act → World → Prop} {T:Tm} {A:List Blk} {ops:Array Oper} {l:List Oper}
variable {d:Nat} {ty:TypeId} {pos:String} {af:Array Edge} {m:Md} {gd:Option (Nat × Bool)}
theorem Ops.stRow1 {t:TypeId} {x y:Operand} {b i o:Nat} {gt:Bool} {sz bs:Nat} {zc r:List Value} {rows:List (List Value)} {spare:List Value} {E:TypeId} {v:Value} {A':List Blk} (hm:m.eff = true) (hg:gst ops T gd = some true) [ht:Ty P t gt 1 bs zc]
  (hx:ev T x = some (.pointer (some ⟨b,i * sz + o,none⟩))) (hy:ev T y = some v) (h1:v.oneCell' = true) [hb:Has A b (cl (rows.flatten ++ spare) E)] (hr:RowsOk sz rows) (hi:rows[i]? = some r) (ho:Nat.blt o sz = true)
  [hu:Upd A b (cl (rows.flatten ++ spare) E) (cl ((rows.set i (r.set o v)).flatten ++ spare) E) A'] (hp:Pd P N B ops m T none (fun _ X=>X = A'))
  (k:Ops P N B Q ops m.tl l T A'):Ops P N B Q ops m (⟨none,.store t x y,ty,pos,af,gd⟩ :: l) T A :=
 Ops.unit hm hp hg (fun a w hF hS=>by
  obtain ⟨A1,A2,rfl,rfl⟩:=hu.put
  have ho':o < sz:=by simpa [Nat.blt_eq] using ho
  have hc:v.cells = [v].toArray:=by cases v <;> first|rfl|cases h1
  have hl:=(hr r (List.mem_of_getElem? hi)).1
  have hlt:=(List.getElem?_eq_some_iff.1 hi).1
  have hfit:i * sz + o < rows.flatten.length:=by
   rw [hr.len]
   have:(i + 1) * sz ≤ rows.length * sz:=Nat.mul_le_mul_right _ hlt
   rw [Nat.add_mul] at this
   omega
  obtain ⟨w',hrun,hS'⟩:=run_storeAt (P:=P) hS ht hc rfl (off:=i * sz + o) (by simpa using h1) (by rw [List.length_append,List.length_singleton];omega)
  refine ⟨w',by simp [execOp,hF.eval hx,hF.eval hy,hrun],?_⟩
  rw [ins_cons (by rw [List.length_append];omega),ins_nil,List.set_append_left _ _ hfit,rows_set1 hr hi ho'] at hS'
  exact hS') k
theorem Cd.blk {c:Code} {A':List Blk} (k:Cd P N B Q c T A') (hA:∀ w,Sat B A w → Sat B A' w):Cd P N B Q c T A :=
 fun a w hF hS=>k a w hF (hA w hS)
end
end Go.Sep
namespace Go.Sep
open Go
section
variable {P:Program} {N:Fi} {B:Base} {Q:Exit → Act → World → Prop} {T:Tm} {A:List Blk} {ops:Array Oper} {l:List Oper}
variable {d:Nat} {op:Op} {ty:TypeId} {pos:String} {af:Array Edge} {m:Md} {gd:Option (Nat × Bool)}
theorem unwanted {j dj:Nat} {want:Bool} {dst:Option Nat} {a:Act} (hF:Fr N T a) (hj:(ops[j]?).bind (·.dst) = some dj) (hu:look T dj = some undef):Region.wanted ⟨dst,op,ty,pos,af,some (j,want)⟩ (yielded ops a.tmps) = false:=by
 unfold Region.wanted
 have:yielded ops a.tmps j = none:=by
  unfold yielded
  rw [hj]
  simp [hF.get _ _ hu,undef]
 simp [this]
theorem Ops.gSkipU {j dj:Nat} {want:Bool} (hm:m.rd true = true) (hj:(ops[j]?).bind (·.dst) = some dj) (hu:look T dj = some undef) (hd:Nat.blt d N.n = true) (k:Ops P N B Q ops m.tl l ((d,undef) :: T) A) :
  Ops P N B Q ops m (⟨some d,op,ty,pos,af,some (j,want)⟩ :: l) T A :=
 Ops.rdG true hm rfl hd (fun _ _ hF _=>.inr ⟨unwanted hF hj hu,rfl⟩) k
theorem Ops.gSkipUE {j dj:Nat} {want:Bool} (hm:m.eff = true) (hp:Pd P N B ops m T (some d) (fun u X=>u = undef ∧ X = A)) (hj:(ops[j]?).bind (·.dst) = some dj) (hu:look T dj = some undef) (hd:Nat.blt d N.n = true) (k:Ops P N B Q ops m.tl l ((d,undef) :: T) A) :
  Ops P N B Q ops m (⟨some d,op,ty,pos,af,some (j,want)⟩ :: l) T A :=
 Ops.effG hm (fun d' h=>by injection h with h;rw [← h];exact hd) (fun _ _ hF hS=>.inr ⟨unwanted hF hj hu,A,⟨rfl,rfl⟩,hS⟩) hp fun u X ⟨h1,h2⟩=>by rw [h1,h2];exact k
end
end Go.Sep
namespace Go.Sep
open Go
section
variable {P:Program} {N:Fi} {B:Base} {Q:Exit → Act → World → Prop} {T:Tm} {A:List Blk} {ops:Array Oper} {l:List Oper}
variable {d:Nat} {op:Op} {ty:TypeId} {pos:String} {af:Array Edge} {m:Md} {gd:Option (Nat × Bool)}
theorem Ops.mulI {t t':TypeId} {x y:Operand} {a b:Int} (hm:m.rd true = true) (hg:gst ops T gd = some true) (hx:ev T x = some (.int .i64 a)) (hy:ev T y = some (.int .i64 b)) (h0:-9223372036854775808 ≤ a * b) (h1:a * b ≤ 9223372036854775807) (hd:Nat.blt d N.n = true)
  (k:Ops P N B Q ops m.tl l ((d,.int .i64 (a * b)) :: T) A):Ops P N B Q ops m (⟨some d,.binOp .mul t x y t',ty,pos,af,gd⟩ :: l) T A :=
 Ops.pureV hm hg hd (fun a w hF=>by
  simp [execOp,hF.eval hx,hF.eval hy,eqGuard,binOp,Op.intArith,IntWalk.i64_in _ ⟨h0,h1⟩]) k
end
end Go.Sep
namespace Go.Sep
open Go
section
variable {P:Program} {N:Fi} {B:Base} {Q:Exit → Act → World → Prop} {T:Tm} {A:List Blk} {ops:Array Oper} {l:List Oper}
variable {d:Nat} {op:Op} {ty:TypeId} {pos:String} {af:Array Edge} {m:Md} {gd:Option (Nat × Bool)}
theorem Ops.remI {t t':TypeId} {x y:Operand} {a b:Int} (hm:m.rd true = true) (hg:gst ops T gd = some true) (hx:ev T x = some (.int .i64 a)) (hy:ev T y = some (.int .i64 b)) (hb:b ≠ 0) (hd:Nat.blt d N.n = true)
  (k:Ops P N B Q ops m.tl l ((d,.int .i64 (a.tmod b)) :: T) A):Ops P N B Q ops m (⟨some d,.binOp .rem t x y t',ty,pos,af,gd⟩ :: l) T A :=
 Ops.pureV hm hg hd (fun a w hF=>by
  simp [execOp,hF.eval hx,hF.eval hy,eqGuard,binOp,Op.intDiv,hb]) k
end
end Go.Sep
namespace Go.Sep
open Go
section
variable {P:Program} {N:Fi} {B:Base} {Q:Exit → Act → World → Prop} {T:Tm} {A:List Blk} {ops:Array Oper} {l:List Oper}
variable {d:Nat} {op:Op} {ty:TypeId} {pos:String} {af:Array Edge} {m:Md} {gd:Option (Nat × Bool)}
theorem ins_mid {pre r post vs:List Value} {o:Nat} (h:o + vs.length ≤ r.length):ins (pre ++ (r ++ post)) (pre.length + o) vs = pre ++ (ins r o vs ++ post):=by
 rw [← ins_left h]
 unfold ins
 rw [List.take_append,List.take_of_length_le (by omega),Nat.add_sub_cancel_left,Nat.add_assoc,List.drop_append,List.drop_eq_nil_of_le (by omega),Nat.add_sub_cancel_left]
 simp
end
theorem rows_mid {rows:List (List Value)} {spare r:List Value} {j:Nat} (h:rows[j]? = some r):rows.flatten ++ spare = (rows.take j).flatten ++ (r ++ ((rows.drop (j + 1)).flatten ++ spare)):=by
 obtain ⟨hj,rfl⟩:=List.getElem?_eq_some_iff.1 h
 have e:=List.take_append_drop j rows
 rw [List.drop_eq_getElem_cons hj] at e
 conv=>lhs;rw [← e]
 simp only [List.flatten_append,List.flatten_cons,List.append_assoc]
theorem rows_mid_set {rows:List (List Value)} {spare r:List Value} {j:Nat} (hj:j < rows.length):(rows.take j).flatten ++ (r ++ ((rows.drop (j + 1)).flatten ++ spare)) = (rows.set j r).flatten ++ spare:=by
 rw [List.set_eq_take_append_cons_drop,if_pos hj]
 simp only [List.flatten_append,List.flatten_cons,List.append_assoc]
theorem rows_mid_len {sz:Nat} {rows:List (List Value)} (h:RowsOk sz rows) {j:Nat} (hj:j ≤ rows.length):(rows.take j).flatten.length = j * sz:=by
 have:RowsOk sz (rows.take j):=fun r hr=>h r (List.mem_of_mem_take hr)
 rw [this.len,List.length_take,Nat.min_eq_left hj]
end Go.Sep
namespace Go.Sep
open Go
def Base.add (B:Base) (n:Nat) (o:Obj):Base:={ B with h:=fun k=>if k = n then some o else B.h k }
def Base.mark (B:Base) (D:Nat):Base:=B.add D (.deferred (some []))
def Base.marks (B:Base):List Nat → Base
 | []=>B
 | D :: ds=>(B.marks ds).mark D
def MarksOk (B:Base):List Nat → Prop
 | []=>True
 | D :: ds=>(B.marks ds).h D = none ∧ MarksOk B ds
theorem Sat.add {B:Base} {A:List Blk} {w:World} {n:Nat} {o:Obj} (h:Sat B ((n,o) :: A) w):Sat (B.add n o) A w:=by
 have hnd:=h.nodup
 simp only [List.map_cons,List.nodup_cons] at hnd
 refine ⟨h.os,h.tape,h.output,fun k o' hk=>?_,fun p hp=>h.here p (List.mem_cons_of_mem _ hp),fun p hp=>?_,hnd.2⟩
 ·simp only [Base.add] at hk
  split at hk
  ·rename_i e;subst e;injection hk with hk;subst hk;exact h.here (k,o) (List.mem_cons_self ..)
  ·exact h.base k o' hk
 ·have:p.1 ≠ n:=fun e=>hnd.1 (e ▸ List.mem_map_of_mem hp)
  simp only [Base.add,if_neg this]
  exact h.apart p (List.mem_cons_of_mem _ hp)
theorem Sat.not_in {B:Base} {A:List Blk} {w:World} {n:Nat} {o:Obj} (h:Sat (B.add n o) A w):∀ p ∈ A,p.1 ≠ n:=fun p hp e=>by
 have:=h.apart p hp
 simp [Base.add,e] at this
theorem Sat.unadd {B:Base} {A:List Blk} {w:World} {n:Nat} {o:Obj} (hn:B.h n = none) (h:Sat (B.add n o) A w):Sat B ((n,o) :: A) w:=by
 have hni:=h.not_in
 refine ⟨h.os,h.tape,h.output,fun k o' hk=>?_,fun p hp=>?_,fun p hp=>?_,?_⟩
 ·refine h.base k o' ?_
  have:k ≠ n:=fun e=>by rw [e,hn] at hk;cases hk
  simpa [Base.add,this] using hk
 ·rcases List.mem_cons.1 hp with rfl|hp
  ·exact h.base _ _ (by simp [Base.add])
  ·exact h.here p hp
 ·rcases List.mem_cons.1 hp with rfl|hp
  ·exact hn
  ·have:=h.apart p hp
   simpa [Base.add,hni p hp] using this
 ·simp only [List.map_cons,List.nodup_cons]
  exact ⟨fun hm=>by obtain ⟨p,hp,e⟩:=List.mem_map.1 hm;exact hni p hp e,h.nodup⟩
theorem Sat.putOther {B:Base} {A:List Blk} {w:World} {n:Nat} {o:Obj} (h:Sat B A w) (hn:B.h n = none) (hA:∀ p ∈ A,p.1 ≠ n):Sat B A (w.putObj n o) :=
 ⟨h.os,h.tape,h.output,fun k o' hk=>by
  have:k ≠ n:=fun e=>by rw [e,hn] at hk;cases hk
  rw [World.putObj_heap_other this];exact h.base k o' hk,fun p hp=>by rw [World.putObj_heap_other (hA p hp)];exact h.here p hp,h.apart,h.nodup⟩
theorem Sat.putHead {B:Base} {A:List Blk} {w:World} {n:Nat} {o o':Obj} (h:Sat B ((n,o) :: A) w):Sat B ((n,o') :: A) (w.putObj n o'):=by
 have hh:=h.here (n,o) (List.mem_cons_self ..)
 exact Sat.put (A1:=[]) h rfl rfl rfl (World.putObj_heap_same (lt_of_get hh)) fun k hk=>World.putObj_heap_other hk
structure Ext (B B2:Base):Prop where
 h:∀ n o,B.h n = some o → B2.h n = some o
 os:B2.os = B.os
 tape:B2.tape = B.tape
 output:B2.output = B.output
theorem Ext.refl (B:Base):Ext B B:=⟨fun _ _ h=>h,rfl,rfl,rfl⟩
theorem Ext.trans {B B2 B3:Base} (h:Ext B B2) (k:Ext B2 B3):Ext B B3:=⟨fun n o hn=>k.h n o (h.h n o hn),k.os.trans h.os,k.tape.trans h.tape,k.output.trans h.output⟩
theorem Ext.plain {B B2:Base} (h:Ext B B2):Ext B B2.plain:=⟨h.h,h.os,h.tape,h.output⟩
theorem Ext.sat {B B2:Base} (e:Ext B B2) {A:List Blk} {w:World} (h:Sat B2 A w):Sat B A w :=
 ⟨h.os.trans e.os,h.tape.trans e.tape,h.output.trans e.output,fun n o hn=>h.base n o (e.h n o hn),h.here,(fun p hp=>by
  cases hb:B.h p.1 with
  | none=>rfl
  | some o =>
   have:=e.h _ _ hb
   rw [h.apart p hp] at this
   cases this),h.nodup⟩
theorem Ext.add {B:Base} {n:Nat} {o:Obj} (hn:B.h n = none):Ext B (B.add n o):=⟨fun k o' hk=>by
 have:k ≠ n:=fun e=>by rw [e,hn] at hk;cases hk
 simpa [Base.add,this] using hk,rfl,rfl,rfl⟩
theorem Ext.with {B:Base} {A F:List Blk} {w:World} (h:Sat B (A ++ F) w):Ext B (B.with F):=⟨fun n o hn=>by
 have:F.find? (fun q=>q.1 == n) = none:=find_none fun q hq e=>by
  have:=h.right.apart q hq
  rw [e,hn] at this
  cases this
 simp only [Base.with,this]
 exact hn,rfl,rfl,rfl⟩
theorem Rd.ext {B B2:Base} {A:List Blk} {b off:Nat} {v:Value} (e:Ext B B2) (h:Rd B A b off v):Rd B2 A b off v:=fun w hS=>h w (e.sat hS)
section
variable {P:Program} {K:Nat} {B:Base} {T:Tm} {A:List Blk} {fn:Func} {R:Value → List Blk → Prop}
theorem unmark {ds:List Nat} (hm:MarksOk B ds) (h:∀ a w,Fr ⟨K,[]⟩ T a → Sat B A w → post P fn B R .ret a w):∀ a w,Fr ⟨K,ds.map mark⟩ T a → Sat (B.marks ds) A w → post P fn B R .ret a w:=by
 intro a w hF hS
 show LeavesInM Fence.wide 0 P fn a.tmps _ a.defers .returning w
 rw [show a.defers = ds.map mark from hF.dfr]
 have hF':Fr ⟨K,[]⟩ T { a with defers:=[] }:=⟨hF.size,rfl,hF.get⟩
 clear hF
 induction ds generalizing w with
 | nil=>exact h { a with defers:=[] } w hF' hS
 | cons D ds ih =>
  have hD:w.heap[D]? = some (.deferred (some [])):=hS.base D _ (by simp [Base.marks,Base.mark,Base.add])
  have hS2:Sat (B.marks ds) A (w.putObj D (.deferred none)):=(hS.unadd hm.1).tail.putOther hm.1 hS.not_in
  refine ⟨by simp,.inl ⟨D,_,rfl,run_takeDeferred hD,ih hm.2 _ hS2⟩⟩
end
def YCon (P:Program) (B0:Base) (l:Nat) (args:List Value) (C:List Blk) (R:Value → List Blk → Prop):Prop :=
 ∀ (B:Base) (w:World),Ext B0 B → Sat B C w → YieldAt Fence.wide 0 P l args.toArray w fun e w'=>∃ v C',e = .returned v ∧ R v C' ∧ Sat B C' w'
def ConB (P:Program) (B0:Base) (f:FuncId) (args:Array Value) (A:List Blk) (R:Value → List Blk → Prop):Prop :=
 ∀ (B:Base) (w:World),Ext B0 B → Sat B A w → Calls P f args w fun e w'=>∃ v A',e = .returned v ∧ R v A' ∧ Sat B A' w'
theorem Con.toB {P:Program} {B0:Base} {f:FuncId} {args:Array Value} {A:List Blk} {R:Value → List Blk → Prop} (h:Con P f args A R):ConB P B0 f args A R:=fun B w _ hS=>h B w hS
theorem ConB.mono {P:Program} {B0:Base} {f:FuncId} {args:Array Value} {A:List Blk} {R R':Value → List Blk → Prop} (h:ConB P B0 f args A R)
  (hr:∀ v A',R v A' → R' v A'):ConB P B0 f args A R':=fun B w he hs =>
 (h B w he hs).mono fun _ _ ⟨v,A',he,hR,hS⟩=>⟨v,A',he,hr _ _ hR,hS⟩
theorem ConB.frame {P:Program} {B0:Base} {f:FuncId} {args:Array Value} {A F:List Blk} {R:Value → List Blk → Prop} (h:ConB P B0 f args A R)
  {B:Base} {w:World} (hx:Ext B0 B) (hs:Sat B (A ++ F) w):Calls P f args w fun e w'=>∃ v A',e = .returned v ∧ R v A' ∧ Sat B (A' ++ F) w' :=
 (h (B.with F) w (hx.trans (Ext.with hs)) hs.frameIn).mono fun _ _ ⟨v,A',he,hR,hS⟩=>⟨v,A',he,hR,hs.frameOut hS⟩
theorem YCon.frame {P:Program} {B0:Base} {l:Nat} {args:List Value} {C F:List Blk} {R:Value → List Blk → Prop} (h:YCon P B0 l args C R)
  {B:Base} {w:World} (hx:Ext B0 B) (hs:Sat B (C ++ F) w):YieldAt Fence.wide 0 P l args.toArray w fun e w'=>∃ v C',e = .returned v ∧ R v C' ∧ Sat B (C' ++ F) w':=by
 obtain ⟨fn,tmps,assign,body,hr,hR⟩:=h (B.with F) w (hx.trans (Ext.with hs)) hs.frameIn
 exact ⟨fn,tmps,assign,body,hr,hR.mono fun _ _ ⟨v,A',he,hR,hS⟩=>⟨v,A',he,hR,hs.frameOut hS⟩⟩
def IterC {X:Type} (P:Program) (gf:FuncId) (lb:List Value) (enc:X → List Value) (Ok Done:List X → Prop) (AI G:List Blk):Prop :=
 ∀ (B0:Base) (l:Nat) (Y Z:List X → List Blk → Prop),(∀ C,Y [] C → ∃ F,C.Perm (G ++ F)) →
  (∀ pre x,Ok (pre ++ [x]) → ∀ C,Y pre C → YCon P B0 l (enc x) C fun v C'=>(v = .bool true ∧ Y (pre ++ [x]) C') ∨ (v = .bool false ∧ Z (pre ++ [x]) C')) →
  ∀ C,Y [] C → ConB P B0 gf (.func (.yield l) #[] #[] :: lb).toArray (AI ++ C) fun _ A'=>∃ C',((∃ xs,Done xs ∧ Y xs C') ∨ ∃ pre,Z pre C') ∧ A' = AI ++ C'
section
variable {P:Program} {N:Fi} {B:Base} {Q:Exit → Act → World → Prop} {T:Tm} {A:List Blk} {ops:Array Oper} {l:List Oper}
variable {d:Nat} {ty:TypeId} {pos:String} {af:Array Edge} {m:Md} {gd:Option (Nat × Bool)}
theorem Ops.callY {B0:Base} {lp:Nat} {c:Operand} {xs:List Operand} {ats:Array TypeId} {vs:List Value} {A1 F:List Blk} {R:Value → List Blk → Prop} (h:YCon P B0 lp vs A1 R) (hx0:Ext B0 B) (hm:m.eff = true) [hs:Split A A1 F] (hp:Pd P N B ops m T (some d) (CallR R F)) (hg:gst ops T gd = some true)
  (hc:ev T c = some (.func (.yield lp) #[] #[])) (hx:evs T xs = some vs) (hd:Nat.blt d N.n = true) (k:∀ v A',R v A' → Ops P N B Q ops m.tl l ((d,v) :: T) (A' ++ F)) :
  Ops P N B Q ops m (⟨some d,.call { callee:=.value c,args:=xs.toArray,argTypes:=ats },ty,pos,af,gd⟩ :: l) T A :=
 Ops.effV hm hp hg hd (fun a w hF hS=>by
  obtain ⟨fn,tmps,assign,body,hr,hR⟩:=h.frame hx0 (hS.perm hs.perm)
  have:(execOp a.eval ⟨some d,.call { callee:=.value c,args:=xs.toArray,argTypes:=ats },ty,pos,af,gd⟩).run P w = .ok (.round lp fn tmps assign body) w:=by
   simp [execOp,resolve,hF.eval hc,Deferred.ofValue,invoke,hF.evals hx,hr]
  rw [this]
  exact hR.mono fun e w' ⟨v,A',he,hR,hS'⟩=>⟨v,_,he,⟨A',hR,rfl⟩,hS'⟩) fun v X ⟨A',hR,hX⟩=>by rw [hX];exact k v A' hR
theorem Ops.callB {B0:Base} {f:FuncId} {xs:List Operand} {ats:Array TypeId} {vs:List Value} {A1 F:List Blk} {R:Value → List Blk → Prop} (h:ConB P B0 f vs.toArray A1 R) (hx0:Ext B0 B) (hm:m.eff = true) [hs:Split A A1 F] (hp:Pd P N B ops m T (some d) (CallR R F)) (hg:gst ops T gd = some true)
  [hf:FnOk P f] (hx:evs T xs = some vs) (hd:Nat.blt d N.n = true) (k:∀ v A',R v A' → Ops P N B Q ops m.tl l ((d,v) :: T) (A' ++ F)) :
  Ops P N B Q ops m (⟨some d,.call { callee:=.value (.func f),args:=xs.toArray,argTypes:=ats },ty,pos,af,gd⟩ :: l) T A :=
 Ops.effV hm hp hg hd (fun a w hF hS=>by
  have:(execOp a.eval ⟨some d,.call { callee:=.value (.func f),args:=xs.toArray,argTypes:=ats },ty,pos,af,gd⟩).run P w = .ok (.enter f vs.toArray) w:=by
   simp [execOp,resolve,Act.eval,Deferred.ofValue,invoke,run_callFunc hf,hF.evals hx]
  rw [this]
  exact (h.frame hx0 (hS.perm hs.perm)).mono fun e w' ⟨v,A',he,hR,hS'⟩=>⟨v,_,he,⟨A',hR,rfl⟩,hS'⟩) fun v X ⟨A',hR,hX⟩=>by rw [hX];exact k v A' hR
theorem ConB.intro {P:Program} {B0:Base} {f:FuncId} {fn:Func} {c:Code} {K:Nat} {vs:List Value} {A:List Blk} {R:Value → List Blk → Prop} (hf:P.funcs[f]? = some fn) (hb:fn.body = some c) (hN:fn.ntmps = K)
  (hle:Nat.ble vs.length K = true) (h:∀ B:Base,Ext B0 B.plain → Cd P ⟨K,[]⟩ B.plain (post P fn B.plain R) c (slots 0 vs) A):ConB P B0 f vs.toArray A R:=by
 intro B w he hS
 have hle':vs.length ≤ K:=by simpa [Nat.ble_eq] using hle
 refine Calls.mono (callsIn_wide.1 (callsIn_of_wp_marks hf hb trivial (h B he.plain _ w ⟨by simp [hN];omega,rfl,fun i v hi=>?_⟩ ⟨hS.os,hS.tape,hS.output,hS.base,hS.here,hS.apart,hS.nodup⟩) rfl)) fun e w' ⟨v,A',he,hR,hS'⟩=>⟨v,A',he,hR,hS'.os,hS'.tape,hS'.output,hS'.base,hS'.here,hS'.apart,hS'.nodup⟩
 obtain ⟨j,hj,hv⟩:=look_slots _ _ _ _ hi
 simp only [Nat.zero_add] at hj
 subst hj
 have hlt:i < vs.length:=(List.getElem?_eq_some_iff.1 hv).1
 simp only [Array.getElem?_append_left (show i < vs.toArray.size by simpa using hlt)]
 simpa using hv
def RndQ {X:Type} (B:Base) (Y:List X → List Blk → Prop) (Z:Code → List X → List Blk → Prop) (xs:List X):Exit → Act → World → Prop
 | .normal,_,w=>∃ C,Y xs C ∧ Sat B C w
 | .ret,_,w=>∃ C,Z .ret xs C ∧ Sat B C w
 | .exit id,_,w=>∃ C,Z (.exit id) xs C ∧ Sat B C w
 | .goto t,_,w=>∃ C,Z (.goto t) xs C ∧ Sat B C w
 | _,_,_=>False
def AsgQ (N:Fi) (B:Base) (S:Tm → List Blk → Prop):Exit → Act → World → Prop
 | .normal,a,w=>∃ T C,S T C ∧ Fr N T a ∧ Sat B C w
 | _,_,_=>False
theorem asg_end {S:Tm → List Blk → Prop} {A':List Blk} {T':Tm} (hS:S T' A') (hT:∀ a,Fr N T a → Fr N T' a) (hA:∀ w,Sat B A w → Sat B A' w):∀ a w,Fr N T a → Sat B A w → AsgQ N B S .normal a w :=
 fun a w hF hS'=>⟨T',A',hS,hT a hF,hA w hS'⟩
theorem rnd_next {X:Type} {Y:List X → List Blk → Prop} {Z:Code → List X → List Blk → Prop} {xs:List X} {A':List Blk} (hY:Y xs A') (hA:∀ w,Sat B A w → Sat B A' w):∀ a w,Fr N T a → Sat B A w → RndQ B Y Z xs .normal a w :=
 fun a w hF hS=>⟨A',hY,hA w hS⟩
theorem rnd_ret {X:Type} {Y:List X → List Blk → Prop} {Z:Code → List X → List Blk → Prop} {xs:List X} {A':List Blk} (hZ:Z .ret xs A') (hA:∀ w,Sat B A w → Sat B A' w):∀ a w,Fr N T a → Sat B A w → RndQ B Y Z xs .ret a w :=
 fun a w hF hS=>⟨A',hZ,hA w hS⟩
def parS:List Nat → List Value → Tm → Tm
 | p :: ps,v :: vs,T=>parS ps vs ((p,v) :: T)
 | _,_,T=>T
theorem fr_par {n:Nat}:∀ (ps:List Nat) (vs:List Value) (T:Tm) (tm:Array Value),(ps.all fun p=>Nat.blt p n) = true → Fr ⟨n,[]⟩ T ⟨tm,[]⟩ →
  Fr ⟨n,[]⟩ (parS ps vs T) ⟨(ps.zip vs).foldl (fun t (p,v)=>t.setIfInBounds p v) tm,[]⟩
 | [],_,_,_,_,h=>h
 | _ :: _,[],_,_,_,h=>h
 | p :: ps,v :: vs,T,tm,hp,h=>by
  simp only [List.all_cons,Bool.and_eq_true] at hp
  simp only [parS,List.zip_cons_cons,List.foldl_cons]
  exact fr_par ps vs _ _ hp.2 (h.put (d:=p) hp.1 v)
theorem Cd.range {X:Type} {g:Operand} {ps:List Nat} {assign body:Code} {gf:FuncId} {lb:List Value} {enc:X → List Value} {Ok Done:List X → Prop} {AI C0 G:List Blk}
  (hit:IterC P gf lb enc Ok Done AI G) (hro:B.round = none) (hg:ev T g = some (.func (.func gf) #[] lb.toArray)) [hfn:FnOk P gf] (hpsn:(ps.all fun p=>Nat.blt p N.n) = true) (hps:∀ x,(enc x).length = ps.length)
  (Y:List X → List Blk → Prop) (Z:Code → List X → List Blk → Prop) (S:List X → X → Tm → List Blk → Prop) (hA:∀ w,Sat B A w → Sat B (AI ++ C0) w) (h0:Y [] C0) (hG:∀ C,Y [] C → ∃ F,C.Perm (G ++ F))
  (hassign:∀ (B2:Base) pre x C,Ext B B2 → Ok (pre ++ [x]) → Y pre C → Cd P ⟨N.n,[]⟩ B2 (AsgQ ⟨N.n,[]⟩ B2 (S pre x)) assign (parS ps (enc x) T) C)
  (hbody:∀ (lp:Nat) (r:Loop) (B2:Base) pre x T' C,B2.round = some lp → B2.h lp = some (.loop r) → Ext B B2 → Ok (pre ++ [x]) → S pre x T' C → Cd P ⟨N.n,[]⟩ B2 (RndQ B2 Y Z (pre ++ [x])) body T' C)
  (hdone:∀ D xs C,B.h D = none → Done xs → Y xs C → ∀ a w,Fr ⟨N.n,mark D :: N.ds⟩ T a → Sat (B.mark D) (AI ++ C) w → Q .normal a w)
  (hstop:∀ D c pre C,B.h D = none → Z c pre C → Cd P ⟨N.n,mark D :: N.ds⟩ (B.mark D) Q c T (AI ++ C)) :
  Cd P N B Q (.rangeFunc g ps.toArray assign body) T A:=by
 intro a w hF hS
 refine wpIn_rangeFunc ?_
 intro fn hfn'
 rw [show (fen B).round = none from hro]
 obtain ⟨rec,hrec⟩:∃ rec:LoopState → Option Code → Loop,rec = fun st pe=>{ state:=st,pending:=pe,fn,tmps:=a.tmps,params:=ps.toArray,assign,body,defers:=w.heap.size }:=⟨_,rfl⟩
 have hS1:Sat B ((w.heap.size + 1,.loop (rec .ready none)) :: (w.heap.size,.deferred (some [])) :: (AI ++ C0)) ((w.alloc (.deferred (some []))).alloc (.loop (rec .ready none))):=by
  have h1:=((hA w hS).alloc (.deferred (some []))).alloc (.loop (rec .ready none))
  rwa [World.size_alloc] at h1
 have hD:B.h w.heap.size = none:=hS1.apart (w.heap.size,.deferred (some [])) (by simp)
 have hl0:B.h (w.heap.size + 1) = none:=hS1.apart (w.heap.size + 1,.loop (rec .ready none)) (by simp)
 generalize hlp:w.heap.size + 1 = lp at *
 generalize hDD:w.heap.size = D at *
 have hS2:Sat (B.mark D) (AI ++ (lp,.loop (rec .ready none)) :: C0) ((w.alloc (.deferred (some []))).alloc (.loop (rec .ready none))):=by
  have h2:Sat B ((D,.deferred (some [])) :: (lp,.loop (rec .ready none)) :: (AI ++ C0)) _:=hS1.perm (.swap ..)
  exact h2.add.perm List.perm_middle.symm
 generalize hW1:(w.alloc (.deferred (some []))).alloc (.loop (rec .ready none)) = W1 at *
 refine ⟨lp,[mark D],W1,{ target:=.fn (.func gf) lb.toArray,args:=#[.func (.yield lp) #[] #[]] },W1,gf,#[.func (.yield lp) #[] #[]] ++ lb.toArray,W1,?_,?_,fun _ _=>trivial,?_,fun h=>by simp [fen] at h,?_⟩
 ·rw [← hW1,← hlp,← hDD,hrec,← hDD];exact run_enterLoop_outer _ _ _ _ _
 ·simp only [resolve,hF.eval hg]
  simp [go_sem]
 ·simp [invoke,go_sem,run_callFunc hfn]
 have hargs:(#[.func (.yield lp) #[] #[]] ++ lb.toArray:Array Value) = (.func (.yield lp) #[] #[] :: lb).toArray:=by simp
 rw [hargs]
 refine (callsIn_fen B).2 ((hit (B.mark D) lp (fun pre C'=>∃ C,C' = (lp,.loop (rec .ready none)) :: C ∧ Y pre C) (fun pre C'=>∃ c C,C' = (lp,.loop (rec .done (some c))) :: C ∧ Z c pre C) ?_ ?_ _ ⟨C0,rfl,h0⟩ (B.mark D) W1 (Ext.refl _) hS2).mono ?_)
 ·rintro C' ⟨C,rfl,hY⟩
  obtain ⟨F,hp⟩:=hG C hY
  exact ⟨(lp,.loop (rec .ready none)) :: F,(hp.cons _).trans List.perm_middle.symm⟩
 ·
  rintro pre x hok C' ⟨C,rfl,hY⟩ B1 W hx1 hSW
  have hl:=hSW.here (lp,.loop (rec .ready none)) (List.mem_cons_self ..)
  have hlB:B1.h lp = none:=hSW.apart (lp,.loop (rec .ready none)) (List.mem_cons_self ..)
  have hy:=run_yield (P:=P) (args:=(enc x).toArray) hl (by rw [hrec];simpa using hps x)
  rw [hrec] at hy
  refine ⟨fn,_,assign,body,hy,roundIn_of_wpIn trivial ?_⟩
  have hxB:Ext B B1:=(Ext.add hD).trans hx1
  have hxa:=hxB.trans (Ext.add (o:=.loop (rec .ready none)) hlB)
  have asg:=hassign { B1.add lp (.loop (rec .ready none)) with round:=some lp } pre x C ⟨hxa.h,hxa.os,hxa.tape,hxa.output⟩ hok hY
   { tmps:=((ps.toArray.zip (enc x).toArray).foldl (fun t (p,v)=>t.setIfInBounds p v) a.tmps),defers:=[] } W (by
    have:=fr_par ps (enc x) T a.tmps hpsn ⟨hF.size,rfl,hF.get⟩
    simpa using this) ⟨hSW.add.os,hSW.add.tape,hSW.add.output,hSW.add.base,hSW.add.here,hSW.add.apart,hSW.add.nodup⟩
  refine wpIn_mono asg ?_
  rintro e a1 W2 hq
  cases e with
  | normal =>
   obtain ⟨T',C2,hST,hF2,hS3⟩:=hq
   have hS3':Sat (B1.add lp (.loop (rec .ready none))) C2 W2:=⟨hS3.os,hS3.tape,hS3.output,hS3.base,hS3.here,hS3.apart,hS3.nodup⟩
   have hS4:=(hS3'.unadd hlB)
   have hl2:=hS4.here (lp,.loop (rec .ready none)) (List.mem_cons_self ..)
   have hS5:=hS4.putHead (o':=.loop { rec .ready none with state:=.busy })
   refine ⟨_,run_beginRound hl2 (by rw [hrec]),?_⟩
   have hxb:=hxB.trans (Ext.add (o:=.loop { rec .ready none with state:=.busy }) hlB)
   have hb:=hbody lp { rec .ready none with state:=.busy } { B1.add lp (.loop { rec .ready none with state:=.busy }) with round:=some lp } pre x T' C2 rfl (by simp [Base.add]) ⟨hxb.h,hxb.os,hxb.tape,hxb.output⟩ hok hST a1 _ hF2
    ⟨hS5.add.os,hS5.add.tape,hS5.add.output,hS5.add.base,hS5.add.here,hS5.add.apart,hS5.add.nodup⟩
   refine wpIn_mono hb ?_
   have fin:∀ (jump:Option Code) (C3:List Blk) (W3:World),Sat { B1.add lp (.loop { rec .ready none with state:=.busy }) with round:=some lp } C3 W3 →
     (Instr.endRound lp jump).run P W3 = .ok (.bool jump.isNone) (W3.putObj lp (.loop (rec (if jump.isNone then .ready else .done) jump))) ∧
     Sat B1 ((lp,.loop (rec (if jump.isNone then .ready else .done) jump)) :: C3) (W3.putObj lp (.loop (rec (if jump.isNone then .ready else .done) jump))):=fun jump C3 W3 h3=>by
    have h3':Sat (B1.add lp (.loop { rec .ready none with state:=.busy })) C3 W3:=⟨h3.os,h3.tape,h3.output,h3.base,h3.here,h3.apart,h3.nodup⟩
    have h4:=h3'.unadd hlB
    have hl3:=h4.here _ (List.mem_cons_self ..)
    have:=run_endRound (P:=P) jump hl3
    rw [hrec] at this ⊢
    refine ⟨this,?_⟩
    have h5:=h4.putHead (o':=.loop (rec (if jump.isNone then .ready else .done) jump))
    rw [hrec] at h5
    exact h5
   rintro e a3 W3 hp
   cases e with
   | normal =>
    obtain ⟨C3,hY3,h3⟩:=hp
    obtain ⟨hr,hS6⟩:=fin none C3 W3 h3
    exact ⟨_,_,hr,_,_,rfl,.inl ⟨rfl,C3,rfl,hY3⟩,hS6⟩
   | ret =>
    obtain ⟨C3,hY3,h3⟩:=hp
    obtain ⟨hr,hS6⟩:=fin (some .ret) C3 W3 h3
    exact ⟨_,_,hr,_,_,rfl,.inr ⟨rfl,_,C3,rfl,hY3⟩,hS6⟩
   | exit id =>
    obtain ⟨C3,hY3,h3⟩:=hp
    obtain ⟨hr,hS6⟩:=fin (some (.exit id)) C3 W3 h3
    exact ⟨_,_,hr,_,_,rfl,.inr ⟨rfl,_,C3,rfl,hY3⟩,hS6⟩
   | goto t =>
    obtain ⟨C3,hY3,h3⟩:=hp
    obtain ⟨hr,hS6⟩:=fin (some (.goto t)) C3 W3 h3
    exact ⟨_,_,hr,_,_,rfl,.inr ⟨rfl,_,C3,rfl,hY3⟩,hS6⟩
   | panic ch=>exact hp.elim
   | outgrown=>exact hp.elim
  | ret=>exact hq.elim
  | exit id=>exact hq.elim
  | goto t=>exact hq.elim
  | panic ch=>exact hq.elim
  | outgrown=>exact hq.elim
 ·
  rintro e W2 ⟨v,A',rfl,⟨C',hC',rfl⟩,hS7⟩
  have hF9:Fr ⟨N.n,mark D :: N.ds⟩ T { a with defers:=mark D :: a.defers }:=⟨hF.size,by simp [hF.dfr],hF.get⟩
  have fin2:∀ (st:LoopState) (pe:Option Code) (C:List Blk),st ≠ .busy → Sat (B.mark D) (AI ++ (lp,.loop (rec st pe)) :: C) W2 →
    (Instr.endLoop lp).run P W2 = .ok pe (W2.putObj lp (.loop { rec st pe with state:=.exhausted })) ∧ Sat (B.mark D) (AI ++ C) (W2.putObj lp (.loop { rec st pe with state:=.exhausted })):=fun st pe C hst h8=>by
   have h9:Sat (B.mark D) ((lp,.loop (rec st pe)) :: (AI ++ C)) W2:=h8.perm List.perm_middle
   have hl9:=h9.here _ (List.mem_cons_self ..)
   have:=run_endLoop (P:=P) hl9 (by rw [hrec];exact hst)
   refine ⟨?_,(h9.putHead (o':=.loop { rec st pe with state:=.exhausted })).tail⟩
   rw [hrec] at this ⊢
   exact this
  rcases hC' with ⟨xs,hdn,C,rfl,hY⟩|⟨pre,c,C,rfl,hZ⟩
  ·obtain ⟨hr,h9⟩:=fin2 .ready none C (by simp) hS7
   exact ⟨none,_,hr,hdone D xs C hD hdn hY _ _ hF9 h9⟩
  ·obtain ⟨hr,h9⟩:=fin2 .done (some c) C (by simp) hS7
   exact ⟨some c,_,hr,hstop D c pre C hD hZ _ _ hF9 h9⟩
end
end Go.Sep
namespace Go.Proofs.YtkoelgkghijgiaaGreat
open Go Go.Sep Go.Proofs
@[reducible] def qz (i:Nat):Nat × Nat × List Nat:=(i,0,[])
@[reducible] def qy (i:Nat):Nat × Nat × List Nat:=(i,1,[])
section
variable {P:Program} {N:Fi} {B:Base} {Q:Exit → Act → World → Prop} {T:Tm} {A:List Blk} {l:List Oper} {d:Nat} {ty:TypeId} {pos:String} {af:Array Edge} {m:Md} {gd:Option (Nat × Bool)}
theorem zdr {id:Nat} (info:List DI) {l':List Oper} (h:Ops P N B Q l.toArray (some (info,info)) l' T A) (hmix:P.follows .mixedOrders = true:=by kernel_rfl) (hc:canB l.toArray info = true:=by kernel_rfl) (hl:picked l info = l':=by simp only [picked,nth,qz,qy];exact rfl):Cd P N B Q (.region id l.toArray true) T A:=Cd.draw info hmix hc hl h
theorem zqA {ops:Array Oper} {f:FuncId} {xs:List Operand} {ats:Array TypeId} {vs:List Value} {A1 F:List Blk} {R:Value → List Blk → Prop} (h:Con P f vs.toArray A1 R) [hs:Split A A1 F] [hf:FnOk P f] (k:∀ v A',R v A' → Ops P N B Q ops m.tl l ((d,v) :: T) (A' ++ F)) (hx:evs T xs = some vs:=by exact rfl) (hm:m.eff = true:=by exact rfl) (hp:Pd P N B ops m T (some d) (CallR R F):=by exact noPd rfl) (hg:gst ops T gd = some true:=by exact rfl) (hd:Nat.blt d N.n = true:=by exact rfl) :
    Ops P N B Q ops m (⟨some d,.call { callee:=.value (.func f),args:=xs.toArray,argTypes:=ats },ty,pos,af,gd⟩ :: l) T A:=Ops.call h hm hp hg hx hd k
theorem zqB {ops:Array Oper} {B0:Base} {f:FuncId} {xs:List Operand} {ats:Array TypeId} {vs:List Value} {A1 F:List Blk} {R:Value → List Blk → Prop} (h:ConB P B0 f vs.toArray A1 R) (hx0:Ext B0 B) [hs:Split A A1 F] [hf:FnOk P f] (k:∀ v A',R v A' → Ops P N B Q ops m.tl l ((d,v) :: T) (A' ++ F)) (hx:evs T xs = some vs:=by exact rfl) (hm:m.eff = true:=by exact rfl) (hp:Pd P N B ops m T (some d) (CallR R F):=by exact noPd rfl) (hg:gst ops T gd = some true:=by exact rfl) (hd:Nat.blt d N.n = true:=by exact rfl) :
    Ops P N B Q ops m (⟨some d,.call { callee:=.value (.func f),args:=xs.toArray,argTypes:=ats },ty,pos,af,gd⟩ :: l) T A:=Ops.callB h hx0 hm hp hg hx hd k
end
theorem zqI {P:Program} {f:FuncId} {fn:Func} {c:Code} {K:Nat} {vs:List Value} {A:List Blk} {R:Value → List Blk → Prop} (hf:P.funcs[f]? = some fn) (hN:fn.ntmps = K) (h:∀ B:Base,Cd P ⟨K,[]⟩ B.plain (post P fn B.plain R) c (slots 0 vs) A) (hb:fn.body = some c:=by exact rfl) (hle:Nat.ble vs.length K = true:=by exact rfl):Con P f vs.toArray A R:=Con.intro hf hb hN hle h
theorem zqJ {P:Program} {B0:Base} {f:FuncId} {fn:Func} {c:Code} {K:Nat} {vs:List Value} {A:List Blk} {R:Value → List Blk → Prop} (hf:P.funcs[f]? = some fn) (hN:fn.ntmps = K) (h:∀ B:Base,Ext B0 B.plain → Cd P ⟨K,[]⟩ B.plain (post P fn B.plain R) c (slots 0 vs) A) (hb:fn.body = some c:=by exact rfl) (hle:Nat.ble vs.length K = true:=by exact rfl):ConB P B0 f vs.toArray A R:=ConB.intro hf hb hN hle h
end Go.Proofs.YtkoelgkghijgiaaGreat
namespace Go.Proofs.YtkoelgkghijgiaaGreat
open Go Go.Sep Go.Proofs Go.Proofs.Tryz
theorem fk {f:FuncId} {fn:Func} (h:prog.funcs[f]? = some fn) (h1:(fn.name == "runtime.NumGoroutine") = false:=by kernel_rfl) (h2:fn.body.isNone = false:=by kernel_rfl):FnOk prog f:=⟨⟨fn,h,h1,h2⟩⟩
theorem fo {s:TypeId} {f off n:Nat} {fields:Array Field} {fd:Field} (hu:prog.underlying s = some (.struct fields)) (h1:fields[f]? = some fd:=by exact rfl) (h2:(prog.info? fd.type).map (·.size) = some n:=by kernel_rfl) (h3:n ≠ 0:=by decide) (h4:fd.offset = off:=by exact rfl):FOff prog s f off n:=⟨⟨_,_,hu,h1,h2,h3,h4⟩⟩
instance :Ty prog 3 false 1 8 [.int .i64 0]:=⟨⟨_,underlying3,rfl⟩,by kernel_rfl⟩
instance :TyD prog 3 (.int .i64):=⟨underlying3⟩
instance :Ty prog 4 false 1 1 [.bool false]:=⟨⟨_,underlying4,rfl⟩,by kernel_rfl⟩
instance :Ty prog 5 false 1 1 [.int .u8 0]:=⟨⟨_,underlying5,rfl⟩,by kernel_rfl⟩
instance :TyD prog 5 (.int .u8):=⟨underlying5⟩
instance :Ty prog 9 false 1 16 [.string ⟨#[]⟩]:=⟨⟨_,underlying9,rfl⟩,by kernel_rfl⟩
instance :TyD prog 9 .string:=⟨underlying9⟩
instance :Ty prog 23 true 9 72 [.int .i64 0,.int .i64 0,.int .i64 0,.int .i64 0,.int .i64 0,.int .i64 0,.int .i64 0,.int .i64 0,.int .i64 0]:=⟨⟨_,underlying23,rfl⟩,by kernel_rfl⟩
instance :Ty prog 25 false 1 8 [.pointer none]:=⟨⟨_,underlying25,rfl⟩,by kernel_rfl⟩
instance :TyD prog 25 (.pointer 136):=⟨underlying25⟩
instance :Ty prog 26 false 1 8 [.pointer none]:=⟨⟨_,underlying26,rfl⟩,by kernel_rfl⟩
instance :TyD prog 26 (.pointer 121):=⟨underlying26⟩
instance :Ty prog 29 false 1 8 [.int .i64 0]:=⟨⟨_,underlying29,rfl⟩,by kernel_rfl⟩
instance :Ty prog 33 true 2 16 [.int .i64 0,.int .i64 0]:=⟨⟨_,underlying33,rfl⟩,by kernel_rfl⟩
instance :Ty prog 34 false 1 8 [.int .u64 0]:=⟨⟨_,underlying34,rfl⟩,by kernel_rfl⟩
instance :TyD prog 34 (.int .u64):=⟨underlying34⟩
instance :Ty prog 36 true 2 16 [.int .i64 0,.int .u64 0]:=⟨⟨_,underlying36,rfl⟩,by kernel_rfl⟩
instance :Ty prog 38 true 11 104 [.int .i64 0,.int .i64 0,.int .i64 0,.int .i64 0,.int .i64 0,.int .i64 0,.int .i64 0,.int .i64 0,.int .u64 0,.string ⟨#[]⟩,.string ⟨#[]⟩]:=⟨⟨_,underlying38,rfl⟩,by kernel_rfl⟩
instance :Ty prog 44 false 1 24 [.slice none 0 0]:=⟨⟨_,underlying44,rfl⟩,by kernel_rfl⟩
instance :TyD prog 44 (.slice 101):=⟨underlying44⟩
instance :Ty prog 47 false 1 24 [.slice none 0 0]:=⟨⟨_,underlying47,rfl⟩,by kernel_rfl⟩
instance :TyD prog 47 (.slice 64):=⟨underlying47⟩
instance :Ty prog 49 true 2 32 [.int .i64 0,.slice none 0 0]:=⟨⟨_,underlying49,rfl⟩,by kernel_rfl⟩
instance :Ty prog 51 false 1 24 [.slice none 0 0]:=⟨⟨_,underlying51,rfl⟩,by kernel_rfl⟩
instance :TyD prog 51 (.slice 76):=⟨underlying51⟩
instance :Ty prog 53 false 1 24 [.slice none 0 0]:=⟨⟨_,underlying53,rfl⟩,by kernel_rfl⟩
instance :TyD prog 53 (.slice 71):=⟨underlying53⟩
instance :Ty prog 60 false 1 24 [.slice none 0 0]:=⟨⟨_,underlying60,rfl⟩,by kernel_rfl⟩
instance :TyD prog 60 (.slice 9):=⟨underlying60⟩
instance :Ty prog 62 true 8 64 [.int .i64 0,.int .i64 0,.int .i64 0,.int .i64 0,.int .i64 0,.int .i64 0,.int .i64 0,.int .u64 0]:=⟨⟨_,underlying62,rfl⟩,by kernel_rfl⟩
instance :Ty prog 64 true 10 104 [.int .i64 0,.int .i64 0,.int .i64 0,.int .i64 0,.int .i64 0,.int .i64 0,.int .i64 0,.int .u64 0,.string ⟨#[]⟩,.slice none 0 0]:=⟨⟨_,underlying64,rfl⟩,by kernel_rfl⟩
instance :Ty prog 71 true 5 40 [.int .i64 0,.int .i64 0,.int .i64 0,.int .i64 0,.int .i64 0]:=⟨⟨_,underlying71,rfl⟩,by kernel_rfl⟩
instance :Ty prog 76 true 5 48 [.int .i64 0,.int .i64 0,.int .i64 0,.int .i64 0,.string ⟨#[]⟩]:=⟨⟨_,underlying76,rfl⟩,by kernel_rfl⟩
instance :Ty prog 82 true 6 48 [.int .i64 0,.int .i64 0,.int .i64 0,.int .i64 0,.int .i64 0,.int .u64 0]:=⟨⟨_,underlying82,rfl⟩,by kernel_rfl⟩
instance :Ty prog 83 false 1 24 [.slice none 0 0]:=⟨⟨_,underlying83,rfl⟩,by kernel_rfl⟩
instance :TyD prog 83 (.slice 82):=⟨underlying83⟩
instance :Ty prog 85 true 2 32 [.int .i64 0,.slice none 0 0]:=⟨⟨_,underlying85,rfl⟩,by kernel_rfl⟩
instance :TyD prog 97 (.func #[] #[9] false):=⟨underlying97⟩
instance :Ty prog 98 false 1 24 [.slice none 0 0]:=⟨⟨_,underlying98,rfl⟩,by kernel_rfl⟩
instance :TyD prog 98 (.slice 103):=⟨underlying98⟩
instance :Ty prog 101 true 6 56 [.int .i64 0,.int .i64 0,.int .i64 0,.int .i64 0,.int .i64 0,.string ⟨#[]⟩]:=⟨⟨_,underlying101,rfl⟩,by kernel_rfl⟩
instance :Ty prog 103 true 10 104 [.int .i64 0,.int .i64 0,.int .i64 0,.int .i64 0,.int .i64 0,.int .i64 0,.int .i64 0,.int .u64 0,.string ⟨#[]⟩,.slice none 0 0]:=⟨⟨_,underlying103,rfl⟩,by kernel_rfl⟩
instance :Ty prog 110 true 14 128 [.pointer none,.int .i64 0,.int .i64 0,.int .i64 0,.int .i64 0,.int .i64 0,.int .i64 0,.int .i64 0,.int .i64 0,.int .i64 0,.int .i64 0,.int .u64 0,.string ⟨#[]⟩,.string ⟨#[]⟩]:=⟨⟨_,underlying110,rfl⟩,by kernel_rfl⟩
instance :Ty prog 112 false 1 8 [.pointer none]:=⟨⟨_,underlying112,rfl⟩,by kernel_rfl⟩
instance :Ty prog 113 false 1 8 [.pointer none]:=⟨⟨_,underlying113,rfl⟩,by kernel_rfl⟩
instance :Ty prog 114 false 1 8 [.pointer none]:=⟨⟨_,underlying114,rfl⟩,by kernel_rfl⟩
instance :Ty prog 115 false 1 8 [.map none]:=⟨⟨_,underlying115,rfl⟩,by kernel_rfl⟩
instance :TyD prog 115 (.map 3 244):=⟨underlying115⟩
instance :Ty prog 117 true 4 32 [.pointer none,.pointer none,.pointer none,.map none]:=⟨⟨_,underlying117,rfl⟩,by kernel_rfl⟩
instance :Ty prog 118 false 1 8 [.pointer none]:=⟨⟨_,underlying118,rfl⟩,by kernel_rfl⟩
instance :Ty prog 119 false 1 8 [.pointer none]:=⟨⟨_,underlying119,rfl⟩,by kernel_rfl⟩
instance :TyD prog 119 (.pointer 176):=⟨underlying119⟩
instance :Ty prog 121 true 18 160 [.pointer none,.pointer none,.pointer none,.map none,.int .i64 0,.int .i64 0,.int .i64 0,.int .i64 0,.int .i64 0,.int .i64 0,.int .i64 0,.int .i64 0,.int .i64 0,.pointer none,.pointer none,.pointer none,.slice none 0 0,.bool false]:=⟨⟨_,underlying121,rfl⟩,by kernel_rfl⟩
instance :Ty prog 133 false 1 24 [.slice none 0 0]:=⟨⟨_,underlying133,rfl⟩,by kernel_rfl⟩
instance :TyD prog 133 (.slice 139):=⟨underlying133⟩
instance :Ty prog 134 false 1 24 [.slice none 0 0]:=⟨⟨_,underlying134,rfl⟩,by kernel_rfl⟩
instance :TyD prog 134 (.slice 275):=⟨underlying134⟩
instance :Ty prog 136 true 5 72 [.slice none 0 0,.slice none 0 0,.int .i64 0,.int .i64 0,.bool false]:=⟨⟨_,underlying136,rfl⟩,by kernel_rfl⟩
instance :Ty prog 137 false 1 24 [.slice none 0 0]:=⟨⟨_,underlying137,rfl⟩,by kernel_rfl⟩
instance :TyD prog 137 (.slice 5):=⟨underlying137⟩
instance :Ty prog 139 true 128 128 [.int .u8 0,.int .u8 0,.int .u8 0,.int .u8 0,.int .u8 0,.int .u8 0,.int .u8 0,.int .u8 0,.int .u8 0,.int .u8 0,.int .u8 0,.int .u8 0,.int .u8 0,.int .u8 0,.int .u8 0,.int .u8 0,.int .u8 0,.int .u8 0,.int .u8 0,.int .u8 0,.int .u8 0,.int .u8 0,.int .u8 0,.int .u8 0,.int .u8 0,.int .u8 0,.int .u8 0,.int .u8 0,.int .u8 0,.int .u8 0,.int .u8 0,.int .u8 0,.int .u8 0,.int .u8 0,.int .u8 0,.int .u8 0,.int .u8 0,.int .u8 0,.int .u8 0,.int .u8 0,.int .u8 0,.int .u8 0,.int .u8 0,.int .u8 0,.int .u8 0,.int .u8 0,.int .u8 0,.int .u8 0,.int .u8 0,.int .u8 0,.int .u8 0,.int .u8 0,.int .u8 0,.int .u8 0,.int .u8 0,.int .u8 0,.int .u8 0,.int .u8 0,.int .u8 0,.int .u8 0,.int .u8 0,.int .u8 0,.int .u8 0,.int .u8 0,.int .u8 0,.int .u8 0,.int .u8 0,.int .u8 0,.int .u8 0,.int .u8 0,.int .u8 0,.int .u8 0,.int .u8 0,.int .u8 0,.int .u8 0,.int .u8 0,.int .u8 0,.int .u8 0,.int .u8 0,.int .u8 0,.int .u8 0,.int .u8 0,.int .u8 0,.int .u8 0,.int .u8 0,.int .u8 0,.int .u8 0,.int .u8 0,.int .u8 0,.int .u8 0,.int .u8 0,.int .u8 0,.int .u8 0,.int .u8 0,.int .u8 0,.int .u8 0,.int .u8 0,.int .u8 0,.int .u8 0,.int .u8 0,.int .u8 0,.int .u8 0,.int .u8 0,.int .u8 0,.int .u8 0,.int .u8 0,.int .u8 0,.int .u8 0,.int .u8 0,.int .u8 0,.int .u8 0,.int .u8 0,.int .u8 0,.int .u8 0,.int .u8 0,.int .u8 0,.int .u8 0,.int .u8 0,.int .u8 0,.int .u8 0,.int .u8 0,.int .u8 0,.int .u8 0,.int .u8 0,.int .u8 0,.int .u8 0,.int .u8 0,.int .u8 0]:=⟨⟨_,underlying139,rfl⟩,by kernel_rfl⟩
instance :TyD prog 139 (.array 128 5):=⟨underlying139⟩
instance :Ty prog 148 true 4 32 [.string ⟨#[]⟩,.int .i64 0,.bool false,.bool false]:=⟨⟨_,underlying148,rfl⟩,by kernel_rfl⟩
instance :TyD prog 149 (.slice 148):=⟨underlying149⟩
instance :Ty prog 151 false 1 24 [.slice none 0 0]:=⟨⟨_,underlying151,rfl⟩,by kernel_rfl⟩
instance :TyD prog 151 (.slice 3):=⟨underlying151⟩
instance :Ty prog 161 false 1 8 [.pointer none]:=⟨⟨_,underlying161,rfl⟩,by kernel_rfl⟩
instance :TyD prog 163 (.slice 169):=⟨underlying163⟩
instance :Ty prog 165 false 1 8 [.nilFunc]:=⟨⟨_,underlying165,rfl⟩,by kernel_rfl⟩
instance :Ty prog 166 false 1 8 [.nilFunc]:=⟨⟨_,underlying166,rfl⟩,by kernel_rfl⟩
instance :Ty prog 167 false 1 8 [.nilFunc]:=⟨⟨_,underlying167,rfl⟩,by kernel_rfl⟩
instance :Ty prog 169 true 3 24 [.nilFunc,.nilFunc,.nilFunc]:=⟨⟨_,underlying169,rfl⟩,by kernel_rfl⟩
instance :Ty prog 171 false 1 8 [.pointer none]:=⟨⟨_,underlying171,rfl⟩,by kernel_rfl⟩
instance :Ty prog 173 true 1 8 [.pointer none]:=⟨⟨_,underlying173,rfl⟩,by kernel_rfl⟩
instance :Ty prog 174 false 1 24 [.slice none 0 0]:=⟨⟨_,underlying174,rfl⟩,by kernel_rfl⟩
instance :TyD prog 174 (.slice 60):=⟨underlying174⟩
instance :Ty prog 176 true 4 64 [.pointer none,.int .i64 0,.slice none 0 0,.slice none 0 0]:=⟨⟨_,underlying176,rfl⟩,by kernel_rfl⟩
instance :Ty prog 177 false 1 24 [.slice none 0 0]:=⟨⟨_,underlying177,rfl⟩,by kernel_rfl⟩
instance :TyD prog 177 (.slice 62):=⟨underlying177⟩
instance :Ty prog 184 true 1 24 [.slice none 0 0]:=⟨⟨_,underlying184,rfl⟩,by kernel_rfl⟩
instance :Ty prog 188 false 1 8 [.map none]:=⟨⟨_,underlying188,rfl⟩,by kernel_rfl⟩
instance :TyD prog 188 (.map 3 71):=⟨underlying188⟩
instance :Ty prog 191 true 2 16 [.int .i64 0,.map none]:=⟨⟨_,underlying191,rfl⟩,by kernel_rfl⟩
instance :TyD prog 200 (.int .u64):=⟨underlying200⟩
instance :Ty prog 202 true 8 8 [.int .u8 0,.int .u8 0,.int .u8 0,.int .u8 0,.int .u8 0,.int .u8 0,.int .u8 0,.int .u8 0]:=⟨⟨_,underlying202,rfl⟩,by kernel_rfl⟩
instance :TyD prog 202 (.array 8 5):=⟨underlying202⟩
instance :TyD prog 204 (.slice 205):=⟨underlying204⟩
instance :Ty prog 205 false 1 8 [.pointer none]:=⟨⟨_,underlying205,rfl⟩,by kernel_rfl⟩
instance :Ty prog 212 true 4 32 [.int .i64 0,.int .i64 0,.int .i64 0,.int .i64 0]:=⟨⟨_,underlying212,rfl⟩,by kernel_rfl⟩
instance :Ty prog 222 true 3 32 [.string ⟨#[]⟩,.int .i64 0,.int .i64 0]:=⟨⟨_,underlying222,rfl⟩,by kernel_rfl⟩
instance :Ty prog 226 false 1 8 [.nilFunc]:=⟨⟨_,underlying226,rfl⟩,by kernel_rfl⟩
instance :Ty prog 230 false 1 8 [.nilFunc]:=⟨⟨_,underlying230,rfl⟩,by kernel_rfl⟩
instance :Ty prog 240 false 1 8 [.nilFunc]:=⟨⟨_,underlying240,rfl⟩,by kernel_rfl⟩
instance :Ty prog 250 true 2 32 [.int .i64 0,.slice none 0 0]:=⟨⟨_,underlying250,rfl⟩,by kernel_rfl⟩
instance :Ty prog 261 true 7 56 [.pointer none,.int .i64 0,.int .i64 0,.int .i64 0,.int .i64 0,.int .i64 0,.bool false]:=⟨⟨_,underlying261,rfl⟩,by kernel_rfl⟩
instance :Ty prog 263 false 1 8 [.pointer none]:=⟨⟨_,underlying263,rfl⟩,by kernel_rfl⟩
instance :TyD prog 263 (.pointer 265):=⟨underlying263⟩
instance :Ty prog 265 true 2 32 [.pointer none,.slice none 0 0]:=⟨⟨_,underlying265,rfl⟩,by kernel_rfl⟩
instance :Ty prog 271 false 1 8 [.nilFunc]:=⟨⟨_,underlying271,rfl⟩,by kernel_rfl⟩
instance :Ty prog 275 true 2 24 [.int .i64 0,.string ⟨#[]⟩]:=⟨⟨_,underlying275,rfl⟩,by kernel_rfl⟩
instance :Ty prog 293 true 1 8 [.int .i64 0]:=⟨⟨_,underlying293,rfl⟩,by kernel_rfl⟩
instance :Ty prog 295 true 117 936 [.nilFunc,.nilFunc,.nilFunc,.nilFunc,.nilFunc,.nilFunc,.nilFunc,.nilFunc,.nilFunc,.nilFunc,.nilFunc,.nilFunc,.nilFunc,.nilFunc,.nilFunc,.nilFunc,.nilFunc,.nilFunc,.nilFunc,.nilFunc,.nilFunc,.nilFunc,.nilFunc,.nilFunc,.nilFunc,.nilFunc,.nilFunc,.nilFunc,.nilFunc,.nilFunc,.nilFunc,.nilFunc,.nilFunc,.nilFunc,.nilFunc,.nilFunc,.nilFunc,.nilFunc,.nilFunc,.nilFunc,.nilFunc,.nilFunc,.nilFunc,.nilFunc,.nilFunc,.nilFunc,.nilFunc,.nilFunc,.nilFunc,.nilFunc,.nilFunc,.nilFunc,.nilFunc,.nilFunc,.nilFunc,.nilFunc,.nilFunc,.nilFunc,.nilFunc,.nilFunc,.nilFunc,.nilFunc,.nilFunc,.nilFunc,.nilFunc,.nilFunc,.nilFunc,.nilFunc,.nilFunc,.nilFunc,.nilFunc,.nilFunc,.nilFunc,.nilFunc,.nilFunc,.nilFunc,.nilFunc,.nilFunc,.nilFunc,.nilFunc,.nilFunc,.nilFunc,.nilFunc,.nilFunc,.nilFunc,.nilFunc,.nilFunc,.nilFunc,.nilFunc,.nilFunc,.nilFunc,.nilFunc,.nilFunc,.nilFunc,.nilFunc,.nilFunc,.nilFunc,.nilFunc,.nilFunc,.nilFunc,.nilFunc,.nilFunc,.nilFunc,.nilFunc,.nilFunc,.nilFunc,.nilFunc,.nilFunc,.nilFunc,.nilFunc,.nilFunc,.nilFunc,.nilFunc,.nilFunc,.nilFunc,.nilFunc,.nilFunc]:=⟨⟨_,underlying295,rfl⟩,by kernel_rfl⟩
instance :TyD prog 295 (.array 117 240):=⟨underlying295⟩
instance :Ty prog 296 true 17 272 [.string ⟨#[]⟩,.string ⟨#[]⟩,.string ⟨#[]⟩,.string ⟨#[]⟩,.string ⟨#[]⟩,.string ⟨#[]⟩,.string ⟨#[]⟩,.string ⟨#[]⟩,.string ⟨#[]⟩,.string ⟨#[]⟩,.string ⟨#[]⟩,.string ⟨#[]⟩,.string ⟨#[]⟩,.string ⟨#[]⟩,.string ⟨#[]⟩,.string ⟨#[]⟩,.string ⟨#[]⟩]:=⟨⟨_,underlying296,rfl⟩,by kernel_rfl⟩
instance :TyD prog 296 (.array 17 9):=⟨underlying296⟩
instance :Ty prog 303 false 1 8 [.map none]:=⟨⟨_,underlying303,rfl⟩,by kernel_rfl⟩
instance :TyD prog 303 (.map 3 9):=⟨underlying303⟩
instance :Ty prog 305 true 3 24 [.int .i64 0,.int .i64 0,.map none]:=⟨⟨_,underlying305,rfl⟩,by kernel_rfl⟩
instance :TyD prog 319 (.pointer 5):=⟨underlying319⟩
instance :Ty prog 323 true 7 56 [.nilFunc,.nilFunc,.nilFunc,.nilFunc,.nilFunc,.nilFunc,.nilFunc]:=⟨⟨_,underlying323,rfl⟩,by kernel_rfl⟩
instance :TyD prog 323 (.array 7 271):=⟨underlying323⟩
instance :Ty prog 339 true 3 24 [.int .i64 0,.int .i64 0,.int .i64 0]:=⟨⟨_,underlying339,rfl⟩,by kernel_rfl⟩
instance :TyD prog 375 (.pointer 62):=⟨underlying375⟩
instance :FOff prog 23 0 0 1:=fo underlying23
instance :FOff prog 23 1 1 1:=fo underlying23
instance :FOff prog 23 2 2 1:=fo underlying23
instance :FOff prog 23 3 3 1:=fo underlying23
instance :FOff prog 23 4 4 1:=fo underlying23
instance :FOff prog 23 5 5 1:=fo underlying23
instance :FOff prog 23 6 6 1:=fo underlying23
instance :FOff prog 23 7 7 1:=fo underlying23
instance :FOff prog 23 8 8 1:=fo underlying23
instance :FOff prog 33 0 0 1:=fo underlying33
instance :FOff prog 33 1 1 1:=fo underlying33
instance :FOff prog 36 0 0 1:=fo underlying36
instance :FOff prog 36 1 1 1:=fo underlying36
instance :FOff prog 38 0 0 1:=fo underlying38
instance :FOff prog 38 1 1 1:=fo underlying38
instance :FOff prog 38 2 2 1:=fo underlying38
instance :FOff prog 38 3 3 1:=fo underlying38
instance :FOff prog 38 4 4 1:=fo underlying38
instance :FOff prog 38 5 5 1:=fo underlying38
instance :FOff prog 38 6 6 1:=fo underlying38
instance :FOff prog 38 7 7 2:=fo underlying38
instance :FOff prog 38 8 9 1:=fo underlying38
instance :FOff prog 38 9 10 1:=fo underlying38
instance :FOff prog 49 1 1 1:=fo underlying49
instance :FOff prog 62 0 0 1:=fo underlying62
instance :FOff prog 62 1 1 1:=fo underlying62
instance :FOff prog 62 2 2 1:=fo underlying62
instance :FOff prog 62 3 3 1:=fo underlying62
instance :FOff prog 62 4 4 2:=fo underlying62
instance :FOff prog 62 5 6 2:=fo underlying62
instance :FOff prog 64 0 0 8:=fo underlying64
instance :FOff prog 64 1 8 1:=fo underlying64
instance :FOff prog 64 2 9 1:=fo underlying64
instance :FOff prog 71 0 0 1:=fo underlying71
instance :FOff prog 71 1 1 1:=fo underlying71
instance :FOff prog 71 3 4 1:=fo underlying71
instance :FOff prog 76 0 0 1:=fo underlying76
instance :FOff prog 76 1 1 1:=fo underlying76
instance :FOff prog 76 2 2 1:=fo underlying76
instance :FOff prog 76 3 3 1:=fo underlying76
instance :FOff prog 76 4 4 1:=fo underlying76
instance :FOff prog 82 0 0 1:=fo underlying82
instance :FOff prog 82 1 1 1:=fo underlying82
instance :FOff prog 82 2 2 1:=fo underlying82
instance :FOff prog 82 3 3 1:=fo underlying82
instance :FOff prog 82 4 4 1:=fo underlying82
instance :FOff prog 82 5 5 1:=fo underlying82
instance :FOff prog 85 0 0 1:=fo underlying85
instance :FOff prog 85 1 1 1:=fo underlying85
instance :FOff prog 101 0 0 1:=fo underlying101
instance :FOff prog 101 1 1 2:=fo underlying101
instance :FOff prog 101 2 3 2:=fo underlying101
instance :FOff prog 101 3 5 1:=fo underlying101
instance :FOff prog 103 0 0 1:=fo underlying103
instance :FOff prog 103 1 1 1:=fo underlying103
instance :FOff prog 103 2 2 1:=fo underlying103
instance :FOff prog 103 3 3 1:=fo underlying103
instance :FOff prog 103 4 4 1:=fo underlying103
instance :FOff prog 103 5 5 1:=fo underlying103
instance :FOff prog 103 6 6 2:=fo underlying103
instance :FOff prog 103 7 8 1:=fo underlying103
instance :FOff prog 103 8 9 1:=fo underlying103
instance :FOff prog 110 0 0 1:=fo underlying110
instance :FOff prog 110 1 1 2:=fo underlying110
instance :FOff prog 110 2 3 11:=fo underlying110
instance :FOff prog 117 0 0 1:=fo underlying117
instance :FOff prog 117 1 1 1:=fo underlying117
instance :FOff prog 117 2 2 1:=fo underlying117
instance :FOff prog 117 3 3 1:=fo underlying117
instance :FOff prog 121 0 0 4:=fo underlying121
instance :FOff prog 121 1 4 9:=fo underlying121
instance :FOff prog 121 2 13 1:=fo underlying121
instance :FOff prog 121 3 14 1:=fo underlying121
instance :FOff prog 121 4 15 1:=fo underlying121
instance :FOff prog 121 5 16 1:=fo underlying121
instance :FOff prog 121 6 17 1:=fo underlying121
instance :FOff prog 136 0 0 1:=fo underlying136
instance :FOff prog 136 1 1 1:=fo underlying136
instance :FOff prog 136 2 2 1:=fo underlying136
instance :FOff prog 136 3 3 1:=fo underlying136
instance :FOff prog 136 4 4 1:=fo underlying136
instance :FOff prog 148 1 1 1:=fo underlying148
instance :FOff prog 148 2 2 1:=fo underlying148
instance :FOff prog 148 3 3 1:=fo underlying148
instance :FOff prog 169 0 0 1:=fo underlying169
instance :FOff prog 169 1 1 1:=fo underlying169
instance :FOff prog 169 2 2 1:=fo underlying169
instance :FOff prog 173 0 0 1:=fo underlying173
instance :FOff prog 176 0 0 1:=fo underlying176
instance :FOff prog 176 1 1 1:=fo underlying176
instance :FOff prog 176 2 2 1:=fo underlying176
instance :FOff prog 176 3 3 1:=fo underlying176
instance :FOff prog 184 0 0 1:=fo underlying184
instance :FOff prog 191 0 0 1:=fo underlying191
instance :FOff prog 191 1 1 1:=fo underlying191
instance :FOff prog 212 0 0 1:=fo underlying212
instance :FOff prog 212 1 1 1:=fo underlying212
instance :FOff prog 212 2 2 1:=fo underlying212
instance :FOff prog 212 3 3 1:=fo underlying212
instance :FOff prog 222 0 0 1:=fo underlying222
instance :FOff prog 222 1 1 1:=fo underlying222
instance :FOff prog 222 2 2 1:=fo underlying222
instance :FOff prog 250 0 0 1:=fo underlying250
instance :FOff prog 250 1 1 1:=fo underlying250
instance :FOff prog 261 0 0 1:=fo underlying261
instance :FOff prog 261 1 1 4:=fo underlying261
instance :FOff prog 261 2 5 1:=fo underlying261
instance :FOff prog 261 3 6 1:=fo underlying261
instance :FOff prog 265 0 0 1:=fo underlying265
instance :FOff prog 265 1 1 1:=fo underlying265
instance :FOff prog 293 0 0 1:=fo underlying293
instance :FOff prog 305 0 0 1:=fo underlying305
instance :FOff prog 305 1 1 1:=fo underlying305
instance :FOff prog 305 2 2 1:=fo underlying305
instance :FOff prog 339 0 0 1:=fo underlying339
instance :FOff prog 339 1 1 1:=fo underlying339
instance :FOff prog 339 2 2 1:=fo underlying339
instance :Places prog 23 [(0,1),(1,1),(2,1),(3,1),(4,1),(5,1),(6,1),(7,1),(8,1)]:=⟨by kernel_rfl⟩
instance :Flds prog 33 [(3,0),(3,1)]:=⟨by kernel_rfl⟩
instance :Places prog 33 [(0,1),(1,1)]:=⟨by kernel_rfl⟩
instance :Flds prog 36 [(3,0),(34,1)]:=⟨by kernel_rfl⟩
instance :Places prog 36 [(0,1),(1,1)]:=⟨by kernel_rfl⟩
instance :Flds prog 38 [(3,0),(3,1),(3,2),(3,3),(3,4),(3,5),(3,6),(36,7),(9,9),(9,10)]:=⟨by kernel_rfl⟩
instance :Places prog 38 [(0,1),(1,1),(2,1),(3,1),(4,1),(5,1),(6,1),(7,2),(9,1),(10,1)]:=⟨by kernel_rfl⟩
instance :Places prog 49 [(0,1),(1,1)]:=⟨by kernel_rfl⟩
instance :Places prog 62 [(0,1),(1,1),(2,1),(3,1),(4,2),(6,2)]:=⟨by kernel_rfl⟩
instance :Places prog 64 [(0,8),(8,1),(9,1)]:=⟨by kernel_rfl⟩
instance :Flds prog 71 [(3,0),(3,1),(33,2),(3,4)]:=⟨by kernel_rfl⟩
instance :Places prog 71 [(0,1),(1,1),(2,2),(4,1)]:=⟨by kernel_rfl⟩
instance :Places prog 76 [(0,1),(1,1),(2,1),(3,1),(4,1)]:=⟨by kernel_rfl⟩
instance :Places prog 82 [(0,1),(1,1),(2,1),(3,1),(4,1),(5,1)]:=⟨by kernel_rfl⟩
instance :Places prog 85 [(0,1),(1,1)]:=⟨by kernel_rfl⟩
instance :Flds prog 101 [(3,0),(33,1),(33,3),(9,5)]:=⟨by kernel_rfl⟩
instance :Places prog 101 [(0,1),(1,2),(3,2),(5,1)]:=⟨by kernel_rfl⟩
instance :Places prog 103 [(0,1),(1,1),(2,1),(3,1),(4,1),(5,1),(6,2),(8,1),(9,1)]:=⟨by kernel_rfl⟩
instance :Places prog 110 [(0,1),(1,2),(3,11)]:=⟨by kernel_rfl⟩
instance :Places prog 121 [(0,4),(4,9),(13,1),(14,1),(15,1),(16,1),(17,1)]:=⟨by kernel_rfl⟩
instance :Places prog 136 [(0,1),(1,1),(2,1),(3,1),(4,1)]:=⟨by kernel_rfl⟩
instance :Places prog 148 [(0,1),(1,1),(2,1),(3,1)]:=⟨by kernel_rfl⟩
instance :Places prog 169 [(0,1),(1,1),(2,1)]:=⟨by kernel_rfl⟩
instance :Places prog 173 [(0,1)]:=⟨by kernel_rfl⟩
instance :Places prog 176 [(0,1),(1,1),(2,1),(3,1)]:=⟨by kernel_rfl⟩
instance :Places prog 184 [(0,1)]:=⟨by kernel_rfl⟩
instance :Places prog 191 [(0,1),(1,1)]:=⟨by kernel_rfl⟩
instance :Places prog 212 [(0,1),(1,1),(2,1),(3,1)]:=⟨by kernel_rfl⟩
instance :Places prog 222 [(0,1),(1,1),(2,1)]:=⟨by kernel_rfl⟩
instance :Places prog 250 [(0,1),(1,1)]:=⟨by kernel_rfl⟩
instance :Places prog 261 [(0,1),(1,4),(5,1),(6,1)]:=⟨by kernel_rfl⟩
instance :Places prog 275 [(0,1),(1,1)]:=⟨by kernel_rfl⟩
instance :Places prog 293 [(0,1)]:=⟨by kernel_rfl⟩
instance :Places prog 305 [(0,1),(1,1),(2,1)]:=⟨by kernel_rfl⟩
instance :Places prog 339 [(0,1),(1,1),(2,1)]:=⟨by kernel_rfl⟩
instance :FnOk prog 8:=fk func8
instance :FnOk prog 9:=fk func9
instance :FnOk prog 10:=fk func10
instance :FnOk prog 12:=fk func12
instance :FnOk prog 13:=fk func13
instance :FnOk prog 14:=fk func14
instance :FnOk prog 15:=fk func15
instance :FnOk prog 16:=fk func16
instance :FnOk prog 19:=fk func19
instance :FnOk prog 20:=fk func20
instance :FnOk prog 21:=fk func21
instance :FnOk prog 22:=fk func22
instance :FnOk prog 23:=fk func23
instance :FnOk prog 25:=fk func25
instance :FnOk prog 26:=fk func26
instance :FnOk prog 27:=fk func27
instance :FnOk prog 29:=fk func29
instance :FnOk prog 30:=fk func30
instance :FnOk prog 31:=fk func31
instance :FnOk prog 32:=fk func32
instance :FnOk prog 33:=fk func33
instance :FnOk prog 34:=fk func34
instance :FnOk prog 35:=fk func35
instance :FnOk prog 36:=fk func36
instance :FnOk prog 37:=fk func37
instance :FnOk prog 38:=fk func38
instance :FnOk prog 39:=fk func39
instance :FnOk prog 40:=fk func40
instance :FnOk prog 41:=fk func41
instance :FnOk prog 42:=fk func42
instance :FnOk prog 43:=fk func43
instance :FnOk prog 44:=fk func44
instance :FnOk prog 45:=fk func45
instance :FnOk prog 46:=fk func46
instance :FnOk prog 47:=fk func47
instance :FnOk prog 48:=fk func48
instance :FnOk prog 49:=fk func49
instance :FnOk prog 50:=fk func50
instance :FnOk prog 51:=fk func51
instance :FnOk prog 52:=fk func52
instance :FnOk prog 53:=fk func53
instance :FnOk prog 55:=fk func55
instance :FnOk prog 56:=fk func56
instance :FnOk prog 57:=fk func57
instance :FnOk prog 58:=fk func58
instance :FnOk prog 63:=fk func63
instance :FnOk prog 64:=fk func64
instance :FnOk prog 65:=fk func65
instance :FnOk prog 66:=fk func66
instance :FnOk prog 67:=fk func67
instance :FnOk prog 68:=fk func68
instance :FnOk prog 69:=fk func69
instance :FnOk prog 70:=fk func70
instance :FnOk prog 71:=fk func71
instance :FnOk prog 72:=fk func72
instance :FnOk prog 73:=fk func73
instance :FnOk prog 74:=fk func74
instance :FnOk prog 75:=fk func75
instance :FnOk prog 76:=fk func76
instance :FnOk prog 77:=fk func77
instance :FnOk prog 78:=fk func78
instance :FnOk prog 79:=fk func79
instance :FnOk prog 80:=fk func80
instance :FnOk prog 81:=fk func81
instance :FnOk prog 82:=fk func82
instance :FnOk prog 83:=fk func83
instance :FnOk prog 84:=fk func84
instance :FnOk prog 85:=fk func85
instance :FnOk prog 86:=fk func86
instance :FnOk prog 87:=fk func87
instance :FnOk prog 88:=fk func88
instance :FnOk prog 89:=fk func89
instance :FnOk prog 90:=fk func90
instance :FnOk prog 91:=fk func91
instance :FnOk prog 92:=fk func92
instance :FnOk prog 93:=fk func93
instance :FnOk prog 94:=fk func94
instance :FnOk prog 95:=fk func95
instance :FnOk prog 96:=fk func96
instance :FnOk prog 97:=fk func97
instance :FnOk prog 98:=fk func98
instance :FnOk prog 99:=fk func99
instance :FnOk prog 102:=fk func102
instance :FnOk prog 103:=fk func103
instance :FnOk prog 104:=fk func104
instance :FnOk prog 105:=fk func105
instance :FnOk prog 106:=fk func106
instance :FnOk prog 107:=fk func107
instance :FnOk prog 108:=fk func108
instance :FnOk prog 109:=fk func109
instance :FnOk prog 110:=fk func110
instance :FnOk prog 111:=fk func111
instance :FnOk prog 112:=fk func112
instance :FnOk prog 113:=fk func113
instance :FnOk prog 114:=fk func114
instance :FnOk prog 115:=fk func115
instance :FnOk prog 116:=fk func116
instance :FnOk prog 117:=fk func117
instance :FnOk prog 118:=fk func118
instance :FnOk prog 119:=fk func119
instance :FnOk prog 120:=fk func120
instance :FnOk prog 121:=fk func121
instance :FnOk prog 122:=fk func122
instance :FnOk prog 123:=fk func123
instance :FnOk prog 124:=fk func124
instance :FnOk prog 125:=fk func125
instance :FnOk prog 126:=fk func126
instance :FnOk prog 127:=fk func127
instance :FnOk prog 128:=fk func128
instance :FnOk prog 129:=fk func129
instance :FnOk prog 130:=fk func130
instance :FnOk prog 131:=fk func131
instance :FnOk prog 132:=fk func132
instance :FnOk prog 133:=fk func133
instance :FnOk prog 134:=fk func134
instance :FnOk prog 135:=fk func135
instance :FnOk prog 136:=fk func136
instance :FnOk prog 137:=fk func137
instance :FnOk prog 138:=fk func138
instance :FnOk prog 139:=fk func139
instance :FnOk prog 140:=fk func140
instance :FnOk prog 141:=fk func141
instance :FnOk prog 142:=fk func142
instance :FnOk prog 143:=fk func143
instance :FnOk prog 144:=fk func144
instance :FnOk prog 145:=fk func145
instance :FnOk prog 146:=fk func146
instance :FnOk prog 147:=fk func147
instance :FnOk prog 148:=fk func148
instance :FnOk prog 149:=fk func149
instance :FnOk prog 150:=fk func150
instance :FnOk prog 151:=fk func151
instance :FnOk prog 152:=fk func152
instance :FnOk prog 153:=fk func153
instance :FnOk prog 154:=fk func154
instance :FnOk prog 155:=fk func155
instance :FnOk prog 156:=fk func156
instance :FnOk prog 157:=fk func157
instance :FnOk prog 159:=fk func159
instance :FnOk prog 160:=fk func160
instance :FnOk prog 161:=fk func161
instance :FnOk prog 163:=fk func163
instance :FnOk prog 164:=fk func164
instance :FnOk prog 165:=fk func165
instance :FnOk prog 166:=fk func166
instance :FnOk prog 167:=fk func167
instance :FnOk prog 168:=fk func168
instance :FnOk prog 169:=fk func169
instance :FnOk prog 170:=fk func170
instance :FnOk prog 171:=fk func171
instance :FnOk prog 172:=fk func172
instance :FnOk prog 173:=fk func173
instance :FnOk prog 174:=fk func174
instance :FnOk prog 175:=fk func175
instance :FnOk prog 176:=fk func176
instance :FnOk prog 177:=fk func177
instance :FnOk prog 178:=fk func178
instance :FnOk prog 179:=fk func179
instance :FnOk prog 180:=fk func180
instance :FnOk prog 181:=fk func181
instance :FnOk prog 182:=fk func182
instance :FnOk prog 183:=fk func183
instance :FnOk prog 184:=fk func184
instance :FnOk prog 185:=fk func185
instance :FnOk prog 186:=fk func186
instance :FnOk prog 189:=fk func189
instance :FnOk prog 190:=fk func190
instance :FnOk prog 191:=fk func191
instance :FnOk prog 192:=fk func192
instance :FnOk prog 193:=fk func193
instance :FnOk prog 194:=fk func194
instance :FnOk prog 195:=fk func195
instance :FnOk prog 196:=fk func196
instance :FnOk prog 197:=fk func197
instance :FnOk prog 198:=fk func198
instance :FnOk prog 199:=fk func199
instance :FnOk prog 200:=fk func200
instance :FnOk prog 201:=fk func201
instance :FnOk prog 202:=fk func202
instance :FnOk prog 203:=fk func203
instance :FnOk prog 204:=fk func204
instance :FnOk prog 205:=fk func205
instance :FnOk prog 206:=fk func206
instance :FnOk prog 207:=fk func207
instance :FnOk prog 208:=fk func208
instance :FnOk prog 209:=fk func209
instance :FnOk prog 210:=fk func210
instance :FnOk prog 211:=fk func211
instance :FnOk prog 212:=fk func212
instance :FnOk prog 213:=fk func213
instance :FnOk prog 214:=fk func214
instance :FnOk prog 215:=fk func215
instance :FnOk prog 216:=fk func216
instance :FnOk prog 217:=fk func217
instance :FnOk prog 218:=fk func218
instance :FnOk prog 219:=fk func219
instance :FnOk prog 220:=fk func220
instance :FnOk prog 221:=fk func221
instance :FnOk prog 222:=fk func222
instance :FnOk prog 223:=fk func223
instance :FnOk prog 224:=fk func224
instance :FnOk prog 225:=fk func225
instance :FnOk prog 226:=fk func226
instance :FnOk prog 227:=fk func227
instance :FnOk prog 228:=fk func228
instance :FnOk prog 229:=fk func229
instance :FnOk prog 230:=fk func230
instance :FnOk prog 231:=fk func231
instance :FnOk prog 232:=fk func232
instance :FnOk prog 233:=fk func233
instance :FnOk prog 234:=fk func234
instance :FnOk prog 235:=fk func235
instance :FnOk prog 236:=fk func236
instance :FnOk prog 237:=fk func237
instance :FnOk prog 238:=fk func238
instance :FnOk prog 239:=fk func239
instance :FnOk prog 240:=fk func240
instance :FnOk prog 241:=fk func241
instance :FnOk prog 242:=fk func242
instance :FnOk prog 243:=fk func243
instance :FnOk prog 244:=fk func244
instance :FnOk prog 245:=fk func245
instance :FnOk prog 246:=fk func246
instance :FnOk prog 247:=fk func247
instance :FnOk prog 248:=fk func248
instance :FnOk prog 254:=fk func254
instance :FnOk prog 256:=fk func256
instance :FnOk prog 257:=fk func257
instance :FnOk prog 258:=fk func258
instance :FnOk prog 259:=fk func259
instance :FnOk prog 260:=fk func260
instance :FnOk prog 261:=fk func261
instance :FnOk prog 262:=fk func262
instance :FnOk prog 263:=fk func263
instance :FnOk prog 264:=fk func264
instance :FnOk prog 270:=fk func270
instance :FnOk prog 274:=fk func274
instance :FnOk prog 275:=fk func275
instance :FnOk prog 277:=fk func277
instance :FnOk prog 279:=fk func279
instance :FnOk prog 280:=fk func280
instance :FnOk prog 281:=fk func281
instance :FnOk prog 283:=fk func283
instance :FnOk prog 284:=fk func284
instance :FnOk prog 285:=fk func285
instance :FnOk prog 286:=fk func286
instance :FnOk prog 287:=fk func287
instance :FnOk prog 289:=fk func289
instance :FnOk prog 290:=fk func290
instance :FnOk prog 294:=fk func294
instance :FnOk prog 295:=fk func295
instance :FnOk prog 296:=fk func296
instance :FnOk prog 297:=fk func297
instance :FnOk prog 298:=fk func298
instance :FnOk prog 304:=fk func304
instance :FnOk prog 305:=fk func305
instance :FnOk prog 306:=fk func306
instance :FnOk prog 307:=fk func307
instance :FnOk prog 308:=fk func308
instance :FnOk prog 309:=fk func309
instance :FnOk prog 310:=fk func310
instance :FnOk prog 311:=fk func311
instance :FnOk prog 313:=fk func313
instance :FnOk prog 315:=fk func315
instance :FnOk prog 317:=fk func317
instance :FnOk prog 321:=fk func321
end Go.Proofs.YtkoelgkghijgiaaGreat
namespace Go.Sep
open Go
instance (priority:=700) RemL.single {A A':List Blk} {p:Blk} [h:Rem A p A']:RemL A [p] A':=⟨h.perm⟩
theorem perm_of {l1 l2:List Blk} (h:∀ (c:List Blk → Nat) (g:Blk → Nat),(∀ x y,c (x ++ y) = c x + c y) → (∀ p x,c (p :: x) = g p + c x) → (∀ x y,x.Perm y → c x = c y) → c [] = 0 → c l1 = c l2):l1.Perm l2:=by
 haveI:DecidableEq Blk:=fun a b=>Classical.propDecidable (a = b)
 exact List.perm_iff_count.2 fun a=>h (fun l=>l.count a) (fun p=>if p == a then 1 else 0) (fun x y=>List.count_append) (fun p x=>by rw [List.count_cons,Nat.add_comm]) (fun x y hp=>hp.count_eq a) rfl
theorem Ops.mkF {P:Program} {N:Fi} {B:Base} {Q:Exit → Act → World → Prop} {T:Tm} {A:List Blk} {ops:Array Oper} {l:List Oper} {d:Nat} {ty:TypeId} {pos:String} {af:Array Edge} {m:Md} {gd:Option (Nat × Bool)} {f:Fn} {xs ys:List Operand} {vs us:List Value}
  (hm:m.rd true = true) (hg:gst ops T gd = some true) (hx:evs T xs = some vs) (hy:evs T ys = some us) (hd:Nat.blt d N.n = true) (k:Ops P N B Q ops m.tl l ((d,.func f vs.toArray us.toArray) :: T) A) :
  Ops P N B Q ops m (⟨some d,.makeFunc f xs.toArray ys.toArray,ty,pos,af,gd⟩ :: l) T A :=
 Ops.pureV hm hg hd (fun a w hF=>by
  have h1:(xs.toArray.map a.eval) = vs.toArray:=by rw [← hF.evals hx];simp
  have h2:(ys.toArray.map a.eval) = us.toArray:=by rw [← hF.evals hy];simp
  simp [execOp,Instr.makeFunc,hF.evals hx,hF.evals hy]) k
theorem mark1 {B:Base} {D:Nat} (h:B.h D = none):MarksOk B [D]:=⟨h,trivial⟩
theorem inB {N:Fi} {B:Base} {T:Tm} {A:List Blk} {Q:Exit → Act → World → Prop} {id:Nat} (h:∀ a w,Fr N T a → Sat B A w → Q .normal a w):∀ a w,Fr N T a → Sat B A w → Exit.inBlock id Q .normal a w:=h
theorem inBr {N:Fi} {B:Base} {T:Tm} {A:List Blk} {Q:Exit → Act → World → Prop} {id:Nat} (h:∀ a w,Fr N T a → Sat B A w → Q .ret a w):∀ a w,Fr N T a → Sat B A w → Exit.inBlock id Q .ret a w:=h
theorem map_set_same {α β:Type} {f:α → β} {l:List α} {j:Nat} {x y:α} (h:l[j]? = some x) (e:f y = f x):(l.set j y).map f = l.map f:=by
 rw [List.map_set,e]
 apply List.ext_getElem?
 intro q
 by_cases hq:j = q
 ·subst hq
  have hl:=(List.getElem?_eq_some_iff.1 h).1
  rw [List.getElem?_set_self (by simpa using hl),List.getElem?_map,h];rfl
 ·rw [List.getElem?_set_ne hq]
theorem rows_map {α:Type} {sz:Nat} {f:α → List Value} (h:∀ x,(f x).length = sz ∧ oneAll (f x) = true) (l:List α):RowsOk sz (l.map f):=fun r hr=>by
 obtain ⟨x,_,rfl⟩:=List.mem_map.1 hr
 exact h x
theorem map_at {α β:Type} {f:α → β} {l:List α} {j:Nat} {x:α} (h:l[j]? = some x):(l.map f)[(j:Int).toNat]? = some (f x):=by
 rw [Int.toNat_natCast,List.getElem?_map,h];rfl
end Go.Sep
namespace Go.Sep
open Go
section
variable {P:Program} {N:Fi} {B:Base} {Q:Exit → Act → World → Prop} {T:Tm} {A:List Blk} {ops:Array Oper} {l:List Oper}
end
end Go.Sep
