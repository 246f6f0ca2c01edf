import Derived.Test.YtaecdnfkcebbeaaGreatA07
set_option linter.unusedVariables false
set_option linter.unusedSimpArgs false
namespace Go.Sep
open Go
section
variable {P:Program} {N:Fi} {B:Base} {Q:Exit → Act → World → Prop} {T:Tm} {A:List Blk} {ops:Array Oper} {l:List Oper}
variable {d:Nat} {ty:TypeId} {pos:String} {af:Array Edge} {m:Md} {gd:Option (Nat × Bool)}
theorem Still.ldR {i dd t:Nat} {x:Operand} {b off:Nat} {sz bs:Nat} {zc:List Value} {v:Value} (ho:ops[i]? = some ⟨some dd,.load t x,ty,pos,af,gd⟩) (hg:gst ops T gd = some true) (hx:ev T x = some (.pointer (some ⟨b,off,none⟩)))
  [ht:Ty P t false sz bs zc] (hv:Rd B A b off v) (hl:look T dd = some v):Still P N B ops T A i :=
 ⟨_,dd,v,ho,rfl,hl,fun a w hF hS=>.inl ⟨gst_wanted (o:=⟨some dd,.load t x,ty,pos,af,gd⟩) hF hg,by simp [execOp,hF.eval hx,run_loadAt1 ht (hv w hS)]⟩⟩
theorem Still.ldRow1 {i' dd t:Nat} {x:Operand} {b i o:Nat} {sz sz' bs:Nat} {zc r:List Value} {rows:List (List Value)} {spare:List Value} {E:TypeId} {v:Value} (ho:ops[i']? = some ⟨some dd,.load t x,ty,pos,af,gd⟩) (hg:gst ops T gd = some true) [ht:Ty P t false sz' bs zc]
  (hx:ev T x = some (.pointer (some ⟨b,i * sz + o,none⟩))) [hb:Has A b (cl (rows.flatten ++ spare) E)] (hr:RowsOk sz rows) (hi:rows[i]? = some r) (hv:r[o]? = some v) (hl:look T dd = some v):Still P N B ops T A i' :=
 ⟨_,dd,v,ho,rfl,hl,fun a w hF hS=>.inl ⟨gst_wanted (o:=⟨some dd,.load t x,ty,pos,af,gd⟩) hF hg,by
  have hl:=(hr r (List.mem_of_getElem? hi)).1
  have ho:o < sz:=by rw [← hl];exact (List.getElem?_eq_some_iff.1 hv).1
  have h1:=hr.at_ hi ho
  have hc:w.cell? ⟨b,i * sz + o,none⟩ = some v:=by
   rw [cell_of (hS.here _ hb.mem),List.getElem?_append_left (List.getElem?_eq_some_iff.1 (h1.trans hv)).1,h1,hv]
  simp [execOp,hF.eval hx,run_loadAt1 ht hc]⟩⟩
theorem Still.skip {i dd j:Nat} {want:Bool} {op:Op} (ho:ops[i]? = some ⟨some dd,op,ty,pos,af,some (j,want)⟩) (hg:gst ops T (some (j,want)) = some false) (hl:look T dd = some undef):Still P N B ops T A i :=
 ⟨_,dd,undef,ho,rfl,hl,fun a w hF hS=>.inr ⟨gst_wanted (o:=⟨some dd,op,ty,pos,af,some (j,want)⟩) hF hg,rfl⟩⟩
end
end Go.Sep
namespace Go.Sep
open Go
theorem rows_set1 {sz:Nat} {v:Value}:∀ {rows:List (List Value)},RowsOk sz rows → ∀ {i o:Nat} {r:List Value},rows[i]? = some r → o < sz → rows.flatten.set (i * sz + o) v = (rows.set i (r.set o v)).flatten
 | [],_,i,o,r,hi,_=>by simp at hi
 | x :: rows,h,0,o,r,hi,ho=>by
  simp only [List.getElem?_cons_zero,Option.some.injEq] at hi
  subst hi
  have hx:=(h x (List.mem_cons_self ..)).1
  simp only [List.flatten_cons,List.set_cons_zero,Nat.zero_mul,Nat.zero_add]
  rw [List.set_append_left _ _ (by omega)]
 | x :: rows,h,i + 1,o,r,hi,ho=>by
  have hx:=(h x (List.mem_cons_self ..)).1
  have ih:=rows_set1 (rows:=rows) (v:=v) (fun y hy=>h y (List.mem_cons_of_mem _ hy)) (i:=i) (o:=o) (r:=r) (by simpa using hi) ho
  simp only [List.flatten_cons,List.set_cons_succ]
  rw [List.set_append_right _ _ (by rw [hx,Nat.add_mul];omega),hx,show (i + 1) * sz + o - sz = i * sz + o from by rw [Nat.add_mul];omega,ih]
section
variable {P:Program} {N:Fi} {B:Base} {Q:Exit → Act → World → Prop} {T:Tm} {A:List Blk} {ops:Array Oper} {l:List Oper}
variable {d:Nat} {ty:TypeId} {pos:String} {af:Array Edge} {m:Md} {gd:Option (Nat × Bool)}
theorem Ops.stRow1 {t:TypeId} {x y:Operand} {b i o:Nat} {gt:Bool} {sz bs:Nat} {zc r:List Value} {rows:List (List Value)} {spare:List Value} {E:TypeId} {v:Value} {A':List Blk} (hm:m.eff = true) (hg:gst ops T gd = some true) [ht:Ty P t gt 1 bs zc]
  (hx:ev T x = some (.pointer (some ⟨b,i * sz + o,none⟩))) (hy:ev T y = some v) (h1:v.oneCell' = true) [hb:Has A b (cl (rows.flatten ++ spare) E)] (hr:RowsOk sz rows) (hi:rows[i]? = some r) (ho:Nat.blt o sz = true)
  [hu:Upd A b (cl (rows.flatten ++ spare) E) (cl ((rows.set i (r.set o v)).flatten ++ spare) E) A'] (hp:Pd P N B ops m T none (fun _ X=>X = A'))
  (k:Ops P N B Q ops m.tl l T A'):Ops P N B Q ops m (⟨none,.store t x y,ty,pos,af,gd⟩ :: l) T A :=
 Ops.unit hm hp hg (fun a w hF hS=>by
  obtain ⟨A1,A2,rfl,rfl⟩:=hu.put
  have ho':o < sz:=by simpa [Nat.blt_eq] using ho
  have hc:v.cells = [v].toArray:=by cases v <;> first|rfl|cases h1
  have hl:=(hr r (List.mem_of_getElem? hi)).1
  have hlt:=(List.getElem?_eq_some_iff.1 hi).1
  have hfit:i * sz + o < rows.flatten.length:=by
   rw [hr.len]
   have:(i + 1) * sz ≤ rows.length * sz:=Nat.mul_le_mul_right _ hlt
   rw [Nat.add_mul] at this
   omega
  obtain ⟨w',hrun,hS'⟩:=run_storeAt (P:=P) hS ht hc rfl (off:=i * sz + o) (by simpa using h1) (by rw [List.length_append,List.length_singleton];omega)
  refine ⟨w',by simp [execOp,hF.eval hx,hF.eval hy,hrun],?_⟩
  rw [ins_cons (by rw [List.length_append];omega),ins_nil,List.set_append_left _ _ hfit,rows_set1 hr hi ho'] at hS'
  exact hS') k
theorem Ops.blk {A':List Blk} (k:Ops P N B Q ops none l T A') (hA:∀ w,Sat B A w → Sat B A' w):Ops P N B Q ops none l T A :=
 fun a w hF hS=>k a w hF (hA w hS)
theorem Cd.blk {c:Code} {A':List Blk} (k:Cd P N B Q c T A') (hA:∀ w,Sat B A w → Sat B A' w):Cd P N B Q c T A :=
 fun a w hF hS=>k a w hF (hA w hS)
end
end Go.Sep
namespace Go.Sep
open Go
section
variable {P:Program} {N:Fi} {B:Base} {Q:Exit → Act → World → Prop} {T:Tm} {A:List Blk} {ops:Array Oper} {l:List Oper}
variable {d:Nat} {op:Op} {ty:TypeId} {pos:String} {af:Array Edge} {m:Md} {gd:Option (Nat × Bool)}
theorem unwanted {j dj:Nat} {want:Bool} {dst:Option Nat} {a:Act} (hF:Fr N T a) (hj:(ops[j]?).bind (·.dst) = some dj) (hu:look T dj = some undef):Region.wanted ⟨dst,op,ty,pos,af,some (j,want)⟩ (yielded ops a.tmps) = false:=by
 unfold Region.wanted
 have:yielded ops a.tmps j = none:=by
  unfold yielded
  rw [hj]
  simp [hF.get _ _ hu,undef]
 simp [this]
theorem Ops.gSkipU {j dj:Nat} {want:Bool} (hm:m.rd true = true) (hj:(ops[j]?).bind (·.dst) = some dj) (hu:look T dj = some undef) (hd:Nat.blt d N.n = true) (k:Ops P N B Q ops m.tl l ((d,undef) :: T) A) :
  Ops P N B Q ops m (⟨some d,op,ty,pos,af,some (j,want)⟩ :: l) T A :=
 Ops.rdG true hm rfl hd (fun _ _ hF _=>.inr ⟨unwanted hF hj hu,rfl⟩) k
theorem Ops.gSkipUE {j dj:Nat} {want:Bool} (hm:m.eff = true) (hp:Pd P N B ops m T (some d) (fun u X=>u = undef ∧ X = A)) (hj:(ops[j]?).bind (·.dst) = some dj) (hu:look T dj = some undef) (hd:Nat.blt d N.n = true) (k:Ops P N B Q ops m.tl l ((d,undef) :: T) A) :
  Ops P N B Q ops m (⟨some d,op,ty,pos,af,some (j,want)⟩ :: l) T A :=
 Ops.effG hm (fun d' h=>by injection h with h;rw [← h];exact hd) (fun _ _ hF hS=>.inr ⟨unwanted hF hj hu,A,⟨rfl,rfl⟩,hS⟩) hp fun u X ⟨h1,h2⟩=>by rw [h1,h2];exact k
end
end Go.Sep
namespace Go.Sep
open Go
section
variable {P:Program} {N:Fi} {B:Base} {Q:Exit → Act → World → Prop} {T:Tm} {A:List Blk} {ops:Array Oper} {l:List Oper}
variable {d:Nat} {op:Op} {ty:TypeId} {pos:String} {af:Array Edge} {m:Md} {gd:Option (Nat × Bool)}
theorem Ops.mulI {t t':TypeId} {x y:Operand} {a b:Int} (hm:m.rd true = true) (hg:gst ops T gd = some true) (hx:ev T x = some (.int .i64 a)) (hy:ev T y = some (.int .i64 b)) (h0:-9223372036854775808 ≤ a * b) (h1:a * b ≤ 9223372036854775807) (hd:Nat.blt d N.n = true)
  (k:Ops P N B Q ops m.tl l ((d,.int .i64 (a * b)) :: T) A):Ops P N B Q ops m (⟨some d,.binOp .mul t x y t',ty,pos,af,gd⟩ :: l) T A :=
 Ops.pureV hm hg hd (fun a w hF=>by
  simp [execOp,hF.eval hx,hF.eval hy,eqGuard,binOp,Op.intArith,IntWalk.i64_in _ ⟨h0,h1⟩]) k
end
end Go.Sep
namespace Go.Sep
open Go
section
variable {P:Program} {N:Fi} {B:Base} {Q:Exit → Act → World → Prop} {T:Tm} {A:List Blk} {ops:Array Oper} {l:List Oper}
variable {d:Nat} {op:Op} {ty:TypeId} {pos:String} {af:Array Edge} {m:Md} {gd:Option (Nat × Bool)}
theorem Ops.remI {t t':TypeId} {x y:Operand} {a b:Int} (hm:m.rd true = true) (hg:gst ops T gd = some true) (hx:ev T x = some (.int .i64 a)) (hy:ev T y = some (.int .i64 b)) (hb:b ≠ 0) (hd:Nat.blt d N.n = true)
  (k:Ops P N B Q ops m.tl l ((d,.int .i64 (a.tmod b)) :: T) A):Ops P N B Q ops m (⟨some d,.binOp .rem t x y t',ty,pos,af,gd⟩ :: l) T A :=
 Ops.pureV hm hg hd (fun a w hF=>by
  simp [execOp,hF.eval hx,hF.eval hy,eqGuard,binOp,Op.intDiv,hb]) k
end
end Go.Sep
namespace Go.Sep
open Go
section
variable {P:Program} {N:Fi} {B:Base} {Q:Exit → Act → World → Prop} {T:Tm} {A:List Blk} {ops:Array Oper} {l:List Oper}
variable {d:Nat} {op:Op} {ty:TypeId} {pos:String} {af:Array Edge} {m:Md} {gd:Option (Nat × Bool)}
theorem ins_mid {pre r post vs:List Value} {o:Nat} (h:o + vs.length ≤ r.length):ins (pre ++ (r ++ post)) (pre.length + o) vs = pre ++ (ins r o vs ++ post):=by
 rw [← ins_left h]
 unfold ins
 rw [List.take_append,List.take_of_length_le (by omega),Nat.add_sub_cancel_left,Nat.add_assoc,List.drop_append,List.drop_eq_nil_of_le (by omega),Nat.add_sub_cancel_left]
 simp
end
theorem rows_mid {rows:List (List Value)} {spare r:List Value} {j:Nat} (h:rows[j]? = some r):rows.flatten ++ spare = (rows.take j).flatten ++ (r ++ ((rows.drop (j + 1)).flatten ++ spare)):=by
 obtain ⟨hj,rfl⟩:=List.getElem?_eq_some_iff.1 h
 have e:=List.take_append_drop j rows
 rw [List.drop_eq_getElem_cons hj] at e
 conv=>lhs;rw [← e]
 simp only [List.flatten_append,List.flatten_cons,List.append_assoc]
theorem rows_mid_set {rows:List (List Value)} {spare r:List Value} {j:Nat} (hj:j < rows.length):(rows.take j).flatten ++ (r ++ ((rows.drop (j + 1)).flatten ++ spare)) = (rows.set j r).flatten ++ spare:=by
 rw [List.set_eq_take_append_cons_drop,if_pos hj]
 simp only [List.flatten_append,List.flatten_cons,List.append_assoc]
theorem rows_mid_len {sz:Nat} {rows:List (List Value)} (h:RowsOk sz rows) {j:Nat} (hj:j ≤ rows.length):(rows.take j).flatten.length = j * sz:=by
 have:RowsOk sz (rows.take j):=fun r hr=>h r (List.mem_of_mem_take hr)
 rw [this.len,List.length_take,Nat.min_eq_left hj]
end Go.Sep
namespace Go.Sep
open Go
def Base.add (B:Base) (n:Nat) (o:Obj):Base:={ B with h:=fun k=>if k = n then some o else B.h k }
def Base.mark (B:Base) (D:Nat):Base:=B.add D (.deferred (some []))
def Base.marks (B:Base):List Nat → Base
 | []=>B
 | D :: ds=>(B.marks ds).mark D
def MarksOk (B:Base):List Nat → Prop
 | []=>True
 | D :: ds=>(B.marks ds).h D = none ∧ MarksOk B ds
theorem Sat.add {B:Base} {A:List Blk} {w:World} {n:Nat} {o:Obj} (h:Sat B ((n,o) :: A) w):Sat (B.add n o) A w:=by
 have hnd:=h.nodup
 simp only [List.map_cons,List.nodup_cons] at hnd
 refine ⟨h.os,h.tape,h.output,fun k o' hk=>?_,fun p hp=>h.here p (List.mem_cons_of_mem _ hp),fun p hp=>?_,hnd.2⟩
 ·simp only [Base.add] at hk
  split at hk
  ·rename_i e;subst e;injection hk with hk;subst hk;exact h.here (k,o) (List.mem_cons_self ..)
  ·exact h.base k o' hk
 ·have:p.1 ≠ n:=fun e=>hnd.1 (e ▸ List.mem_map_of_mem hp)
  simp only [Base.add,if_neg this]
  exact h.apart p (List.mem_cons_of_mem _ hp)
theorem Sat.not_in {B:Base} {A:List Blk} {w:World} {n:Nat} {o:Obj} (h:Sat (B.add n o) A w):∀ p ∈ A,p.1 ≠ n:=fun p hp e=>by
 have:=h.apart p hp
 simp [Base.add,e] at this
theorem Sat.unadd {B:Base} {A:List Blk} {w:World} {n:Nat} {o:Obj} (hn:B.h n = none) (h:Sat (B.add n o) A w):Sat B ((n,o) :: A) w:=by
 have hni:=h.not_in
 refine ⟨h.os,h.tape,h.output,fun k o' hk=>?_,fun p hp=>?_,fun p hp=>?_,?_⟩
 ·refine h.base k o' ?_
  have:k ≠ n:=fun e=>by rw [e,hn] at hk;cases hk
  simpa [Base.add,this] using hk
 ·rcases List.mem_cons.1 hp with rfl|hp
  ·exact h.base _ _ (by simp [Base.add])
  ·exact h.here p hp
 ·rcases List.mem_cons.1 hp with rfl|hp
  ·exact hn
  ·have:=h.apart p hp
   simpa [Base.add,hni p hp] using this
 ·simp only [List.map_cons,List.nodup_cons]
  exact ⟨fun hm=>by obtain ⟨p,hp,e⟩:=List.mem_map.1 hm;exact hni p hp e,h.nodup⟩
theorem Sat.putOther {B:Base} {A:List Blk} {w:World} {n:Nat} {o:Obj} (h:Sat B A w) (hn:B.h n = none) (hA:∀ p ∈ A,p.1 ≠ n):Sat B A (w.putObj n o) :=
 ⟨h.os,h.tape,h.output,fun k o' hk=>by
  have:k ≠ n:=fun e=>by rw [e,hn] at hk;cases hk
  rw [World.putObj_heap_other this];exact h.base k o' hk,fun p hp=>by rw [World.putObj_heap_other (hA p hp)];exact h.here p hp,h.apart,h.nodup⟩
theorem Sat.putHead {B:Base} {A:List Blk} {w:World} {n:Nat} {o o':Obj} (h:Sat B ((n,o) :: A) w):Sat B ((n,o') :: A) (w.putObj n o'):=by
 have hh:=h.here (n,o) (List.mem_cons_self ..)
 exact Sat.put (A1:=[]) h rfl rfl rfl (World.putObj_heap_same (lt_of_get hh)) fun k hk=>World.putObj_heap_other hk
structure Ext (B B2:Base):Prop where
 h:∀ n o,B.h n = some o → B2.h n = some o
 os:B2.os = B.os
 tape:B2.tape = B.tape
 output:B2.output = B.output
theorem Ext.refl (B:Base):Ext B B:=⟨fun _ _ h=>h,rfl,rfl,rfl⟩
theorem Ext.trans {B B2 B3:Base} (h:Ext B B2) (k:Ext B2 B3):Ext B B3:=⟨fun n o hn=>k.h n o (h.h n o hn),k.os.trans h.os,k.tape.trans h.tape,k.output.trans h.output⟩
theorem Ext.plain {B B2:Base} (h:Ext B B2):Ext B B2.plain:=⟨h.h,h.os,h.tape,h.output⟩
theorem Ext.sat {B B2:Base} (e:Ext B B2) {A:List Blk} {w:World} (h:Sat B2 A w):Sat B A w :=
 ⟨h.os.trans e.os,h.tape.trans e.tape,h.output.trans e.output,fun n o hn=>h.base n o (e.h n o hn),h.here,(fun p hp=>by
  cases hb:B.h p.1 with
  | none=>rfl
  | some o =>
   have:=e.h _ _ hb
   rw [h.apart p hp] at this
   cases this),h.nodup⟩
theorem Ext.add {B:Base} {n:Nat} {o:Obj} (hn:B.h n = none):Ext B (B.add n o):=⟨fun k o' hk=>by
 have:k ≠ n:=fun e=>by rw [e,hn] at hk;cases hk
 simpa [Base.add,this] using hk,rfl,rfl,rfl⟩
theorem Ext.with {B:Base} {A F:List Blk} {w:World} (h:Sat B (A ++ F) w):Ext B (B.with F):=⟨fun n o hn=>by
 have:F.find? (fun q=>q.1 == n) = none:=find_none fun q hq e=>by
  have:=h.right.apart q hq
  rw [e,hn] at this
  cases this
 simp only [Base.with,this]
 exact hn,rfl,rfl,rfl⟩
theorem Rd.ext {B B2:Base} {A:List Blk} {b off:Nat} {v:Value} (e:Ext B B2) (h:Rd B A b off v):Rd B2 A b off v:=fun w hS=>h w (e.sat hS)
section
variable {P:Program} {K:Nat} {B:Base} {T:Tm} {A:List Blk} {fn:Func} {R:Value → List Blk → Prop}
theorem unmark {ds:List Nat} (hm:MarksOk B ds) (h:∀ a w,Fr ⟨K,[]⟩ T a → Sat B A w → post P fn B R .ret a w):∀ a w,Fr ⟨K,ds.map mark⟩ T a → Sat (B.marks ds) A w → post P fn B R .ret a w:=by
 intro a w hF hS
 show LeavesInM Fence.wide 0 P fn a.tmps _ a.defers .returning w
 rw [show a.defers = ds.map mark from hF.dfr]
 have hF':Fr ⟨K,[]⟩ T { a with defers:=[] }:=⟨hF.size,rfl,hF.get⟩
 clear hF
 induction ds generalizing w with
 | nil=>exact h { a with defers:=[] } w hF' hS
 | cons D ds ih =>
  have hD:w.heap[D]? = some (.deferred (some [])):=hS.base D _ (by simp [Base.marks,Base.mark,Base.add])
  have hS2:Sat (B.marks ds) A (w.putObj D (.deferred none)):=(hS.unadd hm.1).tail.putOther hm.1 hS.not_in
  refine ⟨by simp,.inl ⟨D,_,rfl,run_takeDeferred hD,ih hm.2 _ hS2⟩⟩
end
def YCon (P:Program) (B0:Base) (l:Nat) (args:List Value) (C:List Blk) (R:Value → List Blk → Prop):Prop :=
 ∀ (B:Base) (w:World),Ext B0 B → Sat B C w → YieldAt Fence.wide 0 P l args.toArray w fun e w'=>∃ v C',e = .returned v ∧ R v C' ∧ Sat B C' w'
def ConB (P:Program) (B0:Base) (f:FuncId) (args:Array Value) (A:List Blk) (R:Value → List Blk → Prop):Prop :=
 ∀ (B:Base) (w:World),Ext B0 B → Sat B A w → Calls P f args w fun e w'=>∃ v A',e = .returned v ∧ R v A' ∧ Sat B A' w'
theorem Con.toB {P:Program} {B0:Base} {f:FuncId} {args:Array Value} {A:List Blk} {R:Value → List Blk → Prop} (h:Con P f args A R):ConB P B0 f args A R:=fun B w _ hS=>h B w hS
theorem ConB.mono {P:Program} {B0:Base} {f:FuncId} {args:Array Value} {A:List Blk} {R R':Value → List Blk → Prop} (h:ConB P B0 f args A R)
  (hr:∀ v A',R v A' → R' v A'):ConB P B0 f args A R':=fun B w he hs =>
 (h B w he hs).mono fun _ _ ⟨v,A',he,hR,hS⟩=>⟨v,A',he,hr _ _ hR,hS⟩
theorem ConB.frame {P:Program} {B0:Base} {f:FuncId} {args:Array Value} {A F:List Blk} {R:Value → List Blk → Prop} (h:ConB P B0 f args A R)
  {B:Base} {w:World} (hx:Ext B0 B) (hs:Sat B (A ++ F) w):Calls P f args w fun e w'=>∃ v A',e = .returned v ∧ R v A' ∧ Sat B (A' ++ F) w' :=
 (h (B.with F) w (hx.trans (Ext.with hs)) hs.frameIn).mono fun _ _ ⟨v,A',he,hR,hS⟩=>⟨v,A',he,hR,hs.frameOut hS⟩
theorem YCon.frame {P:Program} {B0:Base} {l:Nat} {args:List Value} {C F:List Blk} {R:Value → List Blk → Prop} (h:YCon P B0 l args C R)
  {B:Base} {w:World} (hx:Ext B0 B) (hs:Sat B (C ++ F) w):YieldAt Fence.wide 0 P l args.toArray w fun e w'=>∃ v C',e = .returned v ∧ R v C' ∧ Sat B (C' ++ F) w':=by
 obtain ⟨fn,tmps,assign,body,hr,hR⟩:=h (B.with F) w (hx.trans (Ext.with hs)) hs.frameIn
 exact ⟨fn,tmps,assign,body,hr,hR.mono fun _ _ ⟨v,A',he,hR,hS⟩=>⟨v,A',he,hR,hs.frameOut hS⟩⟩
theorem YCon.mono {P:Program} {B0:Base} {l:Nat} {args:List Value} {C:List Blk} {R R':Value → List Blk → Prop} (h:YCon P B0 l args C R) (hr:∀ v C',R v C' → R' v C'):YCon P B0 l args C R':=fun B w hx hs=>by
 obtain ⟨fn,tmps,assign,body,hr',hR⟩:=h B w hx hs
 exact ⟨fn,tmps,assign,body,hr',hR.mono fun _ _ ⟨v,A',he,hR,hS⟩=>⟨v,A',he,hr _ _ hR,hS⟩⟩
def IterC {X:Type} (P:Program) (gf:FuncId) (lb:List Value) (enc:X → List Value) (Ok Done:List X → Prop) (AI G:List Blk):Prop :=
 ∀ (B0:Base) (l:Nat) (Y Z:List X → List Blk → Prop),(∀ C,Y [] C → ∃ F,C.Perm (G ++ F)) →
  (∀ pre x,Ok (pre ++ [x]) → ∀ C,Y pre C → YCon P B0 l (enc x) C fun v C'=>(v = .bool true ∧ Y (pre ++ [x]) C') ∨ (v = .bool false ∧ Z (pre ++ [x]) C')) →
  ∀ C,Y [] C → ConB P B0 gf (.func (.yield l) #[] #[] :: lb).toArray (AI ++ C) fun _ A'=>∃ C',((∃ xs,Done xs ∧ Y xs C') ∨ ∃ pre,Z pre C') ∧ A' = AI ++ C'
section
variable {P:Program} {N:Fi} {B:Base} {Q:Exit → Act → World → Prop} {T:Tm} {A:List Blk} {ops:Array Oper} {l:List Oper}
variable {d:Nat} {ty:TypeId} {pos:String} {af:Array Edge} {m:Md} {gd:Option (Nat × Bool)}
theorem Ops.callY {B0:Base} {lp:Nat} {c:Operand} {xs:List Operand} {ats:Array TypeId} {vs:List Value} {A1 F:List Blk} {R:Value → List Blk → Prop} (h:YCon P B0 lp vs A1 R) (hx0:Ext B0 B) (hm:m.eff = true) [hs:Split A A1 F] (hp:Pd P N B ops m T (some d) (CallR R F)) (hg:gst ops T gd = some true)
  (hc:ev T c = some (.func (.yield lp) #[] #[])) (hx:evs T xs = some vs) (hd:Nat.blt d N.n = true) (k:∀ v A',R v A' → Ops P N B Q ops m.tl l ((d,v) :: T) (A' ++ F)) :
  Ops P N B Q ops m (⟨some d,.call { callee:=.value c,args:=xs.toArray,argTypes:=ats },ty,pos,af,gd⟩ :: l) T A :=
 Ops.effV hm hp hg hd (fun a w hF hS=>by
  obtain ⟨fn,tmps,assign,body,hr,hR⟩:=h.frame hx0 (hS.perm hs.perm)
  have:(execOp a.eval ⟨some d,.call { callee:=.value c,args:=xs.toArray,argTypes:=ats },ty,pos,af,gd⟩).run P w = .ok (.round lp fn tmps assign body) w:=by
   simp [execOp,resolve,hF.eval hc,Deferred.ofValue,invoke,hF.evals hx,hr]
  rw [this]
  exact hR.mono fun e w' ⟨v,A',he,hR,hS'⟩=>⟨v,_,he,⟨A',hR,rfl⟩,hS'⟩) fun v X ⟨A',hR,hX⟩=>by rw [hX];exact k v A' hR
theorem Ops.callB {B0:Base} {f:FuncId} {xs:List Operand} {ats:Array TypeId} {vs:List Value} {A1 F:List Blk} {R:Value → List Blk → Prop} (h:ConB P B0 f vs.toArray A1 R) (hx0:Ext B0 B) (hm:m.eff = true) [hs:Split A A1 F] (hp:Pd P N B ops m T (some d) (CallR R F)) (hg:gst ops T gd = some true)
  [hf:FnOk P f] (hx:evs T xs = some vs) (hd:Nat.blt d N.n = true) (k:∀ v A',R v A' → Ops P N B Q ops m.tl l ((d,v) :: T) (A' ++ F)) :
  Ops P N B Q ops m (⟨some d,.call { callee:=.value (.func f),args:=xs.toArray,argTypes:=ats },ty,pos,af,gd⟩ :: l) T A :=
 Ops.effV hm hp hg hd (fun a w hF hS=>by
  have:(execOp a.eval ⟨some d,.call { callee:=.value (.func f),args:=xs.toArray,argTypes:=ats },ty,pos,af,gd⟩).run P w = .ok (.enter f vs.toArray) w:=by
   simp [execOp,resolve,Act.eval,Deferred.ofValue,invoke,run_callFunc hf,hF.evals hx]
  rw [this]
  exact (h.frame hx0 (hS.perm hs.perm)).mono fun e w' ⟨v,A',he,hR,hS'⟩=>⟨v,_,he,⟨A',hR,rfl⟩,hS'⟩) fun v X ⟨A',hR,hX⟩=>by rw [hX];exact k v A' hR
theorem ConB.intro {P:Program} {B0:Base} {f:FuncId} {fn:Func} {c:Code} {K:Nat} {vs:List Value} {A:List Blk} {R:Value → List Blk → Prop} (hf:P.funcs[f]? = some fn) (hb:fn.body = some c) (hN:fn.ntmps = K)
  (hle:Nat.ble vs.length K = true) (h:∀ B:Base,Ext B0 B.plain → Cd P ⟨K,[]⟩ B.plain (post P fn B.plain R) c (slots 0 vs) A):ConB P B0 f vs.toArray A R:=by
 intro B w he hS
 have hle':vs.length ≤ K:=by simpa [Nat.ble_eq] using hle
 refine Calls.mono (callsIn_wide.1 (callsIn_of_wp_marks hf hb trivial (h B he.plain _ w ⟨by simp [hN];omega,rfl,fun i v hi=>?_⟩ ⟨hS.os,hS.tape,hS.output,hS.base,hS.here,hS.apart,hS.nodup⟩) rfl)) fun e w' ⟨v,A',he,hR,hS'⟩=>⟨v,A',he,hR,hS'.os,hS'.tape,hS'.output,hS'.base,hS'.here,hS'.apart,hS'.nodup⟩
 obtain ⟨j,hj,hv⟩:=look_slots _ _ _ _ hi
 simp only [Nat.zero_add] at hj
 subst hj
 have hlt:i < vs.length:=(List.getElem?_eq_some_iff.1 hv).1
 simp only [Array.getElem?_append_left (show i < vs.toArray.size by simpa using hlt)]
 simpa using hv
def RndQ {X:Type} (B:Base) (Y:List X → List Blk → Prop) (Z:Code → List X → List Blk → Prop) (xs:List X):Exit → Act → World → Prop
 | .normal,_,w=>∃ C,Y xs C ∧ Sat B C w
 | .ret,_,w=>∃ C,Z .ret xs C ∧ Sat B C w
 | .exit id,_,w=>∃ C,Z (.exit id) xs C ∧ Sat B C w
 | .goto t,_,w=>∃ C,Z (.goto t) xs C ∧ Sat B C w
 | _,_,_=>False
def AsgQ (N:Fi) (B:Base) (S:Tm → List Blk → Prop):Exit → Act → World → Prop
 | .normal,a,w=>∃ T C,S T C ∧ Fr N T a ∧ Sat B C w
 | _,_,_=>False
theorem asg_end {S:Tm → List Blk → Prop} {A':List Blk} {T':Tm} (hS:S T' A') (hT:∀ a,Fr N T a → Fr N T' a) (hA:∀ w,Sat B A w → Sat B A' w):∀ a w,Fr N T a → Sat B A w → AsgQ N B S .normal a w :=
 fun a w hF hS'=>⟨T',A',hS,hT a hF,hA w hS'⟩
theorem rnd_next {X:Type} {Y:List X → List Blk → Prop} {Z:Code → List X → List Blk → Prop} {xs:List X} {A':List Blk} (hY:Y xs A') (hA:∀ w,Sat B A w → Sat B A' w):∀ a w,Fr N T a → Sat B A w → RndQ B Y Z xs .normal a w :=
 fun a w hF hS=>⟨A',hY,hA w hS⟩
theorem rnd_ret {X:Type} {Y:List X → List Blk → Prop} {Z:Code → List X → List Blk → Prop} {xs:List X} {A':List Blk} (hZ:Z .ret xs A') (hA:∀ w,Sat B A w → Sat B A' w):∀ a w,Fr N T a → Sat B A w → RndQ B Y Z xs .ret a w :=
 fun a w hF hS=>⟨A',hZ,hA w hS⟩
def parS:List Nat → List Value → Tm → Tm
 | p :: ps,v :: vs,T=>parS ps vs ((p,v) :: T)
 | _,_,T=>T
theorem fr_par {n:Nat}:∀ (ps:List Nat) (vs:List Value) (T:Tm) (tm:Array Value),(ps.all fun p=>Nat.blt p n) = true → Fr ⟨n,[]⟩ T ⟨tm,[]⟩ →
  Fr ⟨n,[]⟩ (parS ps vs T) ⟨(ps.zip vs).foldl (fun t (p,v)=>t.setIfInBounds p v) tm,[]⟩
 | [],_,_,_,_,h=>h
 | _ :: _,[],_,_,_,h=>h
 | p :: ps,v :: vs,T,tm,hp,h=>by
  simp only [List.all_cons,Bool.and_eq_true] at hp
  simp only [parS,List.zip_cons_cons,List.foldl_cons]
  exact fr_par ps vs _ _ hp.2 (h.put (d:=p) hp.1 v)
theorem Cd.range {X:Type} {g:Operand} {ps:List Nat} {assign body:Code} {gf:FuncId} {lb:List Value} {enc:X → List Value} {Ok Done:List X → Prop} {AI C0 G:List Blk}
  (hit:IterC P gf lb enc Ok Done AI G) (hro:B.round = none) (hg:ev T g = some (.func (.func gf) #[] lb.toArray)) [hfn:FnOk P gf] (hpsn:(ps.all fun p=>Nat.blt p N.n) = true) (hps:∀ x,(enc x).length = ps.length)
  (Y:List X → List Blk → Prop) (Z:Code → List X → List Blk → Prop) (S:List X → X → Tm → List Blk → Prop) (hA:∀ w,Sat B A w → Sat B (AI ++ C0) w) (h0:Y [] C0) (hG:∀ C,Y [] C → ∃ F,C.Perm (G ++ F))
  (hassign:∀ (B2:Base) pre x C,Ext B B2 → Ok (pre ++ [x]) → Y pre C → Cd P ⟨N.n,[]⟩ B2 (AsgQ ⟨N.n,[]⟩ B2 (S pre x)) assign (parS ps (enc x) T) C)
  (hbody:∀ (lp:Nat) (r:Loop) (B2:Base) pre x T' C,B2.round = some lp → B2.h lp = some (.loop r) → Ext B B2 → Ok (pre ++ [x]) → S pre x T' C → Cd P ⟨N.n,[]⟩ B2 (RndQ B2 Y Z (pre ++ [x])) body T' C)
  (hdone:∀ D xs C,B.h D = none → Done xs → Y xs C → ∀ a w,Fr ⟨N.n,mark D :: N.ds⟩ T a → Sat (B.mark D) (AI ++ C) w → Q .normal a w)
  (hstop:∀ D c pre C,B.h D = none → Z c pre C → Cd P ⟨N.n,mark D :: N.ds⟩ (B.mark D) Q c T (AI ++ C)) :
  Cd P N B Q (.rangeFunc g ps.toArray assign body) T A:=by
 intro a w hF hS
 refine wpIn_rangeFunc ?_
 intro fn hfn'
 rw [show (fen B).round = none from hro]
 obtain ⟨rec,hrec⟩:∃ rec:LoopState → Option Code → Loop,rec = fun st pe=>{ state:=st,pending:=pe,fn,tmps:=a.tmps,params:=ps.toArray,assign,body,defers:=w.heap.size }:=⟨_,rfl⟩
 have hS1:Sat B ((w.heap.size + 1,.loop (rec .ready none)) :: (w.heap.size,.deferred (some [])) :: (AI ++ C0)) ((w.alloc (.deferred (some []))).alloc (.loop (rec .ready none))):=by
  have h1:=((hA w hS).alloc (.deferred (some []))).alloc (.loop (rec .ready none))
  rwa [World.size_alloc] at h1
 have hD:B.h w.heap.size = none:=hS1.apart (w.heap.size,.deferred (some [])) (by simp)
 have hl0:B.h (w.heap.size + 1) = none:=hS1.apart (w.heap.size + 1,.loop (rec .ready none)) (by simp)
 generalize hlp:w.heap.size + 1 = lp at *
 generalize hDD:w.heap.size = D at *
 have hS2:Sat (B.mark D) (AI ++ (lp,.loop (rec .ready none)) :: C0) ((w.alloc (.deferred (some []))).alloc (.loop (rec .ready none))):=by
  have h2:Sat B ((D,.deferred (some [])) :: (lp,.loop (rec .ready none)) :: (AI ++ C0)) _:=hS1.perm (.swap ..)
  exact h2.add.perm List.perm_middle.symm
 generalize hW1:(w.alloc (.deferred (some []))).alloc (.loop (rec .ready none)) = W1 at *
 refine ⟨lp,[mark D],W1,{ target:=.fn (.func gf) lb.toArray,args:=#[.func (.yield lp) #[] #[]] },W1,gf,#[.func (.yield lp) #[] #[]] ++ lb.toArray,W1,?_,?_,fun _ _=>trivial,?_,fun h=>by simp [fen] at h,?_⟩
 ·rw [← hW1,← hlp,← hDD,hrec,← hDD];exact run_enterLoop_outer _ _ _ _ _
 ·simp only [resolve,hF.eval hg]
  simp [go_sem]
 ·simp [invoke,go_sem,run_callFunc hfn]
 have hargs:(#[.func (.yield lp) #[] #[]] ++ lb.toArray:Array Value) = (.func (.yield lp) #[] #[] :: lb).toArray:=by simp
 rw [hargs]
 refine (callsIn_fen B).2 ((hit (B.mark D) lp (fun pre C'=>∃ C,C' = (lp,.loop (rec .ready none)) :: C ∧ Y pre C) (fun pre C'=>∃ c C,C' = (lp,.loop (rec .done (some c))) :: C ∧ Z c pre C) ?_ ?_ _ ⟨C0,rfl,h0⟩ (B.mark D) W1 (Ext.refl _) hS2).mono ?_)
 ·rintro C' ⟨C,rfl,hY⟩
  obtain ⟨F,hp⟩:=hG C hY
  exact ⟨(lp,.loop (rec .ready none)) :: F,(hp.cons _).trans List.perm_middle.symm⟩
 ·
  rintro pre x hok C' ⟨C,rfl,hY⟩ B1 W hx1 hSW
  have hl:=hSW.here (lp,.loop (rec .ready none)) (List.mem_cons_self ..)
  have hlB:B1.h lp = none:=hSW.apart (lp,.loop (rec .ready none)) (List.mem_cons_self ..)
  have hy:=run_yield (P:=P) (args:=(enc x).toArray) hl (by rw [hrec];simpa using hps x)
  rw [hrec] at hy
  refine ⟨fn,_,assign,body,hy,roundIn_of_wpIn trivial ?_⟩
  have hxB:Ext B B1:=(Ext.add hD).trans hx1
  have hxa:=hxB.trans (Ext.add (o:=.loop (rec .ready none)) hlB)
  have asg:=hassign { B1.add lp (.loop (rec .ready none)) with round:=some lp } pre x C ⟨hxa.h,hxa.os,hxa.tape,hxa.output⟩ hok hY
   { tmps:=((ps.toArray.zip (enc x).toArray).foldl (fun t (p,v)=>t.setIfInBounds p v) a.tmps),defers:=[] } W (by
    have:=fr_par ps (enc x) T a.tmps hpsn ⟨hF.size,rfl,hF.get⟩
    simpa using this) ⟨hSW.add.os,hSW.add.tape,hSW.add.output,hSW.add.base,hSW.add.here,hSW.add.apart,hSW.add.nodup⟩
  refine wpIn_mono asg ?_
  rintro e a1 W2 hq
  cases e with
  | normal =>
   obtain ⟨T',C2,hST,hF2,hS3⟩:=hq
   have hS3':Sat (B1.add lp (.loop (rec .ready none))) C2 W2:=⟨hS3.os,hS3.tape,hS3.output,hS3.base,hS3.here,hS3.apart,hS3.nodup⟩
   have hS4:=(hS3'.unadd hlB)
   have hl2:=hS4.here (lp,.loop (rec .ready none)) (List.mem_cons_self ..)
   have hS5:=hS4.putHead (o':=.loop { rec .ready none with state:=.busy })
   refine ⟨_,run_beginRound hl2 (by rw [hrec]),?_⟩
   have hxb:=hxB.trans (Ext.add (o:=.loop { rec .ready none with state:=.busy }) hlB)
   have hb:=hbody lp { rec .ready none with state:=.busy } { B1.add lp (.loop { rec .ready none with state:=.busy }) with round:=some lp } pre x T' C2 rfl (by simp [Base.add]) ⟨hxb.h,hxb.os,hxb.tape,hxb.output⟩ hok hST a1 _ hF2
    ⟨hS5.add.os,hS5.add.tape,hS5.add.output,hS5.add.base,hS5.add.here,hS5.add.apart,hS5.add.nodup⟩
   refine wpIn_mono hb ?_
   have fin:∀ (jump:Option Code) (C3:List Blk) (W3:World),Sat { B1.add lp (.loop { rec .ready none with state:=.busy }) with round:=some lp } C3 W3 →
     (Instr.endRound lp jump).run P W3 = .ok (.bool jump.isNone) (W3.putObj lp (.loop (rec (if jump.isNone then .ready else .done) jump))) ∧
     Sat B1 ((lp,.loop (rec (if jump.isNone then .ready else .done) jump)) :: C3) (W3.putObj lp (.loop (rec (if jump.isNone then .ready else .done) jump))):=fun jump C3 W3 h3=>by
    have h3':Sat (B1.add lp (.loop { rec .ready none with state:=.busy })) C3 W3:=⟨h3.os,h3.tape,h3.output,h3.base,h3.here,h3.apart,h3.nodup⟩
    have h4:=h3'.unadd hlB
    have hl3:=h4.here _ (List.mem_cons_self ..)
    have:=run_endRound (P:=P) jump hl3
    rw [hrec] at this ⊢
    refine ⟨this,?_⟩
    have h5:=h4.putHead (o':=.loop (rec (if jump.isNone then .ready else .done) jump))
    rw [hrec] at h5
    exact h5
   rintro e a3 W3 hp
   cases e with
   | normal =>
    obtain ⟨C3,hY3,h3⟩:=hp
    obtain ⟨hr,hS6⟩:=fin none C3 W3 h3
    exact ⟨_,_,hr,_,_,rfl,.inl ⟨rfl,C3,rfl,hY3⟩,hS6⟩
   | ret =>
    obtain ⟨C3,hY3,h3⟩:=hp
    obtain ⟨hr,hS6⟩:=fin (some .ret) C3 W3 h3
    exact ⟨_,_,hr,_,_,rfl,.inr ⟨rfl,_,C3,rfl,hY3⟩,hS6⟩
   | exit id =>
    obtain ⟨C3,hY3,h3⟩:=hp
    obtain ⟨hr,hS6⟩:=fin (some (.exit id)) C3 W3 h3
    exact ⟨_,_,hr,_,_,rfl,.inr ⟨rfl,_,C3,rfl,hY3⟩,hS6⟩
   | goto t =>
    obtain ⟨C3,hY3,h3⟩:=hp
    obtain ⟨hr,hS6⟩:=fin (some (.goto t)) C3 W3 h3
    exact ⟨_,_,hr,_,_,rfl,.inr ⟨rfl,_,C3,rfl,hY3⟩,hS6⟩
   | panic ch=>exact hp.elim
   | outgrown=>exact hp.elim
  | ret=>exact hq.elim
  | exit id=>exact hq.elim
  | goto t=>exact hq.elim
  | panic ch=>exact hq.elim
  | outgrown=>exact hq.elim
 ·
  rintro e W2 ⟨v,A',rfl,⟨C',hC',rfl⟩,hS7⟩
  have hF9:Fr ⟨N.n,mark D :: N.ds⟩ T { a with defers:=mark D :: a.defers }:=⟨hF.size,by simp [hF.dfr],hF.get⟩
  have fin2:∀ (st:LoopState) (pe:Option Code) (C:List Blk),st ≠ .busy → Sat (B.mark D) (AI ++ (lp,.loop (rec st pe)) :: C) W2 →
    (Instr.endLoop lp).run P W2 = .ok pe (W2.putObj lp (.loop { rec st pe with state:=.exhausted })) ∧ Sat (B.mark D) (AI ++ C) (W2.putObj lp (.loop { rec st pe with state:=.exhausted })):=fun st pe C hst h8=>by
   have h9:Sat (B.mark D) ((lp,.loop (rec st pe)) :: (AI ++ C)) W2:=h8.perm List.perm_middle
   have hl9:=h9.here _ (List.mem_cons_self ..)
   have:=run_endLoop (P:=P) hl9 (by rw [hrec];exact hst)
   refine ⟨?_,(h9.putHead (o':=.loop { rec st pe with state:=.exhausted })).tail⟩
   rw [hrec] at this ⊢
   exact this
  rcases hC' with ⟨xs,hdn,C,rfl,hY⟩|⟨pre,c,C,rfl,hZ⟩
  ·obtain ⟨hr,h9⟩:=fin2 .ready none C (by simp) hS7
   exact ⟨none,_,hr,hdone D xs C hD hdn hY _ _ hF9 h9⟩
  ·obtain ⟨hr,h9⟩:=fin2 .done (some c) C (by simp) hS7
   exact ⟨some c,_,hr,hstop D c pre C hD hZ _ _ hF9 h9⟩
end
end Go.Sep
namespace Go.Sep
open Go
instance (priority:=700) RemL.single {A A':List Blk} {p:Blk} [h:Rem A p A']:RemL A [p] A':=⟨h.perm⟩
theorem perm_of {l1 l2:List Blk} (h:∀ (c:List Blk → Nat) (g:Blk → Nat),(∀ x y,c (x ++ y) = c x + c y) → (∀ p x,c (p :: x) = g p + c x) → (∀ x y,x.Perm y → c x = c y) → c [] = 0 → c l1 = c l2):l1.Perm l2:=by
 haveI:DecidableEq Blk:=fun a b=>Classical.propDecidable (a = b)
 exact List.perm_iff_count.2 fun a=>h (fun l=>l.count a) (fun p=>if p == a then 1 else 0) (fun x y=>List.count_append) (fun p x=>by rw [List.count_cons,Nat.add_comm]) (fun x y hp=>hp.count_eq a) rfl
theorem Ops.mkF {P:Program} {N:Fi} {B:Base} {Q:Exit → Act → World → Prop} {T:Tm} {A:List Blk} {ops:Array Oper} {l:List Oper} {d:Nat} {ty:TypeId} {pos:String} {af:Array Edge} {m:Md} {gd:Option (Nat × Bool)} {f:Fn} {xs ys:List Operand} {vs us:List Value}
  (hm:m.rd true = true) (hg:gst ops T gd = some true) (hx:evs T xs = some vs) (hy:evs T ys = some us) (hd:Nat.blt d N.n = true) (k:Ops P N B Q ops m.tl l ((d,.func f vs.toArray us.toArray) :: T) A) :
  Ops P N B Q ops m (⟨some d,.makeFunc f xs.toArray ys.toArray,ty,pos,af,gd⟩ :: l) T A :=
 Ops.pureV hm hg hd (fun a w hF=>by
  have h1:(xs.toArray.map a.eval) = vs.toArray:=by rw [← hF.evals hx];simp
  have h2:(ys.toArray.map a.eval) = us.toArray:=by rw [← hF.evals hy];simp
  simp [execOp,Instr.makeFunc,hF.evals hx,hF.evals hy]) k
theorem mark1 {B:Base} {D:Nat} (h:B.h D = none):MarksOk B [D]:=⟨h,trivial⟩
theorem inB {N:Fi} {B:Base} {T:Tm} {A:List Blk} {Q:Exit → Act → World → Prop} {id:Nat} (h:∀ a w,Fr N T a → Sat B A w → Q .normal a w):∀ a w,Fr N T a → Sat B A w → Exit.inBlock id Q .normal a w:=h
theorem inBr {N:Fi} {B:Base} {T:Tm} {A:List Blk} {Q:Exit → Act → World → Prop} {id:Nat} (h:∀ a w,Fr N T a → Sat B A w → Q .ret a w):∀ a w,Fr N T a → Sat B A w → Exit.inBlock id Q .ret a w:=h
theorem map_set_same {α β:Type} {f:α → β} {l:List α} {j:Nat} {x y:α} (h:l[j]? = some x) (e:f y = f x):(l.set j y).map f = l.map f:=by
 rw [List.map_set,e]
 apply List.ext_getElem?
 intro q
 by_cases hq:j = q
 ·subst hq
  have hl:=(List.getElem?_eq_some_iff.1 h).1
  rw [List.getElem?_set_self (by simpa using hl),List.getElem?_map,h];rfl
 ·rw [List.getElem?_set_ne hq]
theorem rows_map {α:Type} {sz:Nat} {f:α → List Value} (h:∀ x,(f x).length = sz ∧ oneAll (f x) = true) (l:List α):RowsOk sz (l.map f):=fun r hr=>by
 obtain ⟨x,_,rfl⟩:=List.mem_map.1 hr
 exact h x
end Go.Sep
namespace Go.Sep
open Go
section
variable {P:Program} {N:Fi} {B:Base} {Q:Exit → Act → World → Prop} {T:Tm} {A:List Blk} {ops:Array Oper} {l:List Oper}
end
end Go.Sep
