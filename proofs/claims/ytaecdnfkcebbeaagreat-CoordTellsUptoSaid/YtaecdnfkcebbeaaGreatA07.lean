import Derived.Test.YtaecdnfkcebbeaaGreatA06
import Derived.ProofKit
import Derived.Deep.Slices
import Derived.SizedLaws
set_option linter.unusedVariables false
set_option linter.unusedSimpArgs false
namespace Go.Sep
open Go
inductive LK where
 | int (k:IntKind)
 | str
 | bool
def CellK:LK → Value → Prop
 | .int k,v=>∃ n,v = .int k n ∧ (Lit.int k n).wf = true
 | .str,v=>∃ s,v = .string s ∧ s.size ≤ maxLen
 | .bool,v=>∃ b,v = .bool b
def AllK:List LK → List Value → Prop
 | [],[]=>True
 | k :: ks,v :: vs=>CellK k v ∧ AllK ks vs
 | _,_=>False
theorem AllK.len:∀ {ks:List LK} {vs:List Value},AllK ks vs → vs.length = ks.length
 | [],[],_=>rfl
 | _ :: ks,_ :: vs,h=>by simp [AllK.len (ks:=ks) (vs:=vs) h.2]
 | [],_ :: _,h=>h.elim
 | _ :: _,[],h=>h.elim
theorem AllK.app:∀ {ks ks':List LK} {vs vs':List Value},AllK ks vs → AllK ks' vs' → AllK (ks ++ ks') (vs ++ vs')
 | [],_,[],_,_,h'=>h'
 | _ :: ks,_,_ :: vs,_,h,h'=>⟨h.1,AllK.app (ks:=ks) (vs:=vs) h.2 h'⟩
 | [],_,_ :: _,_,h,_=>h.elim
 | _ :: _,_,[],_,h,_=>h.elim
class FlatT (P:Program) (t:TypeId) (ks:outParam (List LK)):Prop where
 open_:∀ {H:Type} {enc:TypeId × Value → H} {w:World} {base:Nat} {spare:Nat → Bool} {held:Bool} {fuel:Nat} {cs:List Value} {x:DataW H × List MemPlace},
  DataW.trod enc P w base spare held fuel t cs = some x → AllK ks cs
class FlatF (P:Program) (fl:List (TypeId × Nat)) (start:Nat) (ks:outParam (List LK)):Prop where
 open_:∀ {H:Type} {enc:TypeId × Value → H} {w:World} {base:Nat} {spare:Nat → Bool} {held:Bool} {cs:List Value},
  (∀ p ∈ fl,∃ (n:Nat) (y:DataW H × List MemPlace),DataW.trod enc P w base spare held n p.1 ((cs.drop p.2).take (P.cellsOf p.1)) = some y) → AllK ks ((cs.drop start).take ks.length)
section
variable {P:Program} {t:TypeId}
instance FlatT.int {k:IntKind} [h:TyD P t (.int k)]:FlatT P t [.int k]:=⟨fun ht=>by
 obtain ⟨n,rfl,_,hw⟩:=DataW.trod_int h.und ht
 exact ⟨⟨n,rfl,hw⟩,trivial⟩⟩
instance FlatT.str [h:TyD P t .string]:FlatT P t [.str]:=⟨fun ht=>by
 obtain ⟨s,rfl,_,hs⟩:=DataW.trod_string h.und ht
 exact ⟨⟨s,rfl,hs⟩,trivial⟩⟩
instance FlatT.bool [h:TyD P t .bool]:FlatT P t [.bool]:=⟨fun ht=>by
 obtain ⟨b,rfl,_⟩:=DataW.trod_bool h.und ht
 exact ⟨⟨b,rfl⟩,trivial⟩⟩
instance FlatF.nil {start:Nat}:FlatF P [] start []:=⟨fun _=>by simp [AllK]⟩
theorem take_len {l:List Value} {n m:Nat} (h:(l.take n).length = m):l.take n = l.take m:=by
 rw [List.length_take] at h
 rcases Nat.le_total n l.length with h1|h1
 ·rw [show n = m from by omega]
 ·rw [List.take_of_length_le h1,List.take_of_length_le (by omega)]
theorem FlatF.step {ft start nx:Nat} {fl:List (TypeId × Nat)} {k1 k2:List LK} (h1:FlatT P ft k1) (h2:FlatF P fl nx k2) (hn:nx = start + k1.length):FlatF P ((ft,start) :: fl) start (k1 ++ k2):=⟨fun {_ _ _ _ _ _ cs} h=>by
 obtain ⟨n,y,hy⟩:=h (ft,start) (List.mem_cons_self ..)
 have a1:=h1.open_ hy
 have a2:=h2.open_ fun p hp=>h p (List.mem_cons_of_mem _ hp)
 rw [take_len a1.len] at a1
 subst hn
 rw [List.length_append,List.take_add]
 refine a1.app ?_
 rwa [List.drop_drop]⟩
class LKLen (ks:List LK) (n:Nat):Prop where
 eq:ks.length = n
instance LKLen.z:LKLen [] 0:=⟨rfl⟩
instance LKLen.s {k:LK} {ks:List LK} {n:Nat} [h:LKLen ks n]:LKLen (k :: ks) (n + 1):=⟨by simp [h.eq]⟩
instance FlatF.cons1 {ft start:Nat} {fl:List (TypeId × Nat)} {k:LK} {k2:List LK} [h1:FlatT P ft [k]] [h2:FlatF P fl (start + 1) k2]:FlatF P ((ft,start) :: fl) start (k :: k2):=FlatF.step h1 h2 rfl
instance (priority:=900) FlatF.cons2 {ft start:Nat} {fl:List (TypeId × Nat)} {k k':LK} {k2:List LK} [h1:FlatT P ft [k,k']] [h2:FlatF P fl (start + 2) k2]:FlatF P ((ft,start) :: fl) start (k :: k' :: k2):=FlatF.step h1 h2 rfl
def flB (P:Program) (t:TypeId):Option (List (TypeId × Nat)) :=
 match P.underlying t with
 | some (.struct fields)=>some (fields.toList.map fun f=>(f.type,f.offset))
 | _=>none
class FlS (P:Program) (t:TypeId) (fl:outParam (List (TypeId × Nat))):Prop where
 eq:flB P t = some fl
instance FlatT.struct {fl:List (TypeId × Nat)} {ks:List LK} {sz bs:Nat} {zc:List Value} [h:FlS P t fl] [hf:FlatF P fl 0 ks] [ht:Ty P t true sz bs zc] [hn:LKLen ks sz]:FlatT P t ks:=⟨fun {_ _ _ _ _ _ _ cs _} hx=>by
 have h1:=h.eq
 unfold flB at h1
 split at h1
 ·rename_i fields hu
  injection h1 with h1
  obtain ⟨xs,n,_,_,hlen,hxl,hat⟩:=DataW.trod_struct hu hx
  have hc:P.cellsOf t = sz:=by
   obtain ⟨i,z,hi,_,_,hs,_⟩:=ht.get
   simp [Program.cellsOf,hi,hs]
  have key:=hf.open_ (cs:=cs) fun p hp=>by
   rw [← h1] at hp
   obtain ⟨f,hfm,rfl⟩:=List.mem_map.1 hp
   obtain ⟨i,hi⟩:=List.getElem?_of_mem hfm
   have hi':fields[i]? = some f:=by simpa using hi
   have hlt:i < xs.length:=by rw [hxl];exact (Array.getElem?_eq_some_iff.1 hi').1
   exact ⟨n,xs[i],(hat i f hi').trans (List.getElem?_eq_getElem hlt)⟩
  rw [List.drop_zero,List.take_of_length_le (by rw [hlen,hc,hn.eq];exact Nat.le_refl _)] at key
  exact key
 ·cases h1⟩
end
theorem exists_list {α:Type} {p:Nat → α → Prop}:∀ (n:Nat),(∀ i,i < n → ∃ x,p i x) → ∃ l:List α,l.length = n ∧ ∀ i x,l[i]? = some x → p i x
 | 0,_=>⟨[],rfl,fun i x h=>by simp at h⟩
 | n + 1,h=>by
  obtain ⟨l,hl,hp⟩:=exists_list n fun i hi=>h i (by omega)
  obtain ⟨x,hx⟩:=h n (by omega)
  refine ⟨l ++ [x],by simp [hl],fun i y hy=>?_⟩
  rcases Nat.lt_or_ge i l.length with hi|hi
  ·rw [List.getElem?_append_left hi] at hy
   exact hp i y hy
  ·rw [List.getElem?_append_right hi] at hy
   have:i - l.length = 0:=by
    rcases Nat.eq_zero_or_pos (i - l.length) with h0|h0
    ·exact h0
    ·rw [List.getElem?_eq_none (by simp;omega)] at hy;cases hy
   rw [this] at hy
   simp only [List.getElem?_cons_zero,Option.some.injEq] at hy
   subst hy
   rw [show i = n from by omega]
   exact hx
def InRows (w:World) (sz:Nat) (ks:List LK) (a:Option Addr) (len:Nat):Prop :=
 ∀ i,i < len → ∃ (b o:Nat) (cs:List Value),a = some ⟨b,o,none⟩ ∧ cs.length = sz ∧ AllK ks cs ∧ ∀ j u,cs[j]? = some u → w.cell? ⟨b,o + i * sz + j,none⟩ = some u
theorem cell_spot {w:World} {b o:Nat} {s:Option Nat} {u:Value} (h:w.cell? ⟨b,o,s⟩ = some u):s = none:=by
 cases s with
 | none=>rfl
 | some x =>
  unfold World.cell? at h
  split at h <;> simp at h
theorem in_rows {H:Type} {enc:TypeId × Value → H} {P:Program} {w:World} {base:Nat} {spare:Nat → Bool} {held:Bool} {t e:TypeId} {fuel:Nat} {x:DataW H × List MemPlace} {a:Option Addr} {len cap:Nat} {g:Bool} {sz bs:Nat} {zc:List Value} {ks:List LK}
  (ht:P.underlying t = some (.slice e)) (he:Ty P e g sz bs zc) (hk:FlatT P e ks) (hsz:0 < sz) (h:DataW.trod enc P w base spare held fuel t [.slice a len cap] = some x) (hsp:∀ b,spare b = true) :
  InRows w sz ks a len ∧ (x.1 = .nil ∧ len = 0 ∨ ∃ el sp,x.1 = .slice el sp ∧ el.length = len ∧ len ≤ el.length + sp.length):=by
 have hc:P.cellsOf e = sz:=by
  obtain ⟨i,z,hi,_,_,hs,_⟩:=he.get
  simp [Program.cellsOf,hi,hs]
 rcases Go.Deep.open_slice ht h with ⟨h1,rfl⟩|⟨a',len',cap',m,n,D,Pl,hcs,hb,hl,hm,hmm,rfl,hi⟩
 ·simp only [List.cons.injEq,Value.slice.injEq,and_true] at h1
  obtain ⟨rfl,rfl,rfl⟩:=h1
  exact ⟨fun i hi=>absurd hi (by omega),.inl ⟨rfl,rfl⟩⟩
 ·simp only [List.cons.injEq,Value.slice.injEq,and_true] at hcs
  obtain ⟨rfl,rfl,rfl⟩:=hcs
  rw [hsp,if_pos rfl] at hmm
  subst hmm
  refine ⟨fun i him=>?_,.inr ⟨_,_,rfl,by simp,by simp⟩⟩
  obtain ⟨cs',hcl,htr⟩:=hi i (by omega)
  rw [hc] at hcl
  obtain ⟨_,hlen,hat⟩:=World.cells?_some hcl
  have hall:=hk.open_ htr
  obtain ⟨b,o,s⟩:=a'
  have h0:∃ u,w.cell? ⟨b,o,s⟩ = some u:=by
   obtain ⟨cs0,hcl0,_⟩:=hi 0 (by omega)
   rw [hc] at hcl0
   obtain ⟨_,hlen0,hat0⟩:=World.cells?_some hcl0
   have:=hat0 0 hsz
   rw [Nat.zero_mul] at this
   simp only [Addr.add,if_true] at this
   exact ⟨_,this.trans (List.getElem?_eq_getElem (by omega))⟩
  obtain ⟨u0,hu0⟩:=h0
  obtain rfl:=cell_spot hu0
  refine ⟨b,o,cs',rfl,hlen,hall,fun j u hu=>?_⟩
  have hj:j < sz:=by rw [← hlen];exact (List.getElem?_eq_some_iff.1 hu).1
  have:=hat j hj
  rw [add_none,add_none,hu] at this
  exact this
end Go.Sep
namespace Go.Sep
open Go
def Reads (P:Program) (B:Base) (A:List Blk) (sz:Nat) (yv:Value) (news:List (List Value)):Prop :=
 RowsOk sz news ∧ (∃ a c,yv = .slice a news.length c) ∧ ∀ w,Sat B A w → (Builtin.firstCells sz news.length yv).run P w = .ok news.flatten.toArray w
theorem Own.empty {e sz b:Nat}:Own e sz (.slice (some ⟨b,0,.none⟩) 0 0) [] [(b,cl [] e)]:=⟨RowsOk.nil,.inr ⟨b,0,[],rfl,rfl,by simp,Nat.le_refl _⟩⟩
section
variable {P:Program} {N:Fi} {B:Base} {Q:Exit → Act → World → Prop} {T:Tm} {A:List Blk} {ops:Array Oper} {l:List Oper}
variable {d:Nat} {ty:TypeId} {pos:String} {af:Array Edge} {m:Md} {gd:Option (Nat × Bool)}
theorem Reads.none {sz:Nat} {a:Option Addr} {c:Nat}:Reads P B A sz (.slice a 0 c) []:=by
 refine ⟨RowsOk.nil,⟨a,c,rfl⟩,fun w _=>?_⟩
 cases a with
 | none=>simp [Builtin.firstCells]
 | some x=>simp [Builtin.firstCells,loadCells,loadCellsFrom]
theorem Reads.at_ {e sz g off i k c:Nat} {rows:List (List Value)} {spare:List Value} [hb:Has A g (cl (rows.flatten ++ spare) e)] (hr:RowsOk sz rows) (ho:off = i * sz) (hk:i + k ≤ rows.length) :
  Reads P B A sz (.slice (some ⟨g,off,.none⟩) k c) ((rows.drop i).take k):=by
 subst ho
 have hl:((rows.drop i).take k).length = k:=by simp;omega
 have hn:RowsOk sz ((rows.drop i).take k):=fun r h=>hr r (List.mem_of_mem_drop (List.mem_of_mem_take h))
 refine ⟨hn,⟨some ⟨g,i * sz,.none⟩,c,by rw [hl]⟩,fun w hS=>?_⟩
 have hc:=hS.here _ hb.mem
 have hf:=hn.len
 rw [hl] at hf ⊢
 simp only [Builtin.firstCells]
 refine run_loadCells hf fun j u hu=>?_
 have hj:j < k * sz:=by rw [← hf];exact (List.getElem?_eq_some_iff.1 hu).1
 have e1:rows.flatten = (rows.take i).flatten ++ (((rows.drop i).take k).flatten ++ ((rows.drop i).drop k).flatten):=by
  rw [← List.flatten_append,← List.flatten_append,List.take_append_drop,List.take_append_drop]
 have h1:(rows.take i).flatten.length = i * sz:=by
  have:RowsOk sz (rows.take i):=fun r h=>hr r (List.mem_of_mem_take h)
  rw [this.len,List.length_take,Nat.min_eq_left (by omega)]
 rw [cell_of hc,e1,List.append_assoc,List.getElem?_append_right (by omega),h1,List.append_assoc,List.getElem?_append_left (by rw [hf];omega),show i * sz + j - i * sz = j from by omega]
 exact hu
theorem Ops.appS {t e sz bs:Nat} {ge:Bool} {zc:List Value} {x y:Operand} {sv yv:Value} {rows news:List (List Value)} {G F:List Blk} (hown:Own e sz sv rows G) (hrd:Reads P B A sz yv news) (hbytes:(rows.length + news.length + (rows.length + news.length) / 4 + 512) * bs ≤ 281474976710656) (hmax:rows.length + news.length ≤ 9223372036854775807)
  (hm:m.eff = true) (hg:gst ops T gd = some true) [ht:TyD P t (.slice e)] [he:Ty P e ge sz bs zc] (hx:ev T x = some sv) (hy:ev T y = some yv) [hs:Split A G F]
  (hzc:zc.length = sz) (hp:Pd P N B ops m T (some d) (AppR e sz rows news F)) (hd:Nat.blt d N.n = true)
  (k:∀ v G',Own e sz v (rows ++ news) G' → Ops P N B Q ops m.tl l ((d,v) :: T) (G' ++ F)) :
  Ops P N B Q ops m (⟨some d,.call { callee:=.builtin .append,args:=#[x,y],argTypes:=#[t,t] },ty,pos,af,gd⟩ :: l) T A:=by
 obtain ⟨hnew,⟨ya,yc,rfl⟩,hread⟩:=hrd
 refine Ops.effV (R:=AppR e sz rows news F) hm hp hg hd (fun a w hF hS=>?_) fun v X ⟨G',hG',hX⟩=>?_
 ·have hS':=hS.perm hs.perm
  have:=run_append (P:=P) (w:=w) (ty:=ty) (sv:=sv) (xv:=.slice ya news.length yc) (news:=news) ht he hzc hS' hown hnew (by simp [Builtin.lenOf]) (hread w hS) (fun w' h'=>hread w' (h'.perm hs.perm.symm)) hbytes hmax
  simp only [execOp,resolve,invoke,builtin,Sem.run_bind,Sem.run_pure,Result.andThen_ok,List.map_toArray,List.map_cons,List.map_nil,hF.eval hx,hF.eval hy] at this ⊢
  exact this
 ·subst hX
  exact k v G' hG'
end
end Go.Sep
namespace Go.Sep
open Go
section
variable {P:Program} {N:Fi} {B:Base} {Q:Exit → Act → World → Prop} {T:Tm} {A:List Blk} {ops:Array Oper} {l:List Oper}
variable {d:Nat} {ty:TypeId} {pos:String} {af:Array Edge} {m:Md} {gd:Option (Nat × Bool)}
theorem Ops.maxI {t t':TypeId} {x y:Operand} {i j:Int} {k1 k2:IntKind} (hm:m.rd true = true) (hg:gst ops T gd = some true) (hx:ev T x = some (.int k1 i)) (hy:ev T y = some (.int k2 j)) (hd:Nat.blt d N.n = true)
  (k:Ops P N B Q ops m.tl l ((d,.int k1 (max i j)) :: T) A):Ops P N B Q ops m (⟨some d,.call { callee:=.builtin .max,args:=#[x,y],argTypes:=#[t,t'] },ty,pos,af,gd⟩ :: l) T A :=
 Ops.pureV hm hg hd (fun a w hF=>by
  have e:(if j > i then j else i) = max i j:=by split <;> omega
  simp [execOp,resolve,invoke,builtin,Builtin.max_,Builtin.max2,hF.eval hx,hF.eval hy,← e]) k
theorem Ops.minI {t t':TypeId} {x y:Operand} {i j:Int} {k1 k2:IntKind} (hm:m.rd true = true) (hg:gst ops T gd = some true) (hx:ev T x = some (.int k1 i)) (hy:ev T y = some (.int k2 j)) (hd:Nat.blt d N.n = true)
  (k:Ops P N B Q ops m.tl l ((d,.int k1 (min i j)) :: T) A):Ops P N B Q ops m (⟨some d,.call { callee:=.builtin .min,args:=#[x,y],argTypes:=#[t,t'] },ty,pos,af,gd⟩ :: l) T A :=
 Ops.pureV hm hg hd (fun a w hF=>by
  have e:(if j < i then j else i) = min i j:=by split <;> omega
  simp [execOp,resolve,invoke,builtin,Builtin.min_,Builtin.min2,hF.eval hx,hF.eval hy,← e]) k
theorem Ops.mk1 {t e:TypeId} {ge:Bool} {x y:Operand} {bs:Nat} {z:Value} {i:Int} {k1 k2:IntKind} (hm:m.eff = true) (hg:gst ops T gd = some true) [ht:TyD P t (.slice e)] [he:Ty P e ge 1 bs [z]] (hx:ev T x = some (.int k1 i)) (hy:ev T y = some (.int k2 i)) (h0:0 ≤ i) (h1:i ≤ 1048576) (hb:bs ≤ 65536) (hd:Nat.blt d N.n = true)
  (hp:Pd P N B ops m T (some d) (NewR (fun b=>.slice (some ⟨b,0,none⟩) i.toNat i.toNat) (cl (List.replicate i.toNat z) e) A)) (k:∀ b,Ops P N B Q ops m.tl l ((d,.slice (some ⟨b,0,none⟩) i.toNat i.toNat) :: T) ((b,cl (List.replicate i.toNat z) e) :: A)):Ops P N B Q ops m (⟨some d,.makeSlice t x y,ty,pos,af,gd⟩ :: l) T A :=
 Ops.new (v:=fun b=>.slice (some ⟨b,0,none⟩) i.toNat i.toNat) hm hp hg hd (fun a w hF hS=>by
  obtain ⟨zv,hz,hzc⟩:=he.run_zero (w:=w)
  obtain ⟨i3,hi3,his3,hib3⟩:=he.run_info (w:=w)
  obtain ⟨n,rfl⟩:∃ n:Nat,i = n:=⟨i.toNat,by omega⟩
  have wl:IntKind.i64.wrap (n:Int) = n:=by simp [IntKind.wrap,IntKind.bits,IntKind.signed];omega
  have hnb:n * bs ≤ 1048576 * 65536:=Nat.mul_le_mul (by omega) hb
  have hnb':(bs:Int) * (n:Int) ≤ 68719476736:=by
   have:((n * bs:Nat):Int) ≤ ((1048576 * 65536:Nat):Int):=by exact_mod_cast hnb
   rw [Int.natCast_mul,Int.mul_comm] at this
   omega
  have n1:¬ ((n:Int) < 0):=by omega
  have n2:¬ (281474976710656 < (bs:Int) * (n:Int)):=by omega
  have n3:¬ (140737488355328 < n * bs):=by omega
  rcases Nat.eq_zero_or_pos n with rfl|hn
  ·have w0:IntKind.i64.wrap 0 = 0:=by decide
   simp [execOp,hF.eval hx,hF.eval hy,Instr.makeSlice,ht.run_und,asInt,asIntOf,hi3,his3,hib3,he.run_size,w0,newRow,askRoom,roomBytes,cl]
   congr 2
   apply Array.ext <;> simp
  ·have hn0:n ≠ 0:=by omega
   simp [execOp,hF.eval hx,hF.eval hy,Instr.makeSlice,ht.run_und,asInt,asIntOf,hi3,his3,hib3,he.run_size,wl,n1,n2,n3,newRow,askRoom,roomBytes,cl,hn0,hz,hzc]
   congr 2
   apply Array.ext
   ·simp
   ·intro q h1 h2;simp [Nat.mod_one]) k
end
end Go.Sep
