import Derived.Test.YtaecdnfkcebbeaaGreatA11
import Derived.Test.YtaecdnfkcebbeaaGreatA09
import Derived.Test.YtaecdnfkcebbeaaGreatA10
import Derived.Test.YtaecdnfkcebbeaaGreatA01
import Derived.Test.YtaecdnfkcebbeaaGreatA08
set_option linter.unusedVariables false
set_option linter.unusedSimpArgs false
namespace Go.Sep
open Go
section
variable {P:Program} {N:Fi} {B:Base} {Q:Exit → Act → World → Prop} {T:Tm} {A:List Blk} {ops:Array Oper} {l:List Oper}
variable {d:Nat} {ty:TypeId} {pos:String} {af:Array Edge} {m:Md} {gd:Option (Nat × Bool)}
theorem rows_get {sz i o n:Nat} {r r':List Value} {rows:List (List Value)} (hr:RowsOk sz rows) (hi:rows[i]? = some r) (hg:GetS r o n r') (spare:List Value):∀ (j:Nat) (u:Value),r'[j]? = some u → (rows.flatten ++ spare)[i * sz + o + j]? = some u:=fun j u hu=>by
 have h1:=getS_at hg j u hu
 have hl:=(hr r (List.mem_of_getElem? hi)).1
 have ho:o + j < sz:=by rw [← hl];exact (List.getElem?_eq_some_iff.1 h1).1
 have h2:=hr.at_ hi ho
 rw [Nat.add_assoc,List.getElem?_append_left (List.getElem?_eq_some_iff.1 (h2.trans h1)).1,h2,h1]
theorem Ops.ldRowN {t:TypeId} {x:Operand} {b i o:Nat} {sz sz' bs:Nat} {zc r r':List Value} {rows:List (List Value)} {spare:List Value} {E:TypeId} (hm:m.rd false = true) (hg:gst ops T gd = some true) [ht:Ty P t true sz' bs zc]
  (hx:ev T x = some (.pointer (some ⟨b,i * sz + o,none⟩))) [hb:Has A b (cl (rows.flatten ++ spare) E)] (hr:RowsOk sz rows) (hi:rows[i]? = some r) [hs:GetS r o sz' r'] (hd:Nat.blt d N.n = true)
  (k:Ops P N B Q ops m.tl l ((d,.agg r'.toArray) :: T) A):Ops P N B Q ops m (⟨some d,.load t x,ty,pos,af,gd⟩ :: l) T A :=
 Ops.readV hm hg hd (fun a w hF hS=>by
  have hc:∀ (j:Nat) (u:Value),r'[j]? = some u → w.cell? ⟨b,i * sz + o + j,none⟩ = some u:=fun j u hu=>(cell_of (hS.here _ hb.mem) _).trans (rows_get hr hi hs spare j u hu)
  simp [execOp,hF.eval hx,run_loadAtN ht (getS_len hs) hc]) k
theorem rows_setN {sz i o:Nat} {r r' vs:List Value} {rows:List (List Value)} (hr:RowsOk sz rows) (hi:rows[i]? = some r) (hs:SetS r o vs r') (spare:List Value) :
  ins (rows.flatten ++ spare) (i * sz + o) vs = (rows.set i r').flatten ++ spare:=by
 have hlt:=(List.getElem?_eq_some_iff.1 hi).1
 have hl:=rows_mid_len hr (Nat.le_of_lt hlt)
 rw [rows_mid (spare:=spare) hi,← hl,ins_mid hs.eq.2,← rows_mid_set hlt,hs.eq.1]
 rfl
theorem Ops.stRowN {t:TypeId} {x y:Operand} {b i o:Nat} {gt:Bool} {sz sz' bs:Nat} {zc r r' vs:List Value} {rows:List (List Value)} {spare:List Value} {E:TypeId} {A':List Blk} (hm:m.eff = true) (hg:gst ops T gd = some true) [ht:Ty P t gt sz' bs zc]
  (hx:ev T x = some (.pointer (some ⟨b,i * sz + o,none⟩))) (hy:ev T y = some (.agg vs.toArray)) (h1:oneAll vs = true) (hn:vs.length = sz') [_hb:Has A b (cl (rows.flatten ++ spare) E)] (hr:RowsOk sz rows) (hi:rows[i]? = some r) [hs:SetS r o vs r']
  [hu:Upd A b (cl (rows.flatten ++ spare) E) (cl ((rows.set i r').flatten ++ spare) E) A'] (hp:Pd P N B ops m T none (fun _ X=>X = A'))
  (k:Ops P N B Q ops m.tl l T A'):Ops P N B Q ops m (⟨none,.store t x y,ty,pos,af,gd⟩ :: l) T A :=
 Ops.unit hm hp hg (fun a w hF hS=>by
  obtain ⟨A1,A2,rfl,rfl⟩:=hu.put
  have hlt:=(List.getElem?_eq_some_iff.1 hi).1
  have hlr:=(hr r (List.mem_of_getElem? hi)).1
  have hso:=hs.eq.2
  have hfit:i * sz + o + vs.length ≤ (rows.flatten ++ spare).length:=by
   have h2:(i + 1) * sz ≤ rows.length * sz:=Nat.mul_le_mul_right _ hlt
   rw [List.length_append,hr.len]
   rw [Nat.add_mul,Nat.one_mul] at h2
   omega
  obtain ⟨w',hr',hS'⟩:=run_storeAt (P:=P) hS ht (v:=.agg vs.toArray) rfl hn (off:=i * sz + o) (oneAll_mem h1) hfit
  refine ⟨w',by simp [execOp,hF.eval hx,hF.eval hy,hr'],?_⟩
  rw [rows_setN hr hi hs] at hS'
  exact hS') k
end
theorem Con.beside {P:Program} {f:FuncId} {args:Array Value} {A F:List Blk} {R:Value → List Blk → Prop} (h:Con P f args A R):Con P f args (A ++ F) fun v X=>∃ A',R v A' ∧ X = A' ++ F:=fun B w hS =>
 (h.frame hS).mono fun _ _ ⟨v,A',he,hR,hS'⟩=>⟨v,_,he,⟨A',hR,rfl⟩,hS'⟩
theorem Con.permIn {P:Program} {f:FuncId} {args:Array Value} {A A2:List Blk} {R:Value → List Blk → Prop} (h:Con P f args A R) (hp:A2.Perm A):Con P f args A2 R:=fun B w hS=>h B w (hS.perm hp)
theorem Con.permOut {P:Program} {f:FuncId} {args:Array Value} {A:List Blk} {R R':Value → List Blk → Prop} (h:Con P f args A R) (hr:∀ v A',R v A' → ∃ A2,R' v A2 ∧ A'.Perm A2):Con P f args A R':=fun B w hS =>
 (h B w hS).mono fun _ _ ⟨v,A',he,hR,hS'⟩=>by
  obtain ⟨A2,h2,hp⟩:=hr _ _ hR
  exact ⟨v,A2,he,h2,hS'.perm hp⟩
theorem ConB.beside {P:Program} {B0:Base} {f:FuncId} {args:Array Value} {A F:List Blk} {R:Value → List Blk → Prop} (h:ConB P B0 f args A R):ConB P B0 f args (A ++ F) fun v X=>∃ A',R v A' ∧ X = A' ++ F:=fun B w hx hS =>
 (h.frame hx hS).mono fun _ _ ⟨v,A',he,hR,hS'⟩=>⟨v,_,he,⟨A',hR,rfl⟩,hS'⟩
theorem ConB.permIn {P:Program} {B0:Base} {f:FuncId} {args:Array Value} {A A2:List Blk} {R:Value → List Blk → Prop} (h:ConB P B0 f args A R) (hp:A2.Perm A):ConB P B0 f args A2 R:=fun B w hx hS=>h B w hx (hS.perm hp)
theorem ConB.permOut {P:Program} {B0:Base} {f:FuncId} {args:Array Value} {A:List Blk} {R R':Value → List Blk → Prop} (h:ConB P B0 f args A R) (hr:∀ v A',R v A' → ∃ A2,R' v A2 ∧ A'.Perm A2):ConB P B0 f args A R':=fun B w hx hS =>
 (h B w hx hS).mono fun _ _ ⟨v,A',he,hR,hS'⟩=>by
  obtain ⟨A2,h2,hp⟩:=hr _ _ hR
  exact ⟨v,A2,he,h2,hS'.perm hp⟩
def Holds (B0:Base) (G:List Blk):Prop:=∀ p ∈ G,B0.h p.1 = some p.2
theorem Con.lend {P:Program} {f:FuncId} {args:Array Value} {A1 G:List Blk} {R:Value → List Blk → Prop} (h:∀ B0,Holds B0 G → ConB P B0 f args A1 R):Con P f args (A1 ++ G) fun v X=>∃ A',R v A' ∧ X = A' ++ G:=fun B w hS=>by
 have hG:Holds (B.with G) G:=fun p hp=>by simp only [Base.with,find_of_mem hS.right.nodup hp]
 exact ((h (B.with G) hG) (B.with G) w (Ext.refl _) hS.frameIn).mono fun _ _ ⟨v,A',he,hR,hS'⟩=>⟨v,_,he,⟨A',hR,rfl⟩,hS.frameOut hS'⟩
theorem ConB.lend {P:Program} {B1:Base} {f:FuncId} {args:Array Value} {A1 G:List Blk} {R:Value → List Blk → Prop} (h:∀ B0,Ext B1 B0 → Holds B0 G → ConB P B0 f args A1 R):ConB P B1 f args (A1 ++ G) fun v X=>∃ A',R v A' ∧ X = A' ++ G:=fun B w hx hS=>by
 have hG:Holds (B.with G) G:=fun p hp=>by simp only [Base.with,find_of_mem hS.right.nodup hp]
 exact ((h (B.with G) (hx.trans (Ext.with hS)) hG) (B.with G) w (Ext.refl _) hS.frameIn).mono fun _ _ ⟨v,A',he,hR,hS'⟩=>⟨v,_,he,⟨A',hR,rfl⟩,hS.frameOut hS'⟩
theorem Holds.cell {B0:Base} {G:List Blk} (h:Holds B0 G) {g:Nat} {l:List Value} {E:TypeId} (hm:(g,cl l E) ∈ G) {o:Nat} {v:Value} (hv:l[o]? = some v) (A:List Blk):Rd B0 A g o v:=fun w hS =>
 (cell_of (hS.base g _ (h _ hm)) o).trans hv
theorem Ext.holds {B0 B1:Base} {G:List Blk} (e:Ext B0 B1) (h:Holds B0 G):Holds B1 G:=fun p hp=>e.h _ _ (h p hp)
section
variable {P:Program} {N:Fi} {B:Base} {Q:Exit → Act → World → Prop} {T:Tm} {A:List Blk} {ops:Array Oper} {l:List Oper}
variable {d:Nat} {ty:TypeId} {pos:String} {af:Array Edge} {m:Md} {gd:Option (Nat × Bool)}
theorem Ops.callVB {B0:Base} {f:FuncId} {c:Operand} {fi ca:List Value} {xs:List Operand} {ats:Array TypeId} {vs:List Value} {A1 F:List Blk} {R:Value → List Blk → Prop} (h:ConB P B0 f (fi ++ vs ++ ca).toArray A1 R) (hx0:Ext B0 B) (hm:m.eff = true) [hs:Split A A1 F] (hp:Pd P N B ops m T (some d) (CallR R F)) (hg:gst ops T gd = some true)
  (hc:ev T c = some (.func (.func f) fi.toArray ca.toArray)) [hf:FnOk P f] (hx:evs T xs = some vs) (hd:Nat.blt d N.n = true) (k:∀ v A',R v A' → Ops P N B Q ops m.tl l ((d,v) :: T) (A' ++ F)) :
  Ops P N B Q ops m (⟨some d,.call { callee:=.value c,args:=xs.toArray,argTypes:=ats },ty,pos,af,gd⟩ :: l) T A :=
 Ops.effV hm hp hg hd (fun a w hF hS=>by
  have:(execOp a.eval ⟨some d,.call { callee:=.value c,args:=xs.toArray,argTypes:=ats },ty,pos,af,gd⟩).run P w = .ok (.enter f (fi ++ vs ++ ca).toArray) w:=by
   simp [execOp,resolve,hF.eval hc,Deferred.ofValue,invoke,run_callFunc hf,hF.evals hx]
  rw [this]
  exact (h.frame hx0 (hS.perm hs.perm)).mono fun e w' ⟨v,A',he,hR,hS'⟩=>⟨v,_,he,⟨A',hR,rfl⟩,hS'⟩) fun v X ⟨A',hR,hX⟩=>by rw [hX];exact k v A' hR
end
end Go.Sep
namespace Go.Sep
open Go
class NoIf (P:Program) (t:TypeId):Prop where
 und:∃ dd,P.underlying t = some dd ∧ (match dd with|.interface _=>false|_=>true) = true
theorem NoIf.get {P:Program} {t:TypeId} (h:NoIf P t):∃ dd,(∀ w:World,(underlying t).run P w = .ok dd w) ∧ ∀ ms,dd ≠ .interface ms:=by
 obtain ⟨dd,h1,h2⟩:=h.und
 exact ⟨dd,fun w=>run_underlying h1 w,fun ms hm=>by subst hm;cases h2⟩
theorem run_pushes {P:Program} {w:World} {f:Value → ByteArray → Sem (ForInStep ByteArray)} (hf:∀ n s,f (.int .u8 n) s = pure (ForInStep.yield (s.push (UInt8.ofNat n.toNat)))):∀ (xs:List Int) (s:ByteArray),
  (forIn (xs.map fun n=>(Value.int .u8 n)) s f).run P w = .ok (xs.foldl (fun r n=>r.push (UInt8.ofNat n.toNat)) s) w
 | [],s=>by simp
 | x :: xs,s=>by
  simp only [List.map_cons,List.forIn_cons,Sem.run_bind,hf,Sem.run_pure,Result.andThen_ok,List.foldl_cons]
  exact run_pushes hf xs _
theorem flat_bytes (xs:List Int):(xs.map fun n=>[Value.int .u8 n]).flatten = xs.map fun n=>Value.int .u8 n:=by
 induction xs with
 | nil=>rfl
 | cons y ys ih=>rw [List.map_cons,List.flatten_cons,ih];rfl
def bytesOf (xs:List Int):ByteArray:=xs.foldl (fun r n=>r.push (UInt8.ofNat n.toNat)) .empty
section
variable {P:Program} {N:Fi} {B:Base} {Q:Exit → Act → World → Prop} {T:Tm} {A:List Blk} {ops:Array Oper} {l:List Oper}
variable {d:Nat} {ty:TypeId} {pos:String} {af:Array Edge} {m:Md} {gd:Option (Nat × Bool)}
theorem Ops.slS {t:TypeId} {x y z:Operand} {k' k'':IntKind} {i j:Int} {s:ByteArray} (hm:m.rd true = true) (hg:gst ops T gd = some true) [ht:TyD P t .string]
  (hx:ev T x = some (.string s)) (hy:ev T y = some (.int k' i)) (hz:ev T z = some (.int k'' j)) (h0:0 ≤ i) (h1:i ≤ j) (h2:j ≤ s.size) (hd:Nat.blt d N.n = true)
  (k:Ops P N B Q ops m.tl l ((d,.string (s.extract i.toNat j.toNat)) :: T) A):Ops P N B Q ops m (⟨some d,.slice t x (some y) (some z) none,ty,pos,af,gd⟩ :: l) T A :=
 Ops.pureV hm hg hd (fun a w hF=>by
  simp only [execOp,hF.eval hx,hF.eval hy,hF.eval hz,Option.map_some,Option.map_none,Instr.sliceAt,Instr.slice,ht.run_und,Instr.sliceBounds,run_bound (show 0 ≤ j by omega) h2,run_bound h0 (show i ≤ (j.toNat:Int) by omega),if_true,Option.isSome_none,Bool.false_eq_true,if_false,Sem.run_bind,Sem.run_pure,Result.andThen_ok]) k
theorem Ops.slSLo {t:TypeId} {x y:Operand} {k':IntKind} {i:Int} {s:ByteArray} (hm:m.rd true = true) (hg:gst ops T gd = some true) [ht:TyD P t .string]
  (hx:ev T x = some (.string s)) (hy:ev T y = some (.int k' i)) (h0:0 ≤ i) (h2:i ≤ s.size) (hd:Nat.blt d N.n = true)
  (k:Ops P N B Q ops m.tl l ((d,.string (s.extract i.toNat s.size)) :: T) A):Ops P N B Q ops m (⟨some d,.slice t x (some y) none none,ty,pos,af,gd⟩ :: l) T A :=
 Ops.pureV hm hg hd (fun a w hF=>by
  simp only [execOp,hF.eval hx,hF.eval hy,Option.map_some,Option.map_none,Instr.sliceAt,Instr.slice,ht.run_und,Instr.sliceBounds,run_bound h0 h2,if_true,Option.isSome_none,Bool.false_eq_true,if_false,Sem.run_bind,Sem.run_pure,Result.andThen_ok]) k
theorem Ops.slSHi {t:TypeId} {x z:Operand} {k'':IntKind} {j:Int} {s:ByteArray} (hm:m.rd true = true) (hg:gst ops T gd = some true) [ht:TyD P t .string]
  (hx:ev T x = some (.string s)) (hz:ev T z = some (.int k'' j)) (h0:0 ≤ j) (h2:j ≤ s.size) (hd:Nat.blt d N.n = true)
  (k:Ops P N B Q ops m.tl l ((d,.string (s.extract 0 j.toNat)) :: T) A):Ops P N B Q ops m (⟨some d,.slice t x none (some z) none,ty,pos,af,gd⟩ :: l) T A :=
 Ops.pureV hm hg hd (fun a w hF=>by
  simp only [execOp,hF.eval hx,hF.eval hz,Option.map_some,Option.map_none,Instr.sliceAt,Instr.slice,ht.run_und,Instr.sliceBounds,run_bound h0 h2,if_true,Option.isSome_none,Bool.false_eq_true,if_false,Sem.run_bind,Sem.run_pure,Result.andThen_ok]) k
theorem Ops.mkJ {t:TypeId} {x:Operand} {v:Value} (hm:m.rd true = true) (hg:gst ops T gd = some true) [ht:NoIf P t] (hx:ev T x = some v) (hd:Nat.blt d N.n = true) (k:Ops P N B Q ops m.tl l ((d,.iface t v) :: T) A) :
  Ops P N B Q ops m (⟨some d,.makeInterface t x,ty,pos,af,gd⟩ :: l) T A:=by
 obtain ⟨dd,hu,hi⟩:=ht.get
 exact Ops.pureV hm hg hd (fun a w hF=>by
  have:(Instr.makeInterface t v).run P w = .ok (.iface t v) w:=by
   unfold Instr.makeInterface
   simp only [Sem.run_bind,hu w,Result.andThen_ok]
   cases dd <;> first|rfl|exact absurd rfl (hi _)
  simp [execOp,hF.eval hx,this]) k
theorem Ops.tAss {t xT:TypeId} {x:Operand} {v:Value} (hm:m.rd true = true) (hg:gst ops T gd = some true) [ht:NoIf P t] (hx:ev T x = some (.iface t v)) (hd:Nat.blt d N.n = true)
  (k:Ops P N B Q ops m.tl l ((d,.tuple #[v,.bool true]) :: T) A):Ops P N B Q ops m (⟨some d,.typeAssert x xT t true,ty,pos,af,gd⟩ :: l) T A:=by
 obtain ⟨dd,hu,hi⟩:=ht.get
 exact Ops.pureV hm hg hd (fun a w hF=>by
  have:(Instr.typeAssert (.iface t v) xT t true).run P w = .ok (.tuple #[v,.bool true]) w:=by
   unfold Instr.typeAssert
   simp only [Sem.run_bind,hu w,Result.andThen_ok]
   cases dd <;> first|simp|exact absurd rfl (hi _)
  simp [execOp,hF.eval hx,this]) k
theorem Ops.tAssNo {t xT:TypeId} {x:Operand} {z:Value} (hm:m.rd true = true) (hg:gst ops T gd = some true) [ht:NoIf P t] [hz:TyZ P t z] (hx:ev T x = some .nilIface) (hd:Nat.blt d N.n = true)
  (k:Ops P N B Q ops m.tl l ((d,.tuple #[z,.bool false]) :: T) A):Ops P N B Q ops m (⟨some d,.typeAssert x xT t true,ty,pos,af,gd⟩ :: l) T A:=by
 obtain ⟨dd,hu,hi⟩:=ht.get
 exact Ops.pureV hm hg hd (fun a w hF=>by
  have:(Instr.typeAssert .nilIface xT t true).run P w = .ok (.tuple #[z,.bool false]) w:=by
   unfold Instr.typeAssert
   simp only [Sem.run_bind,hu w,Result.andThen_ok]
   cases dd <;> first|simp [hz.run]|exact absurd rfl (hi _)
  simp [execOp,hF.eval hx,this]) k
theorem Ops.cvBS {s t e:TypeId} {x:Operand} {sv:Value} {xs:List Int} {G F:List Blk} (hown:Own e 1 sv (xs.map fun n=>[Value.int .u8 n]) G) (hm:m.rd false = true) (hg:gst ops T gd = some true) [hs:TyD P s (.slice e)] [he:TyD P e (.int .u8)] [ht:TyD P t .string] (hx:ev T x = some sv) [hsp:Split A G F] (hd:Nat.blt d N.n = true)
  (k:Ops P N B Q ops m.tl l ((d,.string (bytesOf xs)) :: T) A):Ops P N B Q ops m (⟨some d,.convert s t x,ty,pos,af,gd⟩ :: l) T A :=
 Ops.readV hm hg hd (fun a w hF hS=>by
  have hconv:(convert s t sv).run P w = (Conv.bytesToString sv).run P w:=by
   rcases hown.2 with ⟨rfl,_,_⟩|⟨g,c,spare,rfl,_⟩
   ·simp [convert,hs.run_und,ht.run_und,he.run_und]
   ·simp [convert,hs.run_und,ht.run_und,he.run_und]
  have hb:(Conv.bytesToString sv).run P w = .ok (.string (bytesOf xs)) w:=by
   rcases hown.2 with ⟨rfl,h0,_⟩|⟨g,c,spare,rfl,hG,_,_⟩
   ·have:xs = []:=List.map_eq_nil_iff.1 h0
    subst this;simp [Conv.bytesToString,bytesOf]
   ·have hfl:=flat_bytes xs
    have hrd:(loadCells ⟨g,0,none⟩ (xs.map fun n=>[Value.int .u8 n]).length).run P w = .ok (xs.map fun n=>Value.int .u8 n).toArray w:=by
     refine run_loadCells (by simp) fun j u hu=>?_
     have hS2:=hS.perm hsp.perm
     have hmem:(g,cl ((xs.map fun n=>[Value.int .u8 n]).flatten ++ spare) e) ∈ G ++ F:=by rw [hG];simp
     rw [Nat.zero_add,cell_of (hS2.here _ hmem),List.getElem?_append_left (by rw [hfl];exact (List.getElem?_eq_some_iff.1 hu).1),hfl,hu]
    unfold Conv.bytesToString
    simp only [Sem.run_bind,hrd,Result.andThen_ok]
    rw [List.forIn_toArray]
    rw [run_pushes (fun _ _=>rfl)]
    rfl
  simp [execOp,hF.eval hx,hconv,hb]) k
end
end Go.Sep
namespace Go.Proofs.YtaecdnfkcebbeaaGreat
open Go Go.Sep Go.Proofs
set_option maxRecDepth 10000
set_option maxHeartbeats 40000000
set_option synthInstance.maxSize 2000
@[reducible] def ptr (b:Nat):Value:=.pointer (some ⟨b,0,none⟩)
def numL (n:Nat):List Int:=if n < 128 then [(n:Int)] else ((n % 128 + 128:Nat):Int) :: numL (n / 128)
termination_by n
decreasing_by omega
def numB (n:Nat):ByteArray:=bytesOf (numL n)
theorem numL_small {n:Nat} (h:n < 128):numL n = [(n:Int)]:=by unfold numL;rw [if_pos h]
theorem numL_big {n:Nat} (h:¬ n < 128):numL n = ((n % 128 + 128:Nat):Int) :: numL (n / 128):=by rw [numL,if_neg h]
theorem numL_len:∀ (k n:Nat),n < 128 ^ (k + 1) → (numL n).length ≤ k + 1
 | 0,n,h=>by rw [numL_small (by simpa using h)];simp
 | k + 1,n,h=>by
  by_cases hs:n < 128
  ·rw [numL_small hs];simp
  ·rw [numL_big hs,List.length_cons]
   have h2:n / 128 < 128 ^ (k + 1):=by
    rw [Nat.div_lt_iff_lt_mul (by decide),← Nat.pow_succ];exact h
   have:=numL_len k (n / 128) h2
   omega
def OwnB (sv:Value) (xs:List Int) (G:List Blk):Prop:=Own 5 1 sv (xs.map fun n=>[Value.int .u8 n]) G
theorem OwnB.form {sv:Value} {xs:List Int} {G:List Blk} (h:OwnB sv xs G):∃ a c,sv = .slice a xs.length c:=by
 obtain ⟨a,c,h⟩:=Own.form h
 exact ⟨a,c,by rw [h,List.length_map]⟩
theorem or_128:∀ a:Nat,a < 256 → a ||| 128 = a % 128 + 128:=by decide
theorem low_byte (m:Nat):orI .u8 (IntKind.wrap .u8 (m:Int)) 128 = ((m % 128 + 128:Nat):Int):=by
 have h1:IntKind.wrap .u8 (m:Int) = ((m % 256:Nat):Int):=by
  simp only [IntKind.wrap,IntKind.bits,IntKind.signed,Bool.false_and,Bool.false_eq_true,if_false]
  omega
 rw [h1,show (128:Int) = ((128:Nat):Int) from rfl,orI_u8 (by omega) (by decide),or_128 _ (by omega)]
 congr 2
 omega
theorem last_byte {m:Nat} (h:m < 128):IntKind.wrap .u8 (m:Int) = (m:Int):=by
 simp only [IntKind.wrap,IntKind.bits,IntKind.signed,Bool.false_and,Bool.false_eq_true,if_false]
 omega
theorem shr7 (m:Nat):((m:Int).fdiv (2 ^ (min (Int.toNat 7) (IntKind.bits .u64)))) = ((m / 128:Nat):Int):=by
 show (m:Int).fdiv 128 = _
 rw [Int.fdiv_eq_ediv_of_nonneg _ (by decide)]
 rfl
structure NumS where
 xs:List Int
 m:Nat
 sv:Value
 G:List Blk
theorem num_spec (n:Nat) (hn:n < 18446744073709551616):Con Tryz.prog 173 #[.int .u64 n] [] fun v A=>v = .string (numB n) ∧ A = []:=by
 have hlen:(numL n).length ≤ 10:=numL_len 9 n (by omega)
 refine Con.intro (vs:=[_]) Tryz.func173 rfl Tryz.ntmps173 rfl (fun B=>?_)
 refine zg3 ?_
 refine Cd.loopK (σ:=NumS) (fun s=>numL n = s.xs ++ numL s.m ∧ OwnB s.sv s.xs s.G) (fun s=>[(0,.int .u64 s.m),(3,s.sv)]) (fun s=>s.G) (fun s=>s.m) ⟨[],n,.slice none 0 0,[]⟩ ⟨rfl,Own.none⟩ ⟨rfl,rfl,trivial⟩ (fun w h=>h) (fun s hs=>?_)
 obtain ⟨xs,m,sv,G⟩:=s
 obtain ⟨hx,hO⟩:=hs
 dsimp only at hx hO ⊢
 obtain ⟨a,c,rfl⟩:=hO.form
 have hll:(xs.map fun n=>[Value.int .u8 n]).length = xs.length:=List.length_map _
 have hxl:xs.length ≤ 10:=by
  have:(xs ++ numL m).length ≤ 10:=by rw [← hx];exact hlen
  rw [List.length_append] at this;omega
 by_cases hm:m < 128
 ·have hm':¬ (127:Int) < m:=by omega
  refine zg12 ?_
  refine Ops.cvI rfl rfl rfl rfl ?_
  rw [last_byte hm]
  repeat' (first|refine Ops.bs1 rfl rfl rfl rfl rfl rfl rfl (noPd rfl) (fun b=>?_))
  refine Ops.app1 (rows:=xs.map fun n=>[Value.int .u8 n]) hO (by rw [hll];omega) (by rw [hll];omega) rfl rfl rfl rfl (by rfl) (by rfl) rfl (noPd rfl) rfl (fun v G' hG'=>?_)
  have hG2:OwnB v (xs ++ [(m:Int)]) G':=by
   unfold OwnB;rw [List.map_append];exact hG'
  clear hG'
  skip
  refine Ops.cvBS hG2 rfl rfl rfl rfl ?_
  refine zg1 ?_
  exact ze0
 ·have hm':(127:Int) < m:=by omega
  refine zg14 ?_
  refine Ops.cvI rfl rfl rfl rfl ?_
  repeat' (first|refine Ops.bin rfl rfl rfl rfl rfl ?_|refine Ops.bs1 rfl rfl rfl rfl rfl rfl rfl (noPd rfl) (fun b=>?_))
  rw [low_byte]
  skip
  refine Ops.app1 (rows:=xs.map fun n=>[Value.int .u8 n]) hO (by rw [hll];omega) (by rw [hll];omega) rfl rfl rfl rfl (by rfl) (by rfl) rfl (noPd rfl) rfl (fun v G' hG'=>?_)
  have hG2:OwnB v (xs ++ [((m % 128 + 128:Nat):Int)]) G':=by
   unfold OwnB;rw [List.map_append];exact hG'
  clear hG'
  refine zg8 ?_
  refine Ops.shrI rfl rfl rfl rfl (by decide) rfl ?_
  rw [shr7]
  refine zg1 ?_
  exact Ops.nilN (round_end (⟨xs ++ [((m % 128 + 128:Nat):Int)],m / 128,v,G'⟩:NumS) ⟨by show numL n = (xs ++ [_]) ++ numL (m / 128);rw [hx,numL_big hm];simp,hG2⟩ (by show m / 128 < m;omega) ⟨rfl,rfl,trivial⟩ (fun w h=>h.split))
end Go.Proofs.YtaecdnfkcebbeaaGreat
namespace Go.Proofs.YtaecdnfkcebbeaaGreat
open Go Go.Sep Go.Proofs
instance:TyZ Tryz.prog 9 (.string ⟨#[]⟩):=⟨by kernel_rfl⟩
instance:TyZ Tryz.prog 122 (.agg #[.int .i64 0,.int .i64 0,.int .i64 0,.int .i64 0,.int .i64 0]):=⟨by kernel_rfl⟩
instance:TyZ Tryz.prog 234 (.pointer none):=⟨by kernel_rfl⟩
instance:TyZ Tryz.prog 306 (.agg #[.int .i64 0]):=⟨by kernel_rfl⟩
instance:IsMapClone Tryz.prog 167:=⟨⟨_,Tryz.func167,by kernel_rfl,by kernel_rfl,by kernel_rfl,by kernel_rfl⟩⟩
end Go.Proofs.YtaecdnfkcebbeaaGreat
namespace Go.Proofs.YtaecdnfkcebbeaaGreat
open Go Go.Sep Go.Proofs
set_option maxRecDepth 10000
set_option maxHeartbeats 40000000
set_option synthInstance.maxSize 2000
instance:NoIf Tryz.prog 306:=⟨⟨_,Tryz.underlying306,rfl⟩⟩
@[reducible] def RdB (rb:Nat) (b:ByteArray) (at_ e:Int):Blk:=(rb,cl [.string b,.int .i64 at_,.int .i64 e] 238)
@[reducible] def gave (e:Int):PanicEntry:=⟨.iface 306 (.agg #[.int .i64 e]),false,false⟩
theorem take_spec (B0:Base) (rb:Nat) (b:ByteArray) (p:Nat) (e:Int) (n:Nat) (hp:p ≤ b.size) (hb:b.size ≤ 1000000) (hn:n ≤ 1000000) :
  ConX Tryz.prog B0 178 #[ptr rb,.int .i64 n] [RdB rb b p e] (fun v A=>p + n ≤ b.size ∧ v = .string (b.extract p (p + n)) ∧ A = [RdB rb b ((p + n:Nat):Int) e]) (fun c A=>¬ (p + n ≤ b.size) ∧ c = [gave 20] ∧ A = [RdB rb b p e]):=by
 refine ConX.intro (vs:=[_,_]) Tryz.func178 rfl Tryz.ntmps178 rfl (fun B hB=>?_)
 by_cases hs:p + n ≤ b.size
 ·have hs':¬ ((b.size:Int) - (p:Int) < n):=by omega
  refine zg0 ?_
  refine Cd.draw [(0,0,[]),(1,0,[]),(2,0,[]),(3,0,[]),(4,1,[]),(5,0,[]),(6,0,[]),(7,0,[]),(8,0,[]),(9,1,[]),(10,0,[]),(11,0,[])] (by kernel_rfl) (by kernel_rfl) (by simp only [picked,nth];exact rfl) ?_
  refine zg33 ?_
  refine Cd.draw [(0,0,[]),(1,0,[]),(2,0,[]),(3,1,[]),(4,0,[]),(5,0,[]),(6,0,[]),(7,1,[]),(8,0,[]),(9,0,[]),(10,0,[]),(11,0,[]),(12,0,[]),(13,1,[]),(14,0,[]),(15,0,[])] (by kernel_rfl) (by kernel_rfl) (by simp only [picked,nth];exact rfl) ?_
  refine zg32 ?_
  refine Ops.slS rfl rfl rfl rfl rfl (by omega) (by omega) (by omega) rfl ?_
  rw [show ((p:Int) + n - n).toNat = p from by omega,show ((p:Int) + n).toNat = p + n from by omega,show (p:Int) + n = ((p + n:Nat):Int) from by omega]
  refine zg1 ?_
  exact Cd.ret (retX (ret1 (A':=[RdB rb b ((p + n:Nat):Int) e]) rfl (Res.tmp rfl) (fun _ h=>h.split) ⟨hs,rfl,rfl⟩))
 ·have hs':(b.size:Int) - (p:Int) < n:=by omega
  refine zg0 ?_
  refine Cd.draw [(0,0,[]),(1,0,[]),(2,0,[]),(3,0,[]),(4,1,[]),(5,0,[]),(6,0,[]),(7,0,[]),(8,0,[]),(9,1,[]),(10,0,[]),(11,0,[])] (by kernel_rfl) (by kernel_rfl) (by simp only [picked,nth];exact rfl) ?_
  refine zg33 ?_
  refine Ops.mkJ rfl rfl rfl rfl ?_
  refine Ops.pan rfl rfl (panX (A':=[RdB rb b p e]) (fun _ h=>h.split) ⟨hs,rfl,rfl⟩)
inductive RR where
 | bad (e:Int)
 | good (n at_:Nat)
def accN (acc c i:Nat):Nat:=acc ||| ((c &&& 127) * 2 ^ (7 * i)) % 18446744073709551616
def numGo (b:ByteArray) (most:Nat) (over:Int):Nat → Nat → Nat → Nat → RR
 | 0,_,_,_=>.bad 22
 | k + 1,i,p,acc=>match b[p]? with
  | none=>.bad 20
  | some c=>if 127 < c.toNat then numGo b most over k (i + 1) (p + 1) (accN acc c.toNat i)
   else if (0 < i ∧ c.toNat = 0) ∨ (i = 9 ∧ 1 < c.toNat) then .bad 22
   else if most < accN acc c.toNat i then .bad over else .good (accN acc c.toNat i) (p + 1)
def numR (b:ByteArray) (most:Nat) (over:Int) (p:Nat):RR:=numGo b most over 10 0 p 0
theorem and127 (c:UInt8):andI .u8 (c.toNat:Int) 127 = ((c.toNat &&& 127:Nat):Int):=by
 rw [show (127:Int) = ((127:Nat):Int) from rfl,andI_u8 (UInt8.toNat_lt c) (by decide)]
theorem wrap_u64 {n:Nat} (h:n < 18446744073709551616):IntKind.wrap .u64 (n:Int) = (n:Int):=by
 simp only [IntKind.wrap,IntKind.bits,IntKind.signed,Bool.false_and,Bool.false_eq_true,if_false]
 omega
theorem shl_step {c i:Nat} (hi:i ≤ 9):IntKind.wrap .u64 (((c:Nat):Int) * 2 ^ (min (7 * (i:Int)).toNat (IntKind.bits .u64))) = ((c * 2 ^ (7 * i) % 18446744073709551616:Nat):Int):=by
 have e1:min (7 * (i:Int)).toNat (IntKind.bits .u64) = 7 * i:=by
  show min _ 64 = _
  omega
 rw [e1]
 simp only [IntKind.wrap,IntKind.bits,IntKind.signed,Bool.false_and,Bool.false_eq_true,if_false]
 rw [show ((c:Nat):Int) * 2 ^ (7 * i) = ((c * 2 ^ (7 * i):Nat):Int) from by push_cast;rfl]
 omega
theorem accN_lt {acc c i:Nat} (h:acc < 18446744073709551616):accN acc c i < 18446744073709551616:=by
 unfold accN
 exact Nat.or_lt_two_pow (n:=64) h (Nat.mod_lt _ (by decide))
theorem ext1 {b:ByteArray} {p:Nat} {c:UInt8} (h:b[p]? = some c):(b.extract p (p + 1))[(0:Int).toNat]? = some c:=by
 obtain ⟨h1,h2⟩:=getElem?_eq_some_iff.1 h
 have hs:(0:Nat) < (b.extract p (p + 1)).size:=by rw [ByteArray.size_extract];omega
 show (b.extract p (p + 1))[0]? = some c
 rw [getElem?_pos (b.extract p (p + 1)) 0 hs,ByteArray.getElem_extract]
 simp [h2]
structure NbS where
 i:Nat
 p:Nat
 acc:Nat
theorem number_spec (B0:Base) (rb:Nat) (b:ByteArray) (p:Nat) (e:Int) (most:Nat) (over:Int) (hp:p ≤ b.size) (hb:b.size ≤ 1000000) (hmost:most < 18446744073709551616) :
  ConX Tryz.prog B0 138 #[ptr rb,.int .u64 most,.int .i64 over] [RdB rb b p e] (fun v A=>∃ n q,numR b most over p = .good n q ∧ n < 18446744073709551616 ∧ q ≤ b.size ∧ v = .int .u64 n ∧ A = [RdB rb b q e]) (fun c A=>∃ er,numR b most over p = .bad er ∧ c = [gave er] ∧ ∃ q:Nat,A = [RdB rb b q e]):=by
 refine ConX.intro (vs:=[_,_,_]) Tryz.func138 rfl Tryz.ntmps138 rfl (fun B hB=>?_)
 refine zg3 ?_
 refine Cd.loopK (σ:=NbS) (fun s=>s.i ≤ 10 ∧ numR b most over p = numGo b most over (10 - s.i) s.i s.p s.acc ∧ s.p ≤ b.size ∧ s.acc < 18446744073709551616) (fun s=>[(0,ptr rb),(1,.int .u64 most),(2,.int .i64 over),(7,.int .u64 s.acc),(10,.int .i64 s.i)]) (fun s=>[RdB rb b s.p e]) (fun s=>10 - s.i) ⟨0,p,0⟩ ⟨Nat.zero_le _,rfl,hp,(by decide:(0:Nat) < 18446744073709551616)⟩ ⟨rfl,rfl,rfl,rfl,rfl,trivial⟩ (fun w h=>h) (fun s hs=>?_)
 obtain ⟨i,q,acc⟩:=s
 obtain ⟨hi,hR,hq,hacc⟩:=hs
 dsimp only at hi hR hq hacc ⊢
 by_cases hi10:i = 10
 ·subst hi10
  have hbad:numR b most over p = .bad 22:=hR
  refine zg13 ?_
  refine Ops.mkJ rfl rfl rfl rfl ?_
  exact Ops.pan rfl rfl (panX (A':=[RdB rb b q e]) (fun _ h=>h.split) ⟨22,hbad,rfl,q,rfl⟩)
 have hi9:i ≤ 9:=by omega
 have hi':(i:Int) < 10:=by omega
 rw [show 10 - i = (9 - i) + 1 from by omega] at hR
 unfold numGo at hR
 refine zg14 ?_
 refine Ops.callX (take_spec B0 rb b q e 1 hq hb (by decide)) hB rfl rfl rfl (fun c A' hX=>?_) (fun v A' hX=>?_)
 ·obtain ⟨hlt,rfl,rfl⟩:=hX
  have hno:b[q]? = none:=by rw [getElem?_neg b q (by omega)]
  rw [hno] at hR
  exact panX (A':=[RdB rb b q e]) (fun _ h=>h.split) ⟨20,hR,rfl,q,rfl⟩
 ·obtain ⟨hle,rfl,rfl⟩:=hX
  obtain ⟨c,hc⟩:∃ c,b[q]? = some c:=⟨_,getElem?_pos b q (by omega)⟩
  rw [hc] at hR
  dsimp only at hR
  have hc8:=UInt8.toNat_lt c
  have hc7:c.toNat &&& 127 < 18446744073709551616:=Nat.lt_of_le_of_lt Nat.and_le_left (by omega)
  have hacc2:accN acc c.toNat i < 18446744073709551616:=accN_lt hacc
  skip
  refine Ops.ixS rfl rfl rfl rfl (by decide) (ext1 hc) rfl ?_
  refine zg8 ?_
  rw [and127]
  refine Ops.cvI rfl rfl rfl rfl ?_
  rw [wrap_u64 hc7]
  refine zg39 ?_
  refine Ops.shlI rfl rfl rfl rfl (by omega) rfl ?_
  rw [shl_step hi9]
  refine Ops.bin rfl rfl rfl rfl rfl ?_
  rw [orI_u64 hacc (Nat.mod_lt _ (by decide))]
  rw [show acc ||| (c.toNat &&& 127) * 2 ^ (7 * i) % 18446744073709551616 = accN acc c.toNat i from rfl]
  generalize accN acc c.toNat i = acc2 at hR hacc2 ⊢
  by_cases h127:127 < c.toNat
  ·rw [if_pos h127] at hR
   have h127':(127:Int) < c.toNat:=by omega
   refine zg33 ?_
   exact Ops.nilN (round_end (⟨i + 1,q + 1,acc2⟩:NbS) ⟨by show i + 1 ≤ 10;omega,by show _ = numGo b most over (10 - (i + 1)) (i + 1) (q + 1) acc2;rw [show 10 - (i + 1) = 9 - i from by omega];exact hR,hle,hacc2⟩ (by show 10 - (i + 1) < 10 - i;omega) ⟨rfl,rfl,rfl,rfl,rfl,trivial⟩ (fun w h=>h.split))
  rw [if_neg h127] at hR
  have h127':¬ (127:Int) < c.toNat:=by omega
  by_cases hform:(0 < i ∧ c.toNat = 0) ∨ (i = 9 ∧ 1 < c.toNat)
  ·rw [if_pos hform] at hR
   repeat' (first|refine Cd.seq ?_|refine Cd.reg ?_|refine Ops.nil ?_|refine Ops.mv rfl rfl rfl rfl ?_|refine Ops.asg rfl rfl rfl rfl ?_|refine Ops.bin rfl rfl rfl rfl rfl ?_|refine Ops.pickT rfl rfl rfl rfl rfl ?_|refine Ops.pickF rfl rfl rfl rfl rfl ?_|refine Ops.bld rfl rfl rfl rfl ?_|refine Ops.gSkip rfl rfl rfl ?_|refine Ops.gSkipU rfl rfl rfl rfl ?_|refine Cd.condT rfl rfl ?_|refine Cd.skip (Cd.next ?_)|refine Cd.exit (Cd.next (Q':=fun _ _ _=>True) ?_)|refine Cd.condT rfl zp0 ?_|refine Cd.condF rfl zp0 ?_|((fail_if_success refine Ops.probe rfl ?_);refine Ops.gT rfl rfl zp0 ?_)|((fail_if_success refine Ops.probe rfl ?_);refine Ops.gSplit rfl rfl (fun hc=>?_) (fun hc=>?_) <;> (try simp only [decide_eq_true_eq,decide_eq_false_iff_not,Bool.not_eq_true',Bool.not_eq_false',Bool.not_eq_eq_eq_not,Bool.not_true,Bool.not_false,Int.not_lt,Int.not_le] at hc)))
   all_goals first
    | (refine Ops.mkJ rfl rfl rfl rfl ?_;exact Ops.pan rfl rfl (panX (A':=[RdB rb b ((q + 1:Nat):Int) e]) (fun _ h=>h.split) ⟨22,hR,rfl,q + 1,rfl⟩))
    | (exfalso;omega)
  ·rw [if_neg hform] at hR
   by_cases hov:most < acc2
   ·rw [if_pos hov] at hR
    have hov':(most:Int) < acc2:=by omega
    repeat' (first|refine Cd.seq ?_|refine Cd.reg ?_|refine Ops.nil ?_|refine Ops.mv rfl rfl rfl rfl ?_|refine Ops.asg rfl rfl rfl rfl ?_|refine Ops.bin rfl rfl rfl rfl rfl ?_|refine Ops.pickT rfl rfl rfl rfl rfl ?_|refine Ops.pickF rfl rfl rfl rfl rfl ?_|refine Ops.bld rfl rfl rfl rfl ?_|refine Ops.gSkip rfl rfl rfl ?_|refine Cd.condF rfl rfl ?_|refine Cd.skip (Cd.next ?_)|refine Cd.condT rfl zp0 ?_|refine Cd.condF rfl zp0 ?_|((fail_if_success refine Ops.probe rfl ?_);refine Ops.gF rfl rfl zp0 ?_)|((fail_if_success refine Ops.probe rfl ?_);refine Ops.gSplit rfl rfl (fun hc=>?_) (fun hc=>?_) <;> (try simp only [decide_eq_true_eq,decide_eq_false_iff_not,Bool.not_eq_true',Bool.not_eq_false',Bool.not_eq_eq_eq_not,Bool.not_true,Bool.not_false,Int.not_lt,Int.not_le] at hc)))
    all_goals first
     | (refine Ops.mkJ rfl rfl rfl rfl ?_;exact Ops.pan rfl rfl (panX (A':=[RdB rb b ((q + 1:Nat):Int) e]) (fun _ h=>h.split) ⟨over,hR,rfl,q + 1,rfl⟩))
     | (exfalso;omega)
   ·rw [if_neg hov] at hR
    have hov':¬ (most:Int) < acc2:=by omega
    repeat' (first|refine Cd.seq ?_|refine Cd.reg ?_|refine Ops.nil ?_|refine Ops.mv rfl rfl rfl rfl ?_|refine Ops.asg rfl rfl rfl rfl ?_|refine Ops.bin rfl rfl rfl rfl rfl ?_|refine Ops.pickT rfl rfl rfl rfl rfl ?_|refine Ops.pickF rfl rfl rfl rfl rfl ?_|refine Ops.gSkip rfl rfl rfl ?_|refine Cd.condF rfl rfl ?_|refine Cd.skip (Cd.next ?_)|refine Cd.condF rfl zp0 ?_|((fail_if_success refine Ops.probe rfl ?_);refine Ops.gF rfl rfl zp0 ?_)|((fail_if_success refine Ops.probe rfl ?_);refine Ops.gSplit rfl rfl (fun hc=>?_) (fun hc=>?_) <;> (try simp only [decide_eq_true_eq,decide_eq_false_iff_not,Bool.not_eq_true',Bool.not_eq_false',Bool.not_eq_eq_eq_not,Bool.not_true,Bool.not_false,Int.not_lt,Int.not_le] at hc)))
    all_goals first
     | exact Cd.ret (retX (ret1 (A':=[RdB rb b ((q + 1:Nat):Int) e]) rfl (Res.tmp rfl) (fun _ h=>h.split) ⟨acc2,q + 1,hR,hacc2,hle,rfl,rfl⟩))
     | (exfalso;omega)
end Go.Proofs.YtaecdnfkcebbeaaGreat
