import Derived.Test.YtkoelgkghijgiaaGreatA02
import Derived.ProofKit
import Derived.Deep.Slices
import Derived.SizedLaws
set_option linter.unusedVariables false
set_option linter.unusedSimpArgs false
namespace Go.Sep
open Go
def oneAll (l:List Value):Bool:=l.all Value.oneCell'
theorem oneAll_mem {l:List Value} (h:oneAll l = true):∀ u ∈ l,u.oneCell' = true:=by simpa [oneAll] using h
theorem getS_at {l r:List Value} {i n:Nat} (h:GetS l i n r):∀ j u,r[j]? = some u → l[i + j]? = some u:=by
 intro j u hu
 rw [h.eq.1] at hu
 have hj:j < n:=by
  rcases Nat.lt_or_ge j n with h'|h'
  ·exact h'
  ·rw [List.getElem?_eq_none (by simp;omega)] at hu;cases hu
 rw [List.getElem?_take_of_lt hj,List.getElem?_drop] at hu
 exact hu
theorem getS_len {l r:List Value} {i n:Nat} (h:GetS l i n r):r.length = n:=by
 rw [h.eq.1];have:=h.eq.2;simp;omega
def Rd (B:Base) (A:List Blk) (b off:Nat) (v:Value):Prop:=∀ w,Sat B A w → w.cell? ⟨b,off,none⟩ = some v
def evs (T:Tm):List Operand → Option (List Value)
 | []=>some []
 | x :: xs=>match ev T x,evs T xs with
  | some v,some vs=>some (v :: vs)
  | _,_=>none
theorem Fr.evals {N:Fi} {T:Tm} {a:Act} (h:Fr N T a):∀ {xs:List Operand} {vs:List Value},evs T xs = some vs → xs.map a.eval = vs
 | [],vs,hx=>by simp [evs] at hx;simp [hx]
 | x :: xs,vs,hx=>by
  simp only [evs] at hx
  split at hx
  ·rename_i v us hv hus
   simp only [Option.some.injEq] at hx
   subst hx
   simp [h.eval hv,h.evals hus]
  ·cases hx
class FnOk (P:Program) (f:FuncId):Prop where
 ok:∃ fn,P.funcs[f]? = some fn ∧ (fn.name == "runtime.NumGoroutine") = false ∧ fn.body.isNone = false
theorem run_callFunc {P:Program} {f:FuncId} (h:FnOk P f) (args:Array Value) (w:World):(callFunc f args).run P w = .ok (.enter f args) w:=by
 obtain ⟨fn,h1,h2,h3⟩:=h.ok
 simp only [callFunc,Sem.run_bind,run_program,Result.andThen_ok,h1]
 rw [h2,h3]
 simp
class UnRun (P:Program) (op:UnOp) (x:Value) (v:outParam Value):Prop where
 run:∀ w,(Op.unary op x).run P w = .ok v w
instance UnRun.not {P:Program} {b:Bool}:UnRun P .not (.bool b) (.bool (!b)):=⟨fun w=>by simp [Op.unary]⟩
section
variable {P:Program} {N:Fi} {B:Base} {Q:Exit → Act → World → Prop} {T:Tm} {A:List Blk} {ops:Array Oper} {l:List Oper}
variable {d:Nat} {op:Op} {ty:TypeId} {pos:String} {af:Array Edge} {m:Md} {gd:Option (Nat × Bool)}
def Pd (P:Program) (N:Fi) (B:Base) (ops:Array Oper) (m:Md) (T:Tm) (dst:Option Nat) (R:Value → List Blk → Prop):Prop :=
 ∀ v A',R v A' → ∀ i ∈ m.pend,Still P N B ops (putT dst v T) A' i
theorem noPd {dst:Option Nat} {R:Value → List Blk → Prop} (h:m.pend = []):Pd P N B ops m T dst R:=fun v A' _ i hi=>by rw [h] at hi;cases hi
theorem Ops.pureV {v:Value} (hm:m.rd true = true) (hg:gst ops T gd = some true) (hd:Nat.blt d N.n = true)
  (hrun:∀ a w,Fr N T a → (execOp a.eval ⟨some d,op,ty,pos,af,gd⟩).run P w = .ok (.value v) w)
  (k:Ops P N B Q ops m.tl l ((d,v) :: T) A):Ops P N B Q ops m (⟨some d,op,ty,pos,af,gd⟩ :: l) T A :=
 Ops.rdG true hm rfl hd (fun a w hF _=>.inl ⟨gst_wanted hF hg,hrun a w hF⟩) k
theorem Ops.readV {v:Value} (hm:m.rd false = true) (hg:gst ops T gd = some true) (hd:Nat.blt d N.n = true)
  (hrun:∀ a w,Fr N T a → Sat B A w → (execOp a.eval ⟨some d,op,ty,pos,af,gd⟩).run P w = .ok (.value v) w)
  (k:Ops P N B Q ops m.tl l ((d,v) :: T) A):Ops P N B Q ops m (⟨some d,op,ty,pos,af,gd⟩ :: l) T A :=
 Ops.rdG false hm rfl hd (fun a w hF h=>.inl ⟨gst_wanted hF hg,hrun a w hF (h.resolve_left (by simp))⟩) k
theorem Ops.effV {R:Value → List Blk → Prop} (hm:m.eff = true) (hp:Pd P N B ops m T (some d) R) (hg:gst ops T gd = some true) (hd:Nat.blt d N.n = true)
  (hrun:∀ a w,Fr N T a → Sat B A w → effPost P B R ((execOp a.eval ⟨some d,op,ty,pos,af,gd⟩).run P w))
  (k:∀ v A',R v A' → Ops P N B Q ops m.tl l ((d,v) :: T) A'):Ops P N B Q ops m (⟨some d,op,ty,pos,af,gd⟩ :: l) T A :=
 Ops.effG hm (fun d' h=>by injection h with h;rw [← h];exact hd) (fun a w hF hS=>.inl ⟨gst_wanted hF hg,hrun a w hF hS⟩) hp k
theorem Ops.effU {R:Value → List Blk → Prop} (hm:m.eff = true) (hp:Pd P N B ops m T none R) (hg:gst ops T gd = some true)
  (hrun:∀ a w,Fr N T a → Sat B A w → effPost P B R ((execOp a.eval ⟨none,op,ty,pos,af,gd⟩).run P w))
  (k:∀ v A',R v A' → Ops P N B Q ops m.tl l T A'):Ops P N B Q ops m (⟨none,op,ty,pos,af,gd⟩ :: l) T A :=
 Ops.effG hm (fun d' h=>by cases h) (fun a w hF hS=>.inl ⟨gst_wanted hF hg,hrun a w hF hS⟩) hp k
theorem Ops.unit {A':List Blk} (hm:m.eff = true) (hp:Pd P N B ops m T none (fun _ X=>X = A')) (hg:gst ops T gd = some true)
  (hrun:∀ a w,Fr N T a → Sat B A w → ∃ w',(execOp a.eval ⟨none,op,ty,pos,af,gd⟩).run P w = .ok .skip w' ∧ Sat B A' w')
  (k:Ops P N B Q ops m.tl l T A'):Ops P N B Q ops m (⟨none,op,ty,pos,af,gd⟩ :: l) T A :=
 Ops.effU hm hp hg (fun a w hF hS=>by
  obtain ⟨w',hr,hS'⟩:=hrun a w hF hS
  rw [hr]
  exact ⟨A',rfl,hS'⟩) fun _ X hX=>by rw [hX];exact k
def NewR (v:Nat → Value) (o:Obj) (A:List Blk):Value → List Blk → Prop:=fun u A'=>∃ b,u = v b ∧ A' = (b,o) :: A
theorem Ops.new {v:Nat → Value} {o:Obj} (hm:m.eff = true) (hp:Pd P N B ops m T (some d) (NewR v o A)) (hg:gst ops T gd = some true) (hd:Nat.blt d N.n = true)
  (hrun:∀ a w,Fr N T a → Sat B A w → (execOp a.eval ⟨some d,op,ty,pos,af,gd⟩).run P w = .ok (.value (v w.heap.size)) (w.alloc o))
  (k:∀ b,Ops P N B Q ops m.tl l ((d,v b) :: T) ((b,o) :: A)):Ops P N B Q ops m (⟨some d,op,ty,pos,af,gd⟩ :: l) T A :=
 Ops.effV hm hp hg hd (fun a w hF hS=>by
  rw [hrun a w hF hS]
  exact ⟨_,⟨_,rfl,rfl⟩,hS.alloc o⟩) fun v A' ⟨b,hv,hA⟩=>by rw [hv,hA];exact k b
theorem Ops.mv {x:Operand} {v:Value} (hm:m.rd true = true) (hg:gst ops T gd = some true) (hx:ev T x = some v) (hd:Nat.blt d N.n = true) (k:Ops P N B Q ops m.tl l ((d,v) :: T) A) :
  Ops P N B Q ops m (⟨some d,.move x,ty,pos,af,gd⟩ :: l) T A :=
 Ops.pureV hm hg hd (fun a w hF=>by simp [execOp,hF.eval hx]) k
theorem Ops.asg {x:Operand} {v:Value} (hm:m.rd true = true) (hg:gst ops T gd = some true) (hx:ev T x = some v) (hd:Nat.blt d N.n = true) (k:Ops P N B Q ops m.tl l ((d,v) :: T) A) :
  Ops P N B Q ops m (⟨some d,.assign x,ty,pos,af,gd⟩ :: l) T A :=
 Ops.pureV hm hg hd (fun a w hF=>by simp [execOp,hF.eval hx]) k
theorem Ops.asgE {x:Operand} {v:Value} (hm:m.eff = true) (hp:Pd P N B ops m T (some d) (fun u X=>u = v ∧ X = A)) (hg:gst ops T gd = some true) (hx:ev T x = some v) (hd:Nat.blt d N.n = true) (k:Ops P N B Q ops m.tl l ((d,v) :: T) A) :
  Ops P N B Q ops m (⟨some d,.assign x,ty,pos,af,gd⟩ :: l) T A :=
 Ops.effV hm hp hg hd (fun a w hF hS=>by
  simp [execOp,hF.eval hx,effPost]
  exact hS) fun u X ⟨h1,h2⟩=>by rw [h1,h2];exact k
theorem Ops.nilP {x:Operand} {p:Addr} (hm:m.rd true = true) (hg:gst ops T gd = some true) (hx:ev T x = some (.pointer (some p))) (hd:Nat.blt d N.n = true) (k:Ops P N B Q ops m.tl l ((d,.pointer (some p)) :: T) A) :
  Ops P N B Q ops m (⟨some d,.nilCheck x,ty,pos,af,gd⟩ :: l) T A :=
 Ops.pureV hm hg hd (fun a w hF=>by simp [execOp,hF.eval hx]) k
theorem Ops.fa0 {s f:Nat} {x:Operand} {b off n:Nat} (hm:m.rd true = true) (hg:gst ops T gd = some true) [hf:FOff P s f off n] (hx:ev T x = some (.pointer (some ⟨b,0,none⟩))) (hd:Nat.blt d N.n = true)
  (k:Ops P N B Q ops m.tl l ((d,.pointer (some ⟨b,off,none⟩)) :: T) A):Ops P N B Q ops m (⟨some d,.fieldAddr s x f,ty,pos,af,gd⟩ :: l) T A :=
 Ops.pureV hm hg hd (fun a w hF=>by
  simp only [execOp,hF.eval hx,Sem.run_bind,hf.run,Result.andThen_ok,Sem.run_pure]
  congr 5
  unfold Addr.add
  split
  ·simp [*]
  ·simp) k
theorem Ops.fa {s f:Nat} {x:Operand} {b o off n:Nat} (hm:m.rd true = true) (hg:gst ops T gd = some true) [hf:FOff P s f off n] (hx:ev T x = some (.pointer (some ⟨b,o,none⟩))) (hd:Nat.blt d N.n = true)
  (k:Ops P N B Q ops m.tl l ((d,.pointer (some ⟨b,o + off,none⟩)) :: T) A):Ops P N B Q ops m (⟨some d,.fieldAddr s x f,ty,pos,af,gd⟩ :: l) T A :=
 Ops.pureV hm hg hd (fun a w hF=>by
  simp only [execOp,hF.eval hx,Sem.run_bind,hf.run,Result.andThen_ok,Sem.run_pure]
  congr 5
  unfold Addr.add
  split
  ·simp [*]
  ·simp) k
theorem Ops.ld1 {t:TypeId} {x:Operand} {b off:Nat} {sz bs:Nat} {zc:List Value} {L:List Value} {E:TypeId} {v:Value} (hm:m.rd false = true) (hg:gst ops T gd = some true) [ht:Ty P t false sz bs zc]
  (hx:ev T x = some (.pointer (some ⟨b,off,none⟩))) [hb:Has A b (cl L E)] (hv:L[off]? = some v) (hd:Nat.blt d N.n = true)
  (k:Ops P N B Q ops m.tl l ((d,v) :: T) A):Ops P N B Q ops m (⟨some d,.load t x,ty,pos,af,gd⟩ :: l) T A :=
 Ops.readV hm hg hd (fun a w hF hS=>by simp [execOp,hF.eval hx,run_loadAt1 ht ((cell_of hS.has off).trans hv)]) k
theorem Ops.ldN {t:TypeId} {x:Operand} {b off:Nat} {sz bs:Nat} {zc:List Value} {L r:List Value} {E:TypeId} (hm:m.rd false = true) (hg:gst ops T gd = some true) [ht:Ty P t true sz bs zc]
  (hx:ev T x = some (.pointer (some ⟨b,off,none⟩))) [hb:Has A b (cl L E)] [hr:GetS L off sz r] (hd:Nat.blt d N.n = true)
  (k:Ops P N B Q ops m.tl l ((d,.agg r.toArray) :: T) A):Ops P N B Q ops m (⟨some d,.load t x,ty,pos,af,gd⟩ :: l) T A :=
 Ops.readV hm hg hd (fun a w hF hS=>by
  simp [execOp,hF.eval hx,run_loadAtN ht (getS_len hr) (fun j u hu=>(cell_of hS.has (off + j)).trans (getS_at hr j u hu))]) k
theorem Ops.ldR {t:TypeId} {x:Operand} {b off:Nat} {sz bs:Nat} {zc:List Value} {v:Value} (hm:m.rd false = true) (hg:gst ops T gd = some true) [ht:Ty P t false sz bs zc]
  (hx:ev T x = some (.pointer (some ⟨b,off,none⟩))) (hv:Rd B A b off v) (hd:Nat.blt d N.n = true)
  (k:Ops P N B Q ops m.tl l ((d,v) :: T) A):Ops P N B Q ops m (⟨some d,.load t x,ty,pos,af,gd⟩ :: l) T A :=
 Ops.readV hm hg hd (fun a w hF hS=>by simp [execOp,hF.eval hx,run_loadAt1 ht (hv w hS)]) k
theorem Ops.ldRN {t:TypeId} {x:Operand} {b off:Nat} {sz bs:Nat} {zc r:List Value} (hm:m.rd false = true) (hg:gst ops T gd = some true) [ht:Ty P t true sz bs zc]
  (hx:ev T x = some (.pointer (some ⟨b,off,none⟩))) (hr:r.length = sz) (hv:∀ j u,r[j]? = some u → Rd B A b (off + j) u) (hd:Nat.blt d N.n = true)
  (k:Ops P N B Q ops m.tl l ((d,.agg r.toArray) :: T) A):Ops P N B Q ops m (⟨some d,.load t x,ty,pos,af,gd⟩ :: l) T A :=
 Ops.readV hm hg hd (fun a w hF hS=>by simp [execOp,hF.eval hx,run_loadAtN ht hr (fun j u hu=>hv j u hu w hS)]) k
theorem Ops.st1 {t:TypeId} {x y:Operand} {b off:Nat} {gt:Bool} {bs:Nat} {zc:List Value} {L L':List Value} {E:TypeId} {v:Value} {A':List Blk} (hm:m.eff = true) (hg:gst ops T gd = some true) [ht:Ty P t gt 1 bs zc]
  (hx:ev T x = some (.pointer (some ⟨b,off,none⟩))) (hy:ev T y = some v) (h1:v.oneCell' = true) [hb:Has A b (cl L E)] [hs:SetL L off v L'] [hu:Upd A b (cl L E) (cl L' E) A']
  (hp:Pd P N B ops m T none (fun _ X=>X = A')) (k:Ops P N B Q ops m.tl l T A'):Ops P N B Q ops m (⟨none,.store t x y,ty,pos,af,gd⟩ :: l) T A :=
 Ops.unit hm hp hg (fun a w hF hS=>by
  obtain ⟨A1,A2,rfl,rfl⟩:=hu.put
  have hc:v.cells = [v].toArray:=by cases v <;> first|rfl|cases h1
  obtain ⟨w',hr,hS'⟩:=run_storeAt (P:=P) hS ht hc rfl (off:=off) (by simpa using h1) (by have:=hs.eq.2;simp;omega)
  refine ⟨w',by simp [execOp,hF.eval hx,hF.eval hy,hr],?_⟩
  rw [ins_cons hs.eq.2,ins_nil] at hS'
  rw [hs.eq.1]
  exact hS') k
theorem Ops.stN {t:TypeId} {x y:Operand} {b off:Nat} {gt:Bool} {sz bs:Nat} {zc:List Value} {L L' vs:List Value} {E:TypeId} {A':List Blk} (hm:m.eff = true) (hg:gst ops T gd = some true) [ht:Ty P t gt sz bs zc]
  (hx:ev T x = some (.pointer (some ⟨b,off,none⟩))) (hy:ev T y = some (.agg vs.toArray)) (h1:oneAll vs = true) (hn:vs.length = sz) [hb:Has A b (cl L E)] [hs:SetS L off vs L'] [hu:Upd A b (cl L E) (cl L' E) A']
  (hp:Pd P N B ops m T none (fun _ X=>X = A')) (k:Ops P N B Q ops m.tl l T A'):Ops P N B Q ops m (⟨none,.store t x y,ty,pos,af,gd⟩ :: l) T A :=
 Ops.unit hm hp hg (fun a w hF hS=>by
  obtain ⟨A1,A2,rfl,rfl⟩:=hu.put
  obtain ⟨w',hr,hS'⟩:=run_storeAt (P:=P) hS ht (v:=.agg vs.toArray) (vs:=vs) rfl hn (off:=off) (oneAll_mem h1) hs.eq.2
  refine ⟨w',by simp [execOp,hF.eval hx,hF.eval hy,hr],?_⟩
  rw [hs.eq.1]
  exact hS') k
theorem Ops.box {E:TypeId} {x:Operand} {v:Value} {vs:List Value} (hm:m.eff = true) (hg:gst ops T gd = some true) (hx:ev T x = some v) [hc:Cells v vs] (hd:Nat.blt d N.n = true)
  (hp:Pd P N B ops m T (some d) (NewR (fun b=>.pointer (some ⟨b,0,none⟩)) (cl vs E) A)) (k:∀ b,Ops P N B Q ops m.tl l ((d,.pointer (some ⟨b,0,none⟩)) :: T) ((b,cl vs E) :: A)):Ops P N B Q ops m (⟨some d,.box E x,ty,pos,af,gd⟩ :: l) T A :=
 Ops.new (v:=fun b=>.pointer (some ⟨b,0,none⟩)) hm hp hg hd (fun a w hF hS=>by
  simp [execOp,hF.eval hx,Instr.box,newVar,newRow,hc.eq,cl]) k
theorem Ops.alloc {E:TypeId} {gt:Bool} {sz bs:Nat} {zc:List Value} (hm:m.eff = true) (hg:gst ops T gd = some true) [ht:Ty P E gt sz bs zc] (hd:Nat.blt d N.n = true)
  (hp:Pd P N B ops m T (some d) (NewR (fun b=>.pointer (some ⟨b,0,none⟩)) (cl zc E) A)) (k:∀ b,Ops P N B Q ops m.tl l ((d,.pointer (some ⟨b,0,none⟩)) :: T) ((b,cl zc E) :: A)):Ops P N B Q ops m (⟨some d,.alloc E,ty,pos,af,gd⟩ :: l) T A :=
 Ops.new (v:=fun b=>.pointer (some ⟨b,0,none⟩)) hm hp hg hd (fun a w hF hS=>by
  obtain ⟨z,hz,hzc⟩:=ht.run_zero (w:=w)
  simp [execOp,Instr.alloc,hz,newVar,newRow,hzc,cl]) k
theorem Ops.bs0 {t e:TypeId} {ge:Bool} {sz' bs':Nat} {zc':List Value} (hm:m.eff = true) (hg:gst ops T gd = some true) [ht:TyD P t (.slice e)] [he:Ty P e ge sz' bs' zc'] (hd:Nat.blt d N.n = true)
  (hp:Pd P N B ops m T (some d) (NewR (fun b=>.slice (some ⟨b,0,none⟩) 0 0) (cl [] e) A)) (k:∀ b,Ops P N B Q ops m.tl l ((d,.slice (some ⟨b,0,none⟩) 0 0) :: T) ((b,cl [] e) :: A)):Ops P N B Q ops m (⟨some d,.buildSlice t 0 #[],ty,pos,af,gd⟩ :: l) T A :=
 Ops.new (v:=fun b=>.slice (some ⟨b,0,none⟩) 0 0) hm hp hg hd (fun a w hF hS=>by
  simp [execOp,Instr.buildSlice,ht.run_und,he.run_size,Instr.fill,newRow,cl]
  have e:(Array.range 0).map (fun _:Nat=>(default:Value)) = #[]:=by apply Array.ext <;> simp
  rw [e]) k
theorem foldl_set (vs:List Value):∀ (k:Nat) (cs:Array Value) (off:Nat),off + k + vs.length ≤ cs.size →
  ((vs.zipIdx k).foldl (fun cs (p:Value × Nat)=>cs.setIfInBounds (off + p.2) p.1) cs).toList = ins cs.toList (off + k) vs:=by
 induction vs with
 | nil=>intro k cs off _;simp [ins_nil]
 | cons v vs ih =>
  intro k cs off h
  simp only [List.length_cons] at h
  simp only [List.zipIdx_cons,List.foldl_cons]
  rw [ih (k + 1) _ off (by simp;omega),ins_cons (by simp;omega)]
  simp [Nat.add_assoc]
theorem fill_one {place:Nat → Option (Nat × Nat)} {cells:Array Value} {i off size:Nat} {v:Value} {vs:List Value} {rest:List (Nat × Value)} (hp:place i = some (off,size))
  (hv:v.cells = vs.toArray) (hn:vs.length = size) (hlen:off + vs.length ≤ cells.size) :
  Instr.fill place cells ((i,v) :: rest) = Instr.fill place (ins cells.toList off vs).toArray rest:=by
 have h1:=foldl_set vs 0 cells off (by omega)
 simp only [Nat.add_zero] at h1
 have h2:(v.cells.zipIdx.foldl (fun cs (p:Value × Nat)=>cs.setIfInBounds (off + p.2) p.1) cells) = (ins cells.toList off vs).toArray:=by
  rw [hv,← h1]
  have e:vs.toArray.zipIdx = vs.zipIdx.toArray:=by simp
  rw [e]
  simp
 simp only [Instr.fill,hp]
 rw [if_neg]
 ·rw [← h2]
 ·simp [hv,hn] at hlen ⊢
  omega
theorem Ops.bs1 {t e:TypeId} {ge:Bool} {x:Operand} {sz' bs':Nat} {zc' vs:List Value} {v:Value} (hm:m.eff = true) (hg:gst ops T gd = some true) [ht:TyD P t (.slice e)] [he:Ty P e ge sz' bs' zc']
  (hx:ev T x = some v) [hc:Cells v vs] (hn:vs.length = sz') (hsz:Nat.blt 0 sz' = true) (hsz2:Nat.ble sz' 16777216 = true) (hd:Nat.blt d N.n = true)
  (hp:Pd P N B ops m T (some d) (NewR (fun b=>.slice (some ⟨b,0,none⟩) 1 1) (cl vs e) A)) (k:∀ b,Ops P N B Q ops m.tl l ((d,.slice (some ⟨b,0,none⟩) 1 1) :: T) ((b,cl vs e) :: A)):Ops P N B Q ops m (⟨some d,.buildSlice t 1 #[(0,x)],ty,pos,af,gd⟩ :: l) T A :=
 Ops.new (v:=fun b=>.slice (some ⟨b,0,none⟩) 1 1) hm hp hg hd (fun a w hF hS=>by
  obtain ⟨z,hz,hzc⟩:=he.run_zero (w:=w)
  have h0:sz' ≠ 0:=by rw [Nat.blt_eq] at hsz;omega
  have h1:¬ (16777216 < sz'):=by rw [Nat.ble_eq] at hsz2;omega
  simp only [execOp,Instr.buildSlice,ht.run_und,he.run_size,Sem.run_bind,Result.andThen_ok,Nat.one_mul,Sem.run_pure,Sem.run_ite,gt_iff_lt,show (2:Nat)^24 = 16777216 from rfl,if_neg h1,h0,if_false,hz,List.map_toArray,List.map_cons,List.map_nil]
  rw [fill_one (off:=0) (size:=sz') (vs:=vs) (by simp) (by rw [hF.eval hx];exact hc.eq) hn (by simp;omega)]
  have e1:∀ L:List Value,L.length = vs.length → ins L 0 vs = vs:=fun L hL=>by simp [ins,← hL]
  rw [e1 _ (by simp [hn])]
  simp [Instr.fill,newRow,cl]) k
theorem Ops.ixa0 {t e:TypeId} {ge:Bool} {x y:Operand} {sz' bs':Nat} {zc':List Value} {g n c:Nat} {k':IntKind} {i:Int} (hm:m.rd true = true) (hg:gst ops T gd = some true) [ht:TyD P t (.slice e)] [he:Ty P e ge sz' bs' zc']
  (hx:ev T x = some (.slice (some ⟨g,0,none⟩) n c)) (hy:ev T y = some (.int k' i)) (h0:0 ≤ i) (h1:i < n) (hd:Nat.blt d N.n = true)
  (k:Ops P N B Q ops m.tl l ((d,.pointer (some ⟨g,i.toNat * sz',none⟩)) :: T) A):Ops P N B Q ops m (⟨some d,.indexAddr t x y,ty,pos,af,gd⟩ :: l) T A :=
 Ops.pureV hm hg hd (fun a w hF=>by
  simp [execOp,hF.eval hx,hF.eval hy,Instr.indexAt,asIntOf,ht.run_und,he.run_size,h0,h1,add_none]) k
theorem Ops.ixa {t e:TypeId} {ge:Bool} {x y:Operand} {sz' bs':Nat} {zc':List Value} {g o n c:Nat} {k':IntKind} {i:Int} (hm:m.rd true = true) (hg:gst ops T gd = some true) [ht:TyD P t (.slice e)] [he:Ty P e ge sz' bs' zc']
  (hx:ev T x = some (.slice (some ⟨g,o,none⟩) n c)) (hy:ev T y = some (.int k' i)) (h0:0 ≤ i) (h1:i < n) (hd:Nat.blt d N.n = true)
  (k:Ops P N B Q ops m.tl l ((d,.pointer (some ⟨g,o + i.toNat * sz',none⟩)) :: T) A):Ops P N B Q ops m (⟨some d,.indexAddr t x y,ty,pos,af,gd⟩ :: l) T A :=
 Ops.pureV hm hg hd (fun a w hF=>by
  simp [execOp,hF.eval hx,hF.eval hy,Instr.indexAt,asIntOf,ht.run_und,he.run_size,h0,h1,add_none]) k
theorem Ops.bin {bo:BinOp} {t t':TypeId} {x y:Operand} {u v r:Value} (hm:m.rd true = true) (hg:gst ops T gd = some true) (hx:ev T x = some u) (hy:ev T y = some v) [hr:BinRun P bo t u v r] (hd:Nat.blt d N.n = true)
  (k:Ops P N B Q ops m.tl l ((d,r) :: T) A):Ops P N B Q ops m (⟨some d,.binOp bo t x y t',ty,pos,af,gd⟩ :: l) T A :=
 Ops.pureV hm hg hd (fun a w hF=>by
  have:=hr.run x y w
  simp only [execOp,hF.eval hx,hF.eval hy,Sem.run_bind] at this ⊢
  rw [this]
  rfl) k
theorem Ops.addI {t t':TypeId} {x y:Operand} {a b:Int} (hm:m.rd true = true) (hg:gst ops T gd = some true) (hx:ev T x = some (.int .i64 a)) (hy:ev T y = some (.int .i64 b)) (h0:-9223372036854775808 ≤ a + b) (h1:a + b ≤ 9223372036854775807) (hd:Nat.blt d N.n = true)
  (k:Ops P N B Q ops m.tl l ((d,.int .i64 (a + b)) :: T) A):Ops P N B Q ops m (⟨some d,.binOp .add t x y t',ty,pos,af,gd⟩ :: l) T A :=
 Ops.pureV hm hg hd (fun a w hF=>by
  simp [execOp,hF.eval hx,hF.eval hy,eqGuard,binOp,Op.intArith,IntWalk.i64_in _ ⟨h0,h1⟩]) k
theorem Ops.subI {t t':TypeId} {x y:Operand} {a b:Int} (hm:m.rd true = true) (hg:gst ops T gd = some true) (hx:ev T x = some (.int .i64 a)) (hy:ev T y = some (.int .i64 b)) (h0:-9223372036854775808 ≤ a - b) (h1:a - b ≤ 9223372036854775807) (hd:Nat.blt d N.n = true)
  (k:Ops P N B Q ops m.tl l ((d,.int .i64 (a - b)) :: T) A):Ops P N B Q ops m (⟨some d,.binOp .sub t x y t',ty,pos,af,gd⟩ :: l) T A :=
 Ops.pureV hm hg hd (fun a w hF=>by
  simp [execOp,hF.eval hx,hF.eval hy,eqGuard,binOp,Op.intArith,IntWalk.i64_in _ ⟨h0,h1⟩]) k
theorem Ops.un {uo:UnOp} {t:TypeId} {x:Operand} {u r:Value} (hm:m.rd true = true) (hg:gst ops T gd = some true) (hx:ev T x = some u) [hr:UnRun P uo u r] (hd:Nat.blt d N.n = true)
  (k:Ops P N B Q ops m.tl l ((d,r) :: T) A):Ops P N B Q ops m (⟨some d,.unOp uo t x,ty,pos,af,gd⟩ :: l) T A :=
 Ops.pureV hm hg hd (fun a w hF=>by simp [execOp,hF.eval hx,hr.run]) k
theorem Ops.pickT {c x y:Operand} {v:Value} (hm:m.rd true = true) (hg:gst ops T gd = some true) (hc:ev T c = some (.bool true)) (hx:ev T x = some v) (hd:Nat.blt d N.n = true)
  (k:Ops P N B Q ops m.tl l ((d,v) :: T) A):Ops P N B Q ops m (⟨some d,.pick c x y,ty,pos,af,gd⟩ :: l) T A :=
 Ops.pureV hm hg hd (fun a w hF=>by simp [execOp,hF.eval hc,hF.eval hx,asBool]) k
theorem Ops.pickF {c x y:Operand} {v:Value} (hm:m.rd true = true) (hg:gst ops T gd = some true) (hc:ev T c = some (.bool false)) (hy:ev T y = some v) (hd:Nat.blt d N.n = true)
  (k:Ops P N B Q ops m.tl l ((d,v) :: T) A):Ops P N B Q ops m (⟨some d,.pick c x y,ty,pos,af,gd⟩ :: l) T A :=
 Ops.pureV hm hg hd (fun a w hF=>by simp [execOp,hF.eval hc,hF.eval hy,asBool]) k
theorem Ops.ext {x:Operand} {i:Nat} {vs:List Value} {v:Value} (hm:m.rd true = true) (hg:gst ops T gd = some true) (hx:ev T x = some (.tuple vs.toArray)) (hv:vs[i]? = some v) (hd:Nat.blt d N.n = true)
  (k:Ops P N B Q ops m.tl l ((d,v) :: T) A):Ops P N B Q ops m (⟨some d,.extract x i,ty,pos,af,gd⟩ :: l) T A :=
 Ops.pureV hm hg hd (fun a w hF=>by simp [execOp,hF.eval hx,Instr.extract,hv]) k
theorem Ops.lenS {t:TypeId} {x:Operand} {at':Option Addr} {n c:Nat} {e:TypeId} (hm:m.rd true = true) (hg:gst ops T gd = some true) [ht:TyD P t (.slice e)] (hx:ev T x = some (.slice at' n c)) (hd:Nat.blt d N.n = true)
  (k:Ops P N B Q ops m.tl l ((d,.int .i64 n) :: T) A):Ops P N B Q ops m (⟨some d,.call { callee:=.builtin .len,args:=#[x],argTypes:=#[t] },ty,pos,af,gd⟩ :: l) T A :=
 Ops.pureV hm hg hd (fun a w hF=>by simp [execOp,resolve,invoke,builtin,Builtin.len_,hF.eval hx,ht.run_und,goInt]) k
theorem Ops.lenStr {t:TypeId} {x:Operand} {s:ByteArray} (hm:m.rd true = true) (hg:gst ops T gd = some true) [ht:TyD P t .string] (hx:ev T x = some (.string s)) (hd:Nat.blt d N.n = true)
  (k:Ops P N B Q ops m.tl l ((d,.int .i64 s.size) :: T) A):Ops P N B Q ops m (⟨some d,.call { callee:=.builtin .len,args:=#[x],argTypes:=#[t] },ty,pos,af,gd⟩ :: l) T A :=
 Ops.pureV hm hg hd (fun a w hF=>by simp [execOp,resolve,invoke,builtin,Builtin.len_,hF.eval hx,ht.run_und,goInt]) k
theorem Ops.keep {T':Tm} (h:Ops P N B Q ops m l T' A) (hT:∀ a,Fr N T a → Fr N T' a):Ops P N B Q ops m l T A:=by
 match m,h with
 | none,h=>exact fun a w hF hS=>h a w (hT a hF) hS
 | some (info,rest),h =>
  intro h1 h2 h3 h4
  have h':if isStep rest then DStep P N B Q ops (info.map (·.1)) (rdF info) (ldF info) l T' A else DSem P N B Q ops (info.map (·.1)) (rdF info) (ldF info) l T' A:=h h1 h2 h3 h4
  cases hs:isStep rest with
  | true =>
   rw [hs,if_pos rfl] at h'
   rw [if_pos rfl]
   exact fun h5 h6 U a w listed i hi h7 h8 h9 h10=>h' h5 h6 U a w listed i hi h7 h8 h9 (hT _ h10)
  | false =>
   rw [hs,if_neg (by simp)] at h'
   rw [if_neg (by simp)]
   exact fun h5 h6 U a w listed h7 h8 h9 h10=>h' h5 h6 U a w listed h7 h8 h9 (hT _ h10)
theorem Ops.gSkip {j:Nat} {want:Bool} (hm:m.rd true = true) (hg:gst ops T (some (j,want)) = some false) (hd:Nat.blt d N.n = true) (k:Ops P N B Q ops m.tl l ((d,undef) :: T) A) :
  Ops P N B Q ops m (⟨some d,op,ty,pos,af,some (j,want)⟩ :: l) T A :=
 Ops.rdG true hm rfl hd (fun _ _ hF _=>.inr ⟨gst_wanted (o:=⟨some d,op,ty,pos,af,some (j,want)⟩) hF hg,rfl⟩) k
theorem Ops.gSkipE {j:Nat} {want:Bool} (hm:m.eff = true) (hp:Pd P N B ops m T (some d) (fun u X=>u = undef ∧ X = A)) (hg:gst ops T (some (j,want)) = some false) (hd:Nat.blt d N.n = true) (k:Ops P N B Q ops m.tl l ((d,undef) :: T) A) :
  Ops P N B Q ops m (⟨some d,op,ty,pos,af,some (j,want)⟩ :: l) T A :=
 Ops.effG hm (fun d' h=>by injection h with h;rw [← h];exact hd) (fun _ _ hF hS=>.inr ⟨gst_wanted (o:=⟨some d,op,ty,pos,af,some (j,want)⟩) hF hg,A,⟨rfl,rfl⟩,hS⟩) hp fun u X ⟨h1,h2⟩=>by rw [h1,h2];exact k
theorem Ops.gSplit {dst:Option Nat} {j dj:Nat} {want b:Bool} (_hj:(ops[j]?).bind (·.dst) = some dj) (hb:look T dj = some (.bool b))
  (h1:b = true → Ops P N B Q ops m (⟨dst,op,ty,pos,af,some (j,want)⟩ :: l) ((dj,.bool true) :: T) A)
  (h2:b = false → Ops P N B Q ops m (⟨dst,op,ty,pos,af,some (j,want)⟩ :: l) ((dj,.bool false) :: T) A) :
  Ops P N B Q ops m (⟨dst,op,ty,pos,af,some (j,want)⟩ :: l) T A:=by
 have hk:∀ c:Bool,b = c → ∀ a,Fr N T a → Fr N ((dj,.bool c) :: T) a:=fun c hc a hF=>hF.keep fun i v hi=>by
  simp only [look] at hi
  cases hbq:Nat.beq i dj with
  | true=>rw [hbq] at hi;simp only [cond_true,Option.some.injEq] at hi;rw [Nat.eq_of_beq_eq_true hbq,hb,← hi,hc]
  | false=>rw [hbq] at hi;exact hi
 cases b with
 | true=>exact (h1 rfl).keep (hk true rfl)
 | false=>exact (h2 rfl).keep (hk false rfl)
theorem Ops.probe {dst:Option Nat} {g:Nat × Bool} (_h:gst ops T (some g) = some true) (k:Ops P N B Q ops m (⟨dst,op,ty,pos,af,some g⟩ :: l) T A):Ops P N B Q ops m (⟨dst,op,ty,pos,af,some g⟩ :: l) T A:=k
theorem Ops.gT {dst:Option Nat} {j dj:Nat} {want b:Bool} (hj:(ops[j]?).bind (·.dst) = some dj) (hb:look T dj = some (.bool b)) (h:b = true)
  (k:Ops P N B Q ops m (⟨dst,op,ty,pos,af,some (j,want)⟩ :: l) ((dj,.bool true) :: T) A):Ops P N B Q ops m (⟨dst,op,ty,pos,af,some (j,want)⟩ :: l) T A :=
 Ops.gSplit hj hb (fun _=>k) (fun h'=>by rw [h] at h';cases h')
theorem Ops.gF {dst:Option Nat} {j dj:Nat} {want b:Bool} (hj:(ops[j]?).bind (·.dst) = some dj) (hb:look T dj = some (.bool b)) (h:b = false)
  (k:Ops P N B Q ops m (⟨dst,op,ty,pos,af,some (j,want)⟩ :: l) ((dj,.bool false) :: T) A):Ops P N B Q ops m (⟨dst,op,ty,pos,af,some (j,want)⟩ :: l) T A :=
 Ops.gSplit hj hb (fun h'=>by rw [h] at h';cases h') (fun _=>k)
theorem Still.ld1 {i dd t:Nat} {x:Operand} {b off:Nat} {sz bs:Nat} {zc L:List Value} {E:TypeId} {v:Value} (ho:ops[i]? = some ⟨some dd,.load t x,ty,pos,af,gd⟩) (hg:gst ops T gd = some true) (hx:ev T x = some (.pointer (some ⟨b,off,none⟩)))
  [ht:Ty P t false sz bs zc] [hb:Has A b (cl L E)] (hv:L[off]? = some v) (hl:look T dd = some v):Still P N B ops T A i :=
 ⟨_,dd,v,ho,rfl,hl,fun a w hF hS=>.inl ⟨gst_wanted (o:=⟨some dd,.load t x,ty,pos,af,gd⟩) hF hg,by simp [execOp,hF.eval hx,run_loadAt1 ht ((cell_of hS.has off).trans hv)]⟩⟩
theorem Still.ldN {i dd t:Nat} {x:Operand} {b off:Nat} {sz bs:Nat} {zc L r:List Value} {E:TypeId} (ho:ops[i]? = some ⟨some dd,.load t x,ty,pos,af,gd⟩) (hg:gst ops T gd = some true) (hx:ev T x = some (.pointer (some ⟨b,off,none⟩)))
  [ht:Ty P t true sz bs zc] [hb:Has A b (cl L E)] [hr:GetS L off sz r] (hl:look T dd = some (.agg r.toArray)):Still P N B ops T A i :=
 ⟨_,dd,_,ho,rfl,hl,fun a w hF hS=>.inl ⟨gst_wanted (o:=⟨some dd,.load t x,ty,pos,af,gd⟩) hF hg,by
  simp [execOp,hF.eval hx,run_loadAtN ht (getS_len hr) (fun j u hu=>(cell_of hS.has (off + j)).trans (getS_at hr j u hu))]⟩⟩
theorem Still.len {i dd t e:Nat} {x:Operand} {a':Option Addr} {n c:Nat} {ats:Array TypeId} (ho:ops[i]? = some ⟨some dd,.call { callee:=.builtin .len,args:=#[x],argTypes:=ats },ty,pos,af,gd⟩) (hats:ats = #[t]) (hg:gst ops T gd = some true) (hx:ev T x = some (.slice a' n c))
  [ht:TyD P t (.slice e)] (hl:look T dd = some (.int .i64 n)):Still P N B ops T A i :=
 ⟨_,dd,_,ho,rfl,hl,fun a w hF hS=>.inl ⟨gst_wanted (o:=⟨some dd,.call { callee:=.builtin .len,args:=#[x],argTypes:=ats },ty,pos,af,gd⟩) hF hg,by
  subst hats
  simp [execOp,resolve,invoke,builtin,Builtin.len_,hF.eval hx,ht.run_und,goInt]⟩⟩
def CallR (R:Value → List Blk → Prop) (F:List Blk):Value → List Blk → Prop:=fun v X=>∃ A',R v A' ∧ X = A' ++ F
theorem eff_call {f:FuncId} {args:Array Value} {A1 F:List Blk} {R:Value → List Blk → Prop} (h:Con P f args A1 R) [hs:Split A A1 F] {w:World} (hS:Sat B A w) {r:Result Next} (hr:r = .ok (.enter f args) w) :
  effPost P B (CallR R F) r:=by
 subst hr
 exact (h.frame (hS.perm hs.perm)).mono fun e w' ⟨v,A',he,hR,hS'⟩=>⟨v,_,he,⟨A',hR,rfl⟩,hS'⟩
theorem Ops.call {f:FuncId} {xs:List Operand} {ats:Array TypeId} {vs:List Value} {A1 F:List Blk} {R:Value → List Blk → Prop} (h:Con P f vs.toArray A1 R) (hm:m.eff = true) [hs:Split A A1 F] (hp:Pd P N B ops m T (some d) (CallR R F)) (hg:gst ops T gd = some true)
  [hf:FnOk P f] (hx:evs T xs = some vs) (hd:Nat.blt d N.n = true) (k:∀ v A',R v A' → Ops P N B Q ops m.tl l ((d,v) :: T) (A' ++ F)) :
  Ops P N B Q ops m (⟨some d,.call { callee:=.value (.func f),args:=xs.toArray,argTypes:=ats },ty,pos,af,gd⟩ :: l) T A :=
 Ops.effV hm hp hg hd (fun a w hF hS=>eff_call h hS (by
  simp [execOp,resolve,Act.eval,Deferred.ofValue,invoke,run_callFunc hf,hF.evals hx])) fun v X ⟨A',hR,hX⟩=>by rw [hX];exact k v A' hR
theorem Ops.callV {f:FuncId} {c:Operand} {fi ca:List Value} {xs:List Operand} {ats:Array TypeId} {vs:List Value} {A1 F:List Blk} {R:Value → List Blk → Prop} (h:Con P f (fi ++ vs ++ ca).toArray A1 R) (hm:m.eff = true) [hs:Split A A1 F] (hp:Pd P N B ops m T (some d) (CallR R F)) (hg:gst ops T gd = some true)
  (hc:ev T c = some (.func (.func f) fi.toArray ca.toArray)) [hf:FnOk P f] (hx:evs T xs = some vs) (hd:Nat.blt d N.n = true) (k:∀ v A',R v A' → Ops P N B Q ops m.tl l ((d,v) :: T) (A' ++ F)) :
  Ops P N B Q ops m (⟨some d,.call { callee:=.value c,args:=xs.toArray,argTypes:=ats },ty,pos,af,gd⟩ :: l) T A :=
 Ops.effV hm hp hg hd (fun a w hF hS=>eff_call h hS (by
  simp [execOp,resolve,hF.eval hc,Deferred.ofValue,invoke,run_callFunc hf,hF.evals hx])) fun v X ⟨A',hR,hX⟩=>by rw [hX];exact k v A' hR
end
def post (P:Program) (fn:Func) (B:Base) (R:Value → List Blk → Prop):Exit → Act → World → Prop :=
 bodyPostM Fence.wide 0 P fn fun e w'=>∃ v A',e = .returned v ∧ R v A' ∧ Sat B A' w'
theorem leaves_nil {P:Program} {fn:Func} {tmps:Array Value} {R:Ending → World → Prop} {w:World}:LeavesInM Fence.wide 0 P fn tmps R [] .returning w ↔ ∃ v,(results fn tmps).run P w = .ok v w ∧ R (.returned v) w:=by
 simp only [LeavesInM,LeavesIn]
def slots:Nat → List Value → Tm
 | _,[]=>[]
 | i,v :: vs=>(i,v) :: slots (i + 1) vs
theorem look_slots:∀ (vs:List Value) (k i:Nat) (v:Value),look (slots k vs) i = some v → ∃ j,i = k + j ∧ vs[j]? = some v
 | [],_,_,_,h=>by simp [slots,look] at h
 | u :: vs,k,i,v,h=>by
  simp only [slots,look] at h
  cases hb:Nat.beq i k with
  | true =>
   rw [hb] at h
   simp only [cond_true,Option.some.injEq] at h
   exact ⟨0,by rw [Nat.eq_of_beq_eq_true hb];rfl,by simp [h]⟩
  | false =>
   rw [hb] at h
   obtain ⟨j,h1,h2⟩:=look_slots vs (k + 1) i v h
   exact ⟨j + 1,by omega,by simpa using h2⟩
theorem Con.intro {P:Program} {f:FuncId} {fn:Func} {c:Code} {K:Nat} {vs:List Value} {A:List Blk} {R:Value → List Blk → Prop} (hf:P.funcs[f]? = some fn) (hb:fn.body = some c) (hN:fn.ntmps = K)
  (hle:Nat.ble vs.length K = true) (h:∀ B:Base,Cd P ⟨K,[]⟩ B.plain (post P fn B.plain R) c (slots 0 vs) A):Con P f vs.toArray A R:=by
 intro B w hS
 have hle':vs.length ≤ K:=by simpa [Nat.ble_eq] using hle
 refine Calls.mono (callsIn_wide.1 (callsIn_of_wp_marks hf hb trivial (h B _ w ⟨by simp [hN];omega,rfl,fun i v hi=>?_⟩ ⟨hS.os,hS.tape,hS.output,hS.base,hS.here,hS.apart,hS.nodup⟩) rfl)) fun e w' ⟨v,A',he,hR,hS'⟩=>⟨v,A',he,hR,hS'.os,hS'.tape,hS'.output,hS'.base,hS'.here,hS'.apart,hS'.nodup⟩
 obtain ⟨j,hj,hv⟩:=look_slots _ _ _ _ hi
 simp only [Nat.zero_add] at hj
 subst hj
 have hlt:i < vs.length:=(List.getElem?_eq_some_iff.1 hv).1
 simp only [Array.getElem?_append_left (show i < vs.toArray.size by simpa using hlt)]
 simpa using hv
def Res (P:Program) (N:Fi) (B:Base) (T:Tm) (A:List Blk) (r:ResultVar) (v:Value):Prop :=
 ∀ a w,Fr N T a → Sat B A w → (match r with
  | .tmp t=>(pure (a.tmps.getD t undef):Sem Value)
  | .cell x t=>do loadVar t (← asAddr (a.tmps.getD x undef))).run P w = .ok v w
section
variable {P:Program} {K:Nat} {N:Fi} {B:Base} {T:Tm} {A A':List Blk} {fn:Func} {R:Value → List Blk → Prop}
theorem Res.tmp {t:Nat} {v:Value} (h:look T t = some v):Res P N B T A (.tmp t) v:=fun a w hF _=>by
 simp [Array.getD_eq_getD_getElem?,hF.get _ _ h]
theorem Res.cell1 {x t b off:Nat} {v:Value} {sz bs:Nat} {zc L:List Value} {E:TypeId} [ht:Ty P t false sz bs zc] (hx:look T x = some (.pointer (some ⟨b,off,none⟩))) [hb:Has A b (cl L E)] (hv:L[off]? = some v) :
  Res P N B T A (.cell x t) v:=fun a w hF hS=>by
 simp [Array.getD_eq_getD_getElem?,hF.get _ _ hx,asAddr,loadVar,ht.run_isAgg,(cell_of hS.has off).trans hv]
theorem Res.cellN {x t b off:Nat} {sz bs:Nat} {zc L r:List Value} {E:TypeId} [ht:Ty P t true sz bs zc] (hx:look T x = some (.pointer (some ⟨b,off,none⟩))) [hb:Has A b (cl L E)] [hr:GetS L off sz r] :
  Res P N B T A (.cell x t) (.agg r.toArray):=fun a w hF hS=>by
 simp [Array.getD_eq_getD_getElem?,hF.get _ _ hx,asAddr,loadVar,ht.run_isAgg,ht.run_size,run_loadCells (getS_len hr) (fun j u hu=>(cell_of hS.has (off + j)).trans (getS_at hr j u hu))]
theorem of_leaves {a:Act} {w:World} {R:Ending → World → Prop} (hF:Fr ⟨K,[]⟩ T a) (h:∃ v,(results fn a.tmps).run P w = .ok v w ∧ R (.returned v) w):LeavesInM Fence.wide 0 P fn a.tmps R a.defers .returning w:=by
 rw [show a.defers = [] from hF.dfr]
 exact leaves_nil.2 h
theorem ret0 (hr:fn.results = #[]) (hA:∀ w,Sat B A w → Sat B A' w) (hR:R (.tuple #[]) A'):∀ a w,Fr ⟨K,[]⟩ T a → Sat B A w → post P fn B R .ret a w :=
 fun a w hF hS=>of_leaves hF ⟨.tuple #[],by simp [results,hr],.tuple #[],A',rfl,hR,hA w hS⟩
theorem end0 (hr:fn.results = #[]) (hA:∀ w,Sat B A w → Sat B A' w) (hR:R (.tuple #[]) A'):∀ a w,Fr ⟨K,[]⟩ T a → Sat B A w → post P fn B R .normal a w :=
 fun a w hF hS=>of_leaves hF ⟨.tuple #[],by simp [results,hr],.tuple #[],A',rfl,hR,hA w hS⟩
theorem ret1 {r:ResultVar} {v:Value} (hr:fn.results = #[r]) (h1:Res P ⟨K,[]⟩ B T A r v) (hA:∀ w,Sat B A w → Sat B A' w) (hR:R v A'):∀ a w,Fr ⟨K,[]⟩ T a → Sat B A w → post P fn B R .ret a w :=
 fun a w hF hS=>of_leaves hF ⟨v,by
  have e1:=h1 a w hF hS
  unfold results
  rw [hr]
  generalize hx:(fun x:ResultVar=>_:ResultVar → Sem Value) = f
  have e1':(f r).run P w = .ok v w:=by rw [← hx];exact e1
  simp [e1'],v,A',rfl,hR,hA w hS⟩
theorem ret2 {r s:ResultVar} {v u:Value} (hr:fn.results = #[r,s]) (h1:Res P ⟨K,[]⟩ B T A r v) (h2:Res P ⟨K,[]⟩ B T A s u) (hA:∀ w,Sat B A w → Sat B A' w) (hR:R (.tuple #[v,u]) A'):∀ a w,Fr ⟨K,[]⟩ T a → Sat B A w → post P fn B R .ret a w :=
 fun a w hF hS=>of_leaves hF ⟨.tuple #[v,u],by
  have e1:=h1 a w hF hS
  have e2:=h2 a w hF hS
  unfold results
  rw [hr]
  generalize hx:(fun x:ResultVar=>_:ResultVar → Sem Value) = f
  have e1':(f r).run P w = .ok v w:=by rw [← hx];exact e1
  have e2':(f s).run P w = .ok u w:=by rw [← hx];exact e2
  simp [e1',e2'],_,A',rfl,hR,hA w hS⟩
theorem ret3 {r s q:ResultVar} {v u x:Value} (hr:fn.results = #[r,s,q]) (h1:Res P ⟨K,[]⟩ B T A r v) (h2:Res P ⟨K,[]⟩ B T A s u) (h3:Res P ⟨K,[]⟩ B T A q x) (hA:∀ w,Sat B A w → Sat B A' w) (hR:R (.tuple #[v,u,x]) A'):∀ a w,Fr ⟨K,[]⟩ T a → Sat B A w → post P fn B R .ret a w :=
 fun a w hF hS=>of_leaves hF ⟨.tuple #[v,u,x],by
  have e1:=h1 a w hF hS
  have e2:=h2 a w hF hS
  have e3:=h3 a w hF hS
  unfold results
  rw [hr]
  generalize hx:(fun x:ResultVar=>_:ResultVar → Sem Value) = f
  have e1':(f r).run P w = .ok v w:=by rw [← hx];exact e1
  have e2':(f s).run P w = .ok u w:=by rw [← hx];exact e2
  have e3':(f q).run P w = .ok x w:=by rw [← hx];exact e3
  simp [e1',e2',e3'],_,A',rfl,hR,hA w hS⟩
end
end Go.Sep
namespace Go.Sep
open Go
def placesB (P:Program) (t:TypeId):Option (List (Nat × Nat)) :=
 match P.underlying t with
 | some (.struct fields)=>fields.toList.mapM fun f=>(P.info? f.type).map fun i=>(f.offset,i.size)
 | _=>none
class Places (P:Program) (t:TypeId) (pl:outParam (List (Nat × Nat))):Prop where
 eq:placesB P t = some pl
theorem run_places {P:Program} {w:World}:∀ (fs:List Field) (pl:List (Nat × Nat)),(fs.mapM fun f=>(P.info? f.type).map fun i=>(f.offset,i.size)) = some pl →
  (fs.mapM (fun f=>do pure (f.offset,← sizeOf f.type)):Sem (List (Nat × Nat))).run P w = .ok pl w
 | [],pl,h=>by simp at h;simp [h]
 | f :: fs,pl,h=>by
  cases hi:P.info? f.type with
  | none=>simp [List.mapM_cons,hi] at h
  | some i =>
   simp only [List.mapM_cons,hi,Option.map_some,Option.bind_eq_bind,Option.bind_some,Option.bind_eq_some_iff] at h
   obtain ⟨pl',h1,h2⟩:=h
   simp only [Option.pure_def,Option.some.injEq] at h2
   subst h2
   simp [List.mapM_cons,sizeOf,typeInfo,hi]
   have:=run_places (P:=P) (w:=w) fs pl' h1
   simp [sizeOf,typeInfo] at this
   rw [this]
   simp
class PlaceAt (pl:List (Nat × Nat)) (i:Nat) (o n:outParam Nat):Prop where
 eq:pl[i]? = some (o,n)
instance PlaceAt.z {pl:List (Nat × Nat)} {o n:Nat}:PlaceAt ((o,n) :: pl) 0 o n:=⟨rfl⟩
instance PlaceAt.s {pl:List (Nat × Nat)} {p:Nat × Nat} {i o n:Nat} [h:PlaceAt pl i o n]:PlaceAt (p :: pl) (i + 1) o n:=⟨by simpa using h.eq⟩
class LenIs (l:List Value) (n:outParam Nat):Prop where
 eq:l.length = n
instance LenIs.z:LenIs [] 0:=⟨rfl⟩
instance LenIs.s {x:Value} {l:List Value} {n:Nat} [h:LenIs l n]:LenIs (x :: l) (n + 1):=⟨by simp [h.eq]⟩
class BEqN (m n:Nat):Prop where
 eq:m = n
instance BEqN.mk' {n:Nat}:BEqN n n:=⟨rfl⟩
class FillC (pl:List (Nat × Nat)) (ps:List (Nat × Value)) (l:List Value) (l':outParam (List Value)):Prop where
 eq:Instr.fill (pl.toArray[·]?) l.toArray ps = some l'.toArray
instance FillC.z {pl:List (Nat × Nat)} {l:List Value}:FillC pl [] l l:=⟨rfl⟩
instance FillC.s {pl:List (Nat × Nat)} {i o n m:Nat} {v:Value} {vs l l1 l':List Value} {ps:List (Nat × Value)} [h1:PlaceAt pl i o n] [h2:Cells v vs] [h3:LenIs vs m] [h4:SetS l o vs l1] [h5:FillC pl ps l1 l'] [h6:BEqN m n] :
  FillC pl ((i,v) :: ps) l l':=⟨by
 rw [fill_one (off:=o) (size:=n) (vs:=vs) (by simpa using h1.eq) h2.eq (h3.eq.trans h6.eq) (by simpa using h4.eq.2)]
 have e:=h4.eq.1
 simp only [ins] at *
 rw [← e]
 exact h5.eq⟩
def evp (T:Tm):List (Nat × Operand) → Option (List (Nat × Value))
 | []=>some []
 | (i,x) :: xs=>match ev T x,evp T xs with
  | some v,some vs=>some ((i,v) :: vs)
  | _,_=>none
theorem Fr.evalp {N:Fi} {T:Tm} {a:Act} (h:Fr N T a):∀ {xs:List (Nat × Operand)} {vs:List (Nat × Value)},evp T xs = some vs → xs.map (fun (i,x)=>(i,a.eval x)) = vs
 | [],vs,hx=>by simp [evp] at hx;simp [hx]
 | (i,x) :: xs,vs,hx=>by
  simp only [evp] at hx
  split at hx
  ·rename_i v us hv hus
   simp only [Option.some.injEq] at hx
   subst hx
   simp only [List.map_cons,h.eval hv,List.cons.injEq,true_and]
   exact h.evalp hus
  ·cases hx
section
variable {P:Program} {N:Fi} {B:Base} {Q:Exit → Act → World → Prop} {T:Tm} {A:List Blk} {ops:Array Oper} {l:List Oper}
variable {d:Nat} {ty:TypeId} {pos:String} {af:Array Edge} {m:Md} {gd:Option (Nat × Bool)}
theorem Ops.bld {t:TypeId} {parts:List (Nat × Operand)} {ps:List (Nat × Value)} {pl:List (Nat × Nat)} {sz bs:Nat} {zc l':List Value} (hm:m.rd true = true) (hg:gst ops T gd = some true) (hp:evp T parts = some ps) [ht:Ty P t true sz bs zc] [hl:Places P t pl]
  [hf:FillC pl ps zc l'] (hd:Nat.blt d N.n = true) (k:Ops P N B Q ops m.tl l ((d,.agg l'.toArray) :: T) A) :
  Ops P N B Q ops m (⟨some d,.build t parts.toArray,ty,pos,af,gd⟩ :: l) T A :=
 Ops.pureV hm hg hd (fun a w hF=>by
  obtain ⟨z,hz,hzc⟩:=ht.run_zero (w:=w)
  have h1:=hl.eq
  unfold placesB at h1
  split at h1
  ·rename_i fields hu
   have h2:=run_places (P:=P) (w:=w) fields.toList pl h1
   have h3:(fields.mapM (fun f=>do pure (f.offset,← sizeOf f.type)):Sem (Array (Nat × Nat))).run P w = .ok pl.toArray w:=by
    rw [Array.mapM_eq_mapM_toList]
    simp only [Sem.run_map,h2,Result.andThen_ok]
   have h4:(parts.toArray.map fun (i,x)=>(i,a.eval x)).toList = ps:=by simpa using hF.evalp hp
   simp only [execOp,Instr.build,Sem.run_bind,hz,Result.andThen_ok,run_underlying hu w,h3,h4,hzc,hf.eq]
   simp
  ·cases h1) k
end
end Go.Sep
namespace Go.Sep
open Go
theorem Sat.split {B:Base} {A A1:List Blk} {F:List Blk} [h:Split A A1 F] {w:World} (hS:Sat B A w):Sat B A1 w:=(hS.perm h.perm).left
def RowsOk (sz:Nat) (rows:List (List Value)):Prop:=∀ r ∈ rows,r.length = sz ∧ oneAll r = true
theorem RowsOk.len {sz:Nat}:∀ {rows:List (List Value)},RowsOk sz rows → rows.flatten.length = rows.length * sz
 | [],_=>by simp
 | r :: rows,h=>by
  have h1:=(h r (List.mem_cons_self ..)).1
  have h2:=RowsOk.len (rows:=rows) fun x hx=>h x (List.mem_cons_of_mem _ hx)
  simp [h1,h2,Nat.add_mul,Nat.add_comm]
theorem RowsOk.at_ {sz:Nat}:∀ {rows:List (List Value)},RowsOk sz rows → ∀ {i k:Nat} {r:List Value},rows[i]? = some r → k < sz → rows.flatten[i * sz + k]? = r[k]?
 | [],_,i,k,r,hi,_=>by simp at hi
 | x :: rows,h,0,k,r,hi,hk=>by
  simp only [List.getElem?_cons_zero,Option.some.injEq] at hi
  subst hi
  have:=(h x (List.mem_cons_self ..)).1
  simp only [List.flatten_cons,Nat.zero_mul,Nat.zero_add]
  rw [List.getElem?_append_left (by omega)]
 | x :: rows,h,i + 1,k,r,hi,hk=>by
  have h1:=(h x (List.mem_cons_self ..)).1
  have ih:=RowsOk.at_ (rows:=rows) (fun y hy=>h y (List.mem_cons_of_mem _ hy)) (i:=i) (k:=k) (r:=r) (by simpa using hi) hk
  simp only [List.flatten_cons]
  rw [List.getElem?_append_right (by rw [h1,Nat.add_mul];omega),h1,show (i + 1) * sz + k - sz = i * sz + k from by rw [Nat.add_mul];omega]
  exact ih
theorem RowsOk.app {sz:Nat} {a b:List (List Value)} (ha:RowsOk sz a) (hb:RowsOk sz b):RowsOk sz (a ++ b):=fun r hr=>by
 rcases List.mem_append.1 hr with h|h
 ·exact ha r h
 ·exact hb r h
theorem RowsOk.one {sz:Nat} {r:List Value} (h:r.length = sz) (h1:oneAll r = true):RowsOk sz [r]:=fun x hx=>by
 rw [List.mem_singleton.1 hx];exact ⟨h,h1⟩
theorem RowsOk.nil {sz:Nat}:RowsOk sz []:=fun _ h=>by cases h
def Own (E sz:Nat) (sv:Value) (rows:List (List Value)) (G:List Blk):Prop :=
 RowsOk sz rows ∧ ((sv = .slice none 0 0 ∧ rows = [] ∧ G = []) ∨
  ∃ g c spare,sv = .slice (some ⟨g,0,none⟩) rows.length c ∧ G = [(g,cl (rows.flatten ++ spare) E)] ∧ rows.flatten.length + spare.length = c * sz ∧ rows.length ≤ c)
theorem Own.none {E sz:Nat}:Own E sz (.slice none 0 0) [] []:=⟨RowsOk.nil,.inl ⟨rfl,rfl,rfl⟩⟩
theorem Own.form {E sz:Nat} {sv:Value} {rows:List (List Value)} {G:List Blk} (h:Own E sz sv rows G):∃ a c,sv = .slice a rows.length c:=by
 rcases h.2 with ⟨rfl,rfl,_⟩|⟨g,c,_,rfl,_⟩
 ·exact ⟨_,_,rfl⟩
 ·exact ⟨_,_,rfl⟩
theorem Own.some_ {E sz:Nat} {sv:Value} {rows:List (List Value)} {G:List Blk} (h:Own E sz sv rows G) (hn:0 < rows.length) :
  ∃ g c spare,sv = .slice (some ⟨g,0,.none⟩) rows.length c ∧ G = [(g,cl (rows.flatten ++ spare) E)] ∧ rows.flatten.length + spare.length = c * sz ∧ rows.length ≤ c:=by
 rcases h.2 with ⟨_,rfl,_⟩|h
 ·simp at hn
 ·exact h
section
variable {P:Program} {N:Fi} {B:Base} {Q:Exit → Act → World → Prop} {T:Tm} {A:List Blk} {ops:Array Oper} {l:List Oper}
variable {d:Nat} {ty:TypeId} {pos:String} {af:Array Edge} {m:Md} {gd:Option (Nat × Bool)}
theorem Ops.ldRow {t:TypeId} {x:Operand} {b i:Nat} {sz bs:Nat} {zc r:List Value} {rows:List (List Value)} {spare:List Value} {E:TypeId} (hm:m.rd false = true) (hg:gst ops T gd = some true) [ht:Ty P t true sz bs zc]
  (hx:ev T x = some (.pointer (some ⟨b,i * sz,none⟩))) [hb:Has A b (cl (rows.flatten ++ spare) E)] (hr:RowsOk sz rows) (hi:rows[i]? = some r) (hd:Nat.blt d N.n = true)
  (k:Ops P N B Q ops m.tl l ((d,.agg r.toArray) :: T) A):Ops P N B Q ops m (⟨some d,.load t x,ty,pos,af,gd⟩ :: l) T A :=
 Ops.readV hm hg hd (fun a w hF hS=>by
  have hl:=(hr r (List.mem_of_getElem? hi)).1
  simp [execOp,hF.eval hx,run_loadAtN ht hl (fun j u hu=>by
   have hj:j < sz:=by rw [← hl];exact (List.getElem?_eq_some_iff.1 hu).1
   have h1:=hr.at_ hi hj
   rw [cell_of (hS.here _ hb.mem),List.getElem?_append_left (List.getElem?_eq_some_iff.1 (h1.trans hu)).1,h1,hu])]) k
theorem Ops.ldRow1 {t:TypeId} {x:Operand} {b i o:Nat} {sz sz' bs:Nat} {zc r:List Value} {rows:List (List Value)} {spare:List Value} {E:TypeId} {v:Value} (hm:m.rd false = true) (hg:gst ops T gd = some true) [ht:Ty P t false sz' bs zc]
  (hx:ev T x = some (.pointer (some ⟨b,i * sz + o,none⟩))) [hb:Has A b (cl (rows.flatten ++ spare) E)] (hr:RowsOk sz rows) (hi:rows[i]? = some r) (hv:r[o]? = some v) (hd:Nat.blt d N.n = true)
  (k:Ops P N B Q ops m.tl l ((d,v) :: T) A):Ops P N B Q ops m (⟨some d,.load t x,ty,pos,af,gd⟩ :: l) T A :=
 Ops.readV hm hg hd (fun a w hF hS=>by
  have hl:=(hr r (List.mem_of_getElem? hi)).1
  have ho:o < sz:=by rw [← hl];exact (List.getElem?_eq_some_iff.1 hv).1
  have h1:=hr.at_ hi ho
  have hc:w.cell? ⟨b,i * sz + o,none⟩ = some v:=by
   rw [cell_of (hS.here _ hb.mem),List.getElem?_append_left (List.getElem?_eq_some_iff.1 (h1.trans hv)).1,h1,hv]
  simp [execOp,hF.eval hx,run_loadAt1 ht hc]) k
end
theorem ins_app (a s n:List Value):ins (a ++ s) a.length n = a ++ n ++ s.drop n.length:=by
 simp [ins,List.drop_append]
section
variable {P:Program} {B:Base}
theorem run_firstCells {w:World} {g size n:Nat} {l:List Value} {E:TypeId} {a:Value} {len cap:Nat} (ha:a = .slice (some ⟨g,0,none⟩) len cap) (hb:w.heap[g]? = some (cl l E)) (hn:n * size ≤ l.length) :
  (Builtin.firstCells size n a).run P w = .ok (l.take (n * size)).toArray w:=by
 subst ha
 simp only [Builtin.firstCells]
 exact run_loadCells (by simp;omega) fun j u hu=>by
  have hj:j < n * size:=by
   have:=(List.getElem?_eq_some_iff.1 hu).1
   simp at this;omega
  rw [List.getElem?_take_of_lt hj] at hu
  rw [cell_of hb]
  simpa using hu
theorem nextcap_le {need c:Nat} (h:c < need):Builtin.nextslicecap need c ≤ need + need / 4 + 512:=by
 unfold Builtin.nextslicecap
 split
 ·omega
 ·split
  ·omega
  ·have hg:∀ (r c:Nat),c ≤ need + (need + 768) / 4 → Builtin.growBy need r c ≤ need + (need + 768) / 4:=by
    intro r
    induction r with
    | zero=>intro c hc;simpa [Builtin.growBy] using hc
    | succ r ih =>
     intro c hc
     simp only [Builtin.growBy]
     split
     ·exact hc
     ·rename_i hlt
      exact ih _ (by omega)
   have:=hg 4 c (by omega)
   omega
theorem effPost_mono {R R':Value → List Blk → Prop} {r:Result Next} (h:effPost P B R r) (hr:∀ v A',R v A' → ∃ A'',R' v A'' ∧ ∀ w,Sat B A' w → Sat B A'' w):effPost P B R' r:=by
 cases r with
 | ok n w =>
  cases n <;> simp only [effPost] at h ⊢
  case value v=>obtain ⟨A',h1,h2⟩:=h;obtain ⟨A'',h3,h4⟩:=hr _ _ h1;exact ⟨A'',h3,h4 _ h2⟩
  case skip=>obtain ⟨A',h1,h2⟩:=h;obtain ⟨A'',h3,h4⟩:=hr _ _ h1;exact ⟨A'',h3,h4 _ h2⟩
  case enter f args=>exact h.mono fun e w' ⟨v,A',he,h1,h2⟩=>by obtain ⟨A'',h3,h4⟩:=hr _ _ h1;exact ⟨v,A'',he,h3,h4 _ h2⟩
  case round l f tmps assign body=>exact h.mono fun e w' ⟨v,A',he,h1,h2⟩=>by obtain ⟨A'',h3,h4⟩:=hr _ _ h1;exact ⟨v,A'',he,h3,h4 _ h2⟩
 | halt x w=>simp only [effPost] at h
theorem _root_.Go.Sep.Sat.tail {p:Blk} {A:List Blk} {w:World} (h:Sat B (p :: A) w):Sat B A w:=Sat.right (A:=[p]) h
def AppR (E sz:Nat) (rows news:List (List Value)) (F:List Blk):Value → List Blk → Prop :=
 fun v X=>∃ G,Own E sz v (rows ++ news) G ∧ X = G ++ F
theorem run_append {w:World} {t ty e sz bs:Nat} {ge:Bool} {zc:List Value} (ht:TyD P t (.slice e)) (he:Ty P e ge sz bs zc) (hzc:zc.length = sz)
  {sv xv:Value} {rows news:List (List Value)} {G F:List Blk} (hS:Sat B (G ++ F) w) (hown:Own e sz sv rows G) (hnew:RowsOk sz news)
  (hlen:(Builtin.lenOf xv).run P w = .ok news.length w) (hx:(Builtin.firstCells sz news.length xv).run P w = .ok news.flatten.toArray w) (hx':∀ w',Sat B (G ++ F) w' → (Builtin.firstCells sz news.length xv).run P w' = .ok news.flatten.toArray w')
  (hbytes:(rows.length + news.length + (rows.length + news.length) / 4 + 512) * bs ≤ 281474976710656) (hmax:rows.length + news.length ≤ 9223372036854775807) :
  effPost P B (AppR e sz rows news F) ((do pure (Next.value (← Builtin.append_ #[t,t] ty #[sv,xv])):Sem Next).run P w):=by
 obtain ⟨a,c,hsv⟩:=hown.form
 obtain ⟨i,hi,his,hib⟩:=he.run_info (w:=w)
 have hone:∀ u ∈ news.flatten,u.oneCell' = true:=fun u hu=>by
  obtain ⟨r,hr,hu⟩:=List.mem_flatten.1 hu
  exact oneAll_mem (hnew r hr).2 u hu
 have hnl:=hnew.len
 have hrl:=hown.1.len
 by_cases hcap:rows.length + news.length ≤ c
 ·rcases hown.2 with ⟨h1,h2,h3⟩|⟨g,c',spare,h1,h2,h3,h4⟩
  ·subst h2;subst h3
   rw [hsv] at h1
   injection h1 with h1 h1' h1''
   subst h1
   have hn0:news = []:=List.eq_nil_of_length_eq_zero (by simp at hcap;omega)
   subst hn0
   have hx0:(Builtin.firstCells sz 0 xv).run P w = .ok #[] w:=by simpa using hx
   have:(Builtin.append_ #[t,t] ty #[sv,xv]).run P w = .ok sv w:=by
    simp [Builtin.append_,ht.run_und,he.run_size,hsv,h1'',hlen,hx0]
   simp only [Sem.run_bind,this,Result.andThen_ok,Sem.run_pure,effPost]
   exact ⟨F,⟨[],by rw [hsv];simpa [h1''] using (Own.none (E:=e) (sz:=sz)),rfl⟩,by simpa using hS⟩
  ·rw [hsv] at h1
   injection h1 with h1 h1' h1''
   subst h1;subst h1'';subst h2
   have hfit:rows.flatten.length + news.flatten.length ≤ (rows.flatten ++ spare).length:=by
    rw [List.length_append,h3,hrl,hnl,← Nat.add_mul]
    exact Nat.mul_le_mul_right _ hcap
   obtain ⟨w',hr,hS'⟩:=run_storeCells (P:=P) (A1:=[]) (A2:=F) (b:=g) (E:=e) (off:=rows.length * sz) news.flatten 0 (rows.flatten ++ spare) w (by simpa using hS) hone (by rw [← hrl];omega)
   have:(Builtin.append_ #[t,t] ty #[sv,xv]).run P w = .ok (.slice (some ⟨g,0,none⟩) (rows.length + news.length) c) w':=by
    simp [Builtin.append_,ht.run_und,he.run_size,hsv,hlen,hcap,hx,add_none,hr]
   simp only [Sem.run_bind,this,Result.andThen_ok,Sem.run_pure,effPost]
   refine ⟨_,⟨[(g,cl (ins (rows.flatten ++ spare) (rows.length * sz + 0) news.flatten) e)],⟨hown.1.app hnew,.inr ⟨g,c,spare.drop news.flatten.length,by simp,?_,?_,by simpa using hcap⟩⟩,rfl⟩,by simpa using hS'⟩
   ·rw [Nat.add_zero,← hrl,ins_app,List.flatten_append]
   ·simp only [List.length_append] at hfit
    simp only [List.flatten_append,List.length_append,List.length_drop]
    omega
 ·have hle:=nextcap_le (need:=rows.length + news.length) (c:=c) (by omega)
  have hb2:¬ (Builtin.nextslicecap (rows.length + news.length) c * bs > 2 ^ 48):=by
   have:=Nat.mul_le_mul_right bs hle
   rw [show (2:Nat) ^ 48 = 281474976710656 from rfl]
   omega
  have hm2:¬ (IntKind.i64.max < (rows.length:Int) + (news.length:Int)):=by
   rw [show IntKind.i64.max = 9223372036854775807 from rfl]
   omega
  obtain ⟨z,hz,hzcell⟩:=he.run_zero (w:=w.drew)
  have hold:∀ w',Sat B (G ++ F) w' → (Builtin.firstCells sz rows.length sv).run P w' = .ok rows.flatten.toArray w':=by
   intro w' hS'
   rcases hown.2 with ⟨h1,h2,h3⟩|⟨g,c',spare,h1,h2,h3,h4⟩
   ·subst h1;subst h2
    simp [Builtin.firstCells]
   ·subst h2
    have:=run_firstCells (P:=P) (size:=sz) (n:=rows.length) h1 (hS'.here (g,cl (rows.flatten ++ spare) e) (by simp)) (by rw [List.length_append,hrl];omega)
    rw [this,← hrl]
    simp
  generalize hq:Question.appendCap (rows.length + news.length) c e = q
  have hfo:q.forced = false:=by subst hq;rfl
  have hcut:rows.length + news.length ≤ q.cut (w.tape w.drawn q):=by
   subst hq
   simp only [Question.cut]
   omega
  have hS2:Sat B (G ++ F) w.drew:=hS.drew
  obtain ⟨i3,hi3,his3,hib3⟩:=he.run_info (w:=w.drew)
  generalize hnce:q.cut (w.tape w.drawn q) = nc at hcut
  have hrest:(Builtin.zeroCells zc.toArray (nc - (rows.length + news.length))).size = (nc - (rows.length + news.length)) * sz:=by
   simp [Builtin.zeroCells,hzc]
  have:(Builtin.append_ #[t,t] ty #[sv,xv]).run P w =
    .ok (.slice (some ⟨w.heap.size,0,none⟩) (rows.length + news.length) nc) (w.drew.alloc (.cells (rows.flatten.toArray ++ news.flatten.toArray ++ Builtin.zeroCells zc.toArray (nc - (rows.length + news.length))) e)):=by
   unfold Builtin.append_
   clear hle hbytes hmax
   generalize (2:Nat) ^ 48 = M at hb2 ⊢
   generalize IntKind.i64.max = M2 at hm2 ⊢
   have hold2:=hold _ hS2
   have hx2:=hx' _ hS2
   rw [hsv] at hold2
   simp [ht.run_und,he.run_size,hsv,hlen,hcap,hi,hib,hm2,hb2,hq,hfo,hnce,hi3,hold2,hx2,hz,hzcell,newRow]
   simp only [← List.append_toArray,Array.append_assoc]
  simp only [Sem.run_bind,this,Result.andThen_ok,Sem.run_pure,effPost]
  refine ⟨_,⟨[(w.heap.size,cl ((rows ++ news).flatten ++ (Builtin.zeroCells zc.toArray (nc - (rows.length + news.length))).toList) e)],⟨hown.1.app hnew,.inr ⟨w.heap.size,nc,_,by simp,rfl,?_,by simpa using hcut⟩⟩,rfl⟩,?_⟩
  ·have h8:=(hown.1.app hnew).len
   rw [List.length_append] at h8
   have h7:(Builtin.zeroCells zc.toArray (nc - (rows.length + news.length))).toList.length = _:=Array.length_toList
   rw [h8,h7,hrest,← Nat.add_mul]
   congr 1
   omega
  ·have h9:=hS2.right.alloc (.cells (rows.flatten.toArray ++ news.flatten.toArray ++ Builtin.zeroCells zc.toArray (nc - (rows.length + news.length))) e)
   have e9:(Obj.cells (rows.flatten.toArray ++ news.flatten.toArray ++ Builtin.zeroCells zc.toArray (nc - (rows.length + news.length))) e) = cl ((rows ++ news).flatten ++ (Builtin.zeroCells zc.toArray (nc - (rows.length + news.length))).toList) e:=by
    simp [cl]
   rw [e9] at h9 ⊢
   exact h9
end
section
variable {P:Program} {N:Fi} {B:Base} {Q:Exit → Act → World → Prop} {T:Tm} {A:List Blk} {ops:Array Oper} {l:List Oper}
variable {d:Nat} {ty:TypeId} {pos:String} {af:Array Edge} {m:Md} {gd:Option (Nat × Bool)}
theorem Ops.app1 {t e sz bs g0 c0:Nat} {ge:Bool} {zc r:List Value} {x y:Operand} {sv:Value} {rows:List (List Value)} {G A1 F:List Blk} (hown:Own e sz sv rows G) (hbytes:(rows.length + 1 + (rows.length + 1) / 4 + 512) * bs ≤ 281474976710656) (hmax:rows.length + 1 ≤ 9223372036854775807)
  (hm:m.eff = true) (hg:gst ops T gd = some true) [ht:TyD P t (.slice e)] [he:Ty P e ge sz bs zc] (hx:ev T x = some sv) (hy:ev T y = some (.slice (some ⟨g0,0,none⟩) 1 c0)) [h0:Pop A g0 (cl r e) A1] [hs:Split A1 G F]
  (hr:r.length = sz) (hone:oneAll r = true) (hzc:zc.length = sz) (hp:Pd P N B ops m T (some d) (AppR e sz rows [r] F)) (hd:Nat.blt d N.n = true)
  (k:∀ v G',Own e sz v (rows ++ [r]) G' → Ops P N B Q ops m.tl l ((d,v) :: T) (G' ++ F)) :
  Ops P N B Q ops m (⟨some d,.call { callee:=.builtin .append,args:=#[x,y],argTypes:=#[t,t] },ty,pos,af,gd⟩ :: l) T A:=by
 have hperm:A.Perm (G ++ (g0,cl r e) :: F):=h0.perm.trans ((hs.perm.cons _).trans List.perm_middle.symm)
 have hread:∀ w,Sat B (G ++ (g0,cl r e) :: F) w → (Builtin.firstCells sz 1 (.slice (some ⟨g0,0,none⟩) 1 c0)).run P w = .ok r.toArray w:=fun w hS=>by
  have:=run_firstCells (P:=P) (size:=sz) (n:=1) (a:=.slice (some ⟨g0,0,none⟩) 1 c0) rfl (hS.here (g0,cl r e) (by simp)) (by omega)
  rw [this,Nat.one_mul,← hr,List.take_length]
 refine Ops.effV (R:=AppR e sz rows [r] F) hm hp hg hd (fun a w hF hS=>?_) fun v X ⟨G',hG',hX⟩=>?_
 ·have hS':=hS.perm hperm
  have:=run_append (P:=P) (w:=w) (ty:=ty) (sv:=sv) (xv:=.slice (some ⟨g0,0,none⟩) 1 c0) (news:=[r]) ht he hzc hS' hown (RowsOk.one hr hone) (by simp [Builtin.lenOf]) (by simpa using hread w hS') (fun w' h'=>by simpa using hread w' h') (by simpa using hbytes) (by simpa using hmax)
  simp only [execOp,resolve,invoke,builtin,Sem.run_bind,Sem.run_pure,Result.andThen_ok,List.map_toArray,List.map_cons,List.map_nil,hF.eval hx,hF.eval hy] at this ⊢
  exact effPost_mono this fun v A' ⟨G',h1,h2⟩=>⟨G' ++ F,⟨G',h1,rfl⟩,fun w hS=>by
   subst h2
   exact (hS.perm List.perm_middle).tail⟩
 ·rw [hX]
  exact k v G' hG'
end
end Go.Sep
namespace Go.Sep
open Go
def slA (g cap l sz:Nat):Addr:=if cap = l then ⟨g,0,none⟩ else ⟨g,l * sz,none⟩
theorem slA_eq {g cap l sz:Nat}:(if cap = l then some (⟨g,0,none⟩:Addr) else some ((⟨g,0,none⟩:Addr).add (l * sz))) = some (slA g cap l sz):=by
 unfold slA;split
 ·rfl
 ·simp [add_none]
theorem run_bound {P:Program} {w:World} {k:IntKind} {i:Int} {y:Nat} {code:BoundsCode} (h0:0 ≤ i) (h1:i ≤ y):(Instr.sliceBound (.int k i) y code).run P w = .ok i.toNat w:=by
 simp [Instr.sliceBound,asIntOf,h0,h1]
section
variable {P:Program} {N:Fi} {B:Base} {Q:Exit → Act → World → Prop} {T:Tm} {A:List Blk} {ops:Array Oper} {l:List Oper}
variable {d:Nat} {ty:TypeId} {pos:String} {af:Array Edge} {m:Md} {gd:Option (Nat × Bool)}
theorem Ops.slLo {t e:TypeId} {ge:Bool} {x y:Operand} {sz bs g n c:Nat} {zc:List Value} {k':IntKind} {i:Int} (hm:m.rd true = true) (hg:gst ops T gd = some true) [ht:TyD P t (.slice e)] [he:Ty P e ge sz bs zc]
  (hx:ev T x = some (.slice (some ⟨g,0,none⟩) n c)) (hy:ev T y = some (.int k' i)) (h0:0 ≤ i) (h1:i ≤ n) (hd:Nat.blt d N.n = true)
  (k:Ops P N B Q ops m.tl l ((d,.slice (some (slA g c i.toNat sz)) (n - i.toNat) (c - i.toNat)) :: T) A):Ops P N B Q ops m (⟨some d,.slice t x (some y) none none,ty,pos,af,gd⟩ :: l) T A :=
 Ops.pureV hm hg hd (fun a w hF=>by
  have:=slA_eq (g:=g) (cap:=c) (l:=i.toNat) (sz:=sz)
  simp only [execOp,hF.eval hx,hF.eval hy,Option.map_some,Option.map_none,Instr.sliceAt,Instr.slice,ht.run_und,Instr.sliceBounds,run_bound h0 h1,he.run_size,Sem.run_bind,Sem.run_pure,Result.andThen_ok,Option.isSome_none,Bool.false_eq_true,if_false,this]) k
theorem Ops.slHi {t e:TypeId} {ge:Bool} {x y:Operand} {sz bs n c:Nat} {a0:Option Addr} {zc:List Value} {k':IntKind} {i:Int} (hm:m.rd true = true) (hg:gst ops T gd = some true) [ht:TyD P t (.slice e)] [he:Ty P e ge sz bs zc]
  (hx:ev T x = some (.slice a0 n c)) (hy:ev T y = some (.int k' i)) (h0:0 ≤ i) (h1:i ≤ c) (hd:Nat.blt d N.n = true)
  (k:Ops P N B Q ops m.tl l ((d,.slice a0 i.toNat c) :: T) A):Ops P N B Q ops m (⟨some d,.slice t x none (some y) none,ty,pos,af,gd⟩ :: l) T A :=
 Ops.pureV hm hg hd (fun a w hF=>by
  have e0:(if c = 0 then a0 else a0.map (·.add (0 * sz))) = a0:=by
   split
   ·rfl
   ·cases a0 <;> simp [Addr.add]
  simp only [execOp,hF.eval hx,hF.eval hy,Option.map_some,Option.map_none,Instr.sliceAt,Instr.slice,ht.run_und,Instr.sliceBounds,if_true,run_bound h0 h1,he.run_size,Sem.run_bind,Sem.run_pure,Result.andThen_ok,e0,Nat.sub_zero]) k
theorem Ops.sl3 {t e:TypeId} {ge:Bool} {x y z u:Operand} {sz bs n c:Nat} {a0:Option Addr} {zc:List Value} {k1 k2 k3:IntKind} {i j q:Int} (hm:m.rd true = true) (hg:gst ops T gd = some true) [ht:TyD P t (.slice e)] [he:Ty P e ge sz bs zc]
  (hx:ev T x = some (.slice a0 n c)) (hy:ev T y = some (.int k1 i)) (hz:ev T z = some (.int k2 j)) (hu:ev T u = some (.int k3 q)) (h0:0 ≤ i) (h1:i ≤ j) (h2:j ≤ q) (h3:q ≤ c) (hd:Nat.blt d N.n = true)
  (k:Ops P N B Q ops m.tl l ((d,.slice (if q.toNat = i.toNat then a0 else a0.map (·.add (i.toNat * sz))) (j.toNat - i.toNat) (q.toNat - i.toNat)) :: T) A):Ops P N B Q ops m (⟨some d,.slice t x (some y) (some z) (some u),ty,pos,af,gd⟩ :: l) T A :=
 Ops.pureV hm hg hd (fun a w hF=>by
  simp only [execOp,hF.eval hx,hF.eval hy,hF.eval hz,hF.eval hu,Option.map_some,Instr.sliceAt,Instr.slice,ht.run_und,Instr.sliceBounds,run_bound (show 0 ≤ q by omega) h3,run_bound (show 0 ≤ j by omega) (show j ≤ (q.toNat:Int) by omega),run_bound h0 (show i ≤ (j.toNat:Int) by omega),if_true,Option.isSome_some,he.run_size,Sem.run_bind,Sem.run_pure,Result.andThen_ok]) k
theorem run_eqGuard_slice {P:Program} {op:BinOp} {t:TypeId} {xo yo:Operand} {a b:Option Addr} {n c n' c':Nat} {w:World}:(eqGuard op t xo yo (.slice a n c) (.slice b n' c')).run P w = .ok () w:=by
 unfold eqGuard;cases op <;> rfl
theorem Ops.clr {t e sz bs g c i k' cc:Nat} {ge:Bool} {zc L:List Value} {x:Operand} {A':List Blk} (hm:m.eff = true) (hg:gst ops T gd = some true) [ht:TyD P t (.slice e)] [he:Ty P e ge sz bs zc]
  (hx:ev T x = some (.slice (some (slA g c i sz)) k' cc)) (hL:L.length = c * sz) (hik:i + k' ≤ c) (hk0:0 < k') (hzc:zc.length = sz) (hone:oneAll zc = true)
  [_hb:Has A g (cl L e)] [hu:Upd A g (cl L e) (cl (ins L (i * sz) (List.replicate k' zc).flatten) e) A'] (hp:Pd P N B ops m T none (fun _ X=>X = A'))
  (k:Ops P N B Q ops m.tl l T A') :
  Ops P N B Q ops m (⟨none,.call { callee:=.builtin .clear,args:=#[x],argTypes:=#[t] },ty,pos,af,gd⟩ :: l) T A :=
 Ops.effU hm hp hg (fun a w hF hS=>by
  obtain ⟨A1,A2,rfl,rfl⟩:=hu.put
  have hz:(Builtin.zeroCells zc.toArray k').toList = (List.replicate k' zc).flatten:=by
   apply List.ext_getElem?
   intro q
   have hlen:(List.replicate k' zc).flatten.length = k' * sz:=by simp [hzc]
   rcases Nat.lt_or_ge q (k' * sz) with hq|hq
   ·have h1:RowsOk sz (List.replicate k' zc):=fun r hr=>by rw [List.eq_of_mem_replicate hr];exact ⟨hzc,hone⟩
    have hsz:0 < sz:=by
     rcases Nat.eq_zero_or_pos sz with h|h
     ·subst h;omega
     ·exact h
    have hdiv:q / sz < k':=(Nat.div_lt_iff_lt_mul hsz).2 hq
    have hmod:q % sz < sz:=Nat.mod_lt _ hsz
    have h2:=h1.at_ (i:=q / sz) (k:=q % sz) (r:=zc) (by simp [hdiv]) hmod
    rw [show q / sz * sz + q % sz = q from by rw [Nat.mul_comm];exact Nat.div_add_mod q sz] at h2
    rw [h2]
    simp [Builtin.zeroCells,hzc,hq,hmod]
   ·have hzl:(Builtin.zeroCells zc.toArray k').toList.length = k' * sz:=by unfold Builtin.zeroCells;simp [hzc]
    rw [List.getElem?_eq_none (by omega),List.getElem?_eq_none (by omega)]
  have hone':∀ u ∈ (List.replicate k' zc).flatten,u.oneCell' = true:=fun u hu=>by
   obtain ⟨r,hr,hu⟩:=List.mem_flatten.1 hu
   rw [List.eq_of_mem_replicate hr] at hu
   exact oneAll_mem hone u hu
  have hci:c ≠ i:=by omega
  have hle2:i * sz + k' * sz ≤ c * sz:=by rw [← Nat.add_mul];exact Nat.mul_le_mul_right _ hik
  obtain ⟨w',hr,hS'⟩:=run_storeCells (P:=P) (off:=i * sz) (List.replicate k' zc).flatten 0 L w hS hone' (by simp [hzc];omega)
  obtain ⟨z,hzr,hzz⟩:=he.run_zero (w:=w)
  have h2:(Builtin.clear_ #[t] ty #[.slice (some (slA g c i sz)) k' cc]).run P w = .ok (.tuple #[]) w':=by
   unfold slA
   rw [if_neg hci]
   obtain ⟨k2,rfl⟩:∃ k2,k' = k2 + 1:=⟨k' - 1,by omega⟩
   simp [Builtin.clear_,ht.run_und,hzr,hzz,hz,hr]
  simp only [execOp,resolve,invoke,builtin,Sem.run_bind,Sem.run_pure,Result.andThen_ok,List.map_toArray,List.map_cons,List.map_nil,hF.eval hx,h2,effPost]
  exact ⟨_,rfl,by simpa using hS'⟩) fun v X hX=>by rw [hX];exact k
end
section
variable {P:Program} {t:TypeId}
theorem run_eql {x y:Value} {b:Bool} {w:World} (hb:binOp .eql t x y = (do pure (.bool (← Op.equal t x y)))) (h:∀ d:Nat,(Op.equalIn (d + 1) t x y).run P w = .ok b w):(binOp .eql t x y).run P w = .ok (.bool b) w:=by
 have h9:(Op.equal t x y).run P w = .ok b w:=h 9999
 rw [hb,Sem.run_bind,h9];rfl
theorem run_neq {x y:Value} {b:Bool} {w:World} (hb:binOp .neq t x y = (do pure (.bool (!(← Op.equal t x y))))) (h:∀ d:Nat,(Op.equalIn (d + 1) t x y).run P w = .ok b w):(binOp .neq t x y).run P w = .ok (.bool (!b)) w:=by
 have h9:(Op.equal t x y).run P w = .ok b w:=h 9999
 rw [hb,Sem.run_bind,h9];rfl
theorem eqIn_slNil {e:TypeId} [h:TyD P t (.slice e)] {a:Option Addr} {n c n' c':Nat} {w:World} (d:Nat):(Op.equalIn (d + 1) t (.slice a n c) (.slice none n' c')).run P w = .ok a.isNone w:=by
 cases a <;> simp [Op.equalIn,h.run_und]
theorem eqIn_ptrNil {e:TypeId} [h:TyD P t (.pointer e)] {a:Option Addr} {w:World} (d:Nat):(Op.equalIn (d + 1) t (.pointer a) (.pointer none)).run P w = .ok a.isNone w:=by
 cases a <;> simp [Op.equalIn,h.run_und]
instance BinRun.eqSlNilL {e:TypeId} [h:TyD P t (.slice e)] {a:Option Addr} {n c n' c':Nat}:BinRun P .eql t (.slice a n c) (.slice none n' c') (.bool a.isNone):=⟨fun xo yo w=>by
 rw [Sem.run_bind,run_eqGuard_slice,Result.andThen_ok]
 exact run_eql rfl fun d=>eqIn_slNil d⟩
theorem run_eqGuard_ptr {op:BinOp} {xo yo:Operand} {a b:Option Addr} {w:World}:(eqGuard op t xo yo (.pointer a) (.pointer b)).run P w = .ok () w:=by
 unfold eqGuard;cases op <;> rfl
instance BinRun.eqPtrNil {e:TypeId} [h:TyD P t (.pointer e)] {a:Option Addr}:BinRun P .eql t (.pointer a) (.pointer none) (.bool a.isNone):=⟨fun xo yo w=>by
 rw [Sem.run_bind,run_eqGuard_ptr,Result.andThen_ok]
 exact run_eql (by cases a <;> rfl) fun d=>eqIn_ptrNil d⟩
end
end Go.Sep
namespace Go.Sep
open Go
def fldsB (P:Program) (t:TypeId):Option (List (TypeId × Nat)) :=
 match P.underlying t with
 | some (.struct fields)=>if (fields.toList.all fun f=>f.name != "_") && !(P.stoodInHeld t) && !(P.eqGuardType P.depth t) then some (fields.toList.map fun f=>(f.type,f.offset)) else none
 | _=>none
class Flds (P:Program) (t:TypeId) (fl:outParam (List (TypeId × Nat))):Prop where
 eq:fldsB P t = some fl
theorem Flds.get {P:Program} {t:TypeId} {fl:List (TypeId × Nat)} (h:Flds P t fl) :
  ∃ fields:Array Field,P.underlying t = some (.struct fields) ∧ (∀ f ∈ fields.toList,f.name ≠ "_") ∧ P.stoodInHeld t = false ∧ P.eqGuardType P.depth t = false ∧ fl = fields.toList.map fun f=>(f.type,f.offset):=by
 have h1:=h.eq
 unfold fldsB at h1
 split at h1
 ·rename_i fields hu
  split at h1
  ·rename_i hc
   simp only [Bool.and_eq_true,List.all_eq_true,Bool.not_eq_true'] at hc
   injection h1 with h1
   exact ⟨fields,hu,fun f hf=>by simpa using hc.1.1 f hf,hc.1.2,hc.2,h1.symm⟩
  ·cases h1
 ·cases h1
class PartV (g:Bool) (sz:Nat) (xs:List Value) (off:Nat) (v:outParam Value):Prop where
 agg:g = true → ∃ r,v = .agg r.toArray ∧ r = (xs.drop off).take sz ∧ off + sz ≤ xs.length
 one:g = false → xs[off]? = some v
instance PartV.a {sz off:Nat} {xs r:List Value} [h:GetS xs off sz r]:PartV true sz xs off (.agg r.toArray):=⟨fun _=>⟨r,rfl,h.eq⟩,fun h=>by cases h⟩
instance PartV.o {sz off:Nat} {xs:List Value} {v:Value} [h:GetS xs off 1 [v]]:PartV false sz xs off v:=⟨fun e=>(by cases e),fun _=>getS_at h 0 v rfl⟩
theorem run_part {P:Program} {t:TypeId} {g:Bool} {sz bs:Nat} {zc xs:List Value} {off:Nat} {v:Value} (ht:Ty P t g sz bs zc) (h:PartV g sz xs off v) (w:World):(part t xs.toArray off).run P w = .ok v w:=by
 simp only [part,Sem.run_bind,ht.run_isAgg,Result.andThen_ok]
 cases g with
 | true =>
  obtain ⟨r,rfl,hr,hle⟩:=h.agg rfl
  simp only [if_true,Sem.run_bind,ht.run_size,Result.andThen_ok,Sem.run_pure]
  rw [hr]
  simp
 | false =>
  have:=h.one rfl
  simp [this]
class EqV (P:Program) (lvl:Nat) (t:TypeId) (x y:Value) (r:outParam Bool):Prop where
 run:∀ (d:Nat) (w:World),(Op.equalIn (d + lvl) t x y).run P w = .ok r w
class EqF (P:Program) (lvl:Nat) (fl:List (TypeId × Nat)) (xs ys:List Value) (r:outParam Bool):Prop where
 run:∀ (d:Nat) (w:World) (fs:List Field),(∀ f ∈ fs,f.name ≠ "_") → fl = fs.map (fun f=>(f.type,f.offset)) → (Op.eqFields (d + lvl) xs.toArray ys.toArray fs).run P w = .ok r w
section
variable {P:Program} {lvl:Nat} {t:TypeId}
instance EqV.int {k k':IntKind} {a b:Int} [h:TyD P t (.int k')]:EqV P (lvl + 1) t (.int k a) (.int k b) (decide (a = b)):=⟨fun d w=>by
 rw [show d + (lvl + 1) = (d + lvl) + 1 from rfl,run_equalIn_int w (d + lvl) t k k' a b h.und];rfl⟩
instance EqV.str {a b:ByteArray} [h:TyD P t .string]:EqV P (lvl + 1) t (.string a) (.string b) (decide (a = b)):=⟨fun d w=>by
 rw [show d + (lvl + 1) = (d + lvl) + 1 from rfl,run_equalIn_string w (d + lvl) t a b h.und,list_beq]⟩
instance EqV.bool {a b:Bool} [h:TyD P t .bool]:EqV P (lvl + 1) t (.bool a) (.bool b) (a == b):=⟨fun d w=>by
 rw [show d + (lvl + 1) = (d + lvl) + 1 from rfl,run_equalIn_bool' w (d + lvl) t a b h.und]⟩
instance EqF.nil {xs ys:List Value}:EqF P lvl [] xs ys true:=⟨fun d w fs _ h=>by
 obtain rfl:fs = []:=by
  cases fs with
  | nil=>rfl
  | cons f fs=>cases h
 simp [Op.eqFields]⟩
instance EqF.cons {ft:TypeId} {off:Nat} {fl:List (TypeId × Nat)} {xs ys:List Value} {g:Bool} {sz bs:Nat} {zc:List Value} {vx vy:Value} {r1 r2:Bool} [ht:Ty P ft g sz bs zc] [hx:PartV g sz xs off vx] [hy:PartV g sz ys off vy] [h1:EqV P lvl ft vx vy r1] [h2:EqF P lvl fl xs ys r2] :
  EqF P lvl ((ft,off) :: fl) xs ys (r1 && r2):=⟨fun d w fs hn h=>by
 cases fs with
 | nil=>cases h
 | cons f fs =>
  simp only [List.map_cons,List.cons.injEq,Prod.mk.injEq] at h
  obtain ⟨⟨e1,e2⟩,e3⟩:=h
  subst e1;subst e2
  have:=h2.run d w fs (fun x hx=>hn x (List.mem_cons_of_mem _ hx)) e3
  simp only [Op.eqFields,if_pos (hn f (List.mem_cons_self ..)),Sem.run_bind,run_part ht hx,run_part ht hy,Result.andThen_ok,h1.run]
  cases r1 with
  | true=>simpa using this
  | false=>simp⟩
instance EqV.str_ {fl:List (TypeId × Nat)} {xs ys:List Value} {r:Bool} [h:Flds P t fl] [hf:EqF P lvl fl xs ys r]:EqV P (lvl + 1) t (.agg xs.toArray) (.agg ys.toArray) r:=⟨fun d w=>by
 obtain ⟨fields,hu,hn,hs,_,hfl⟩:=h.get
 have e:P.fieldsOf t = fields:=by simp [Program.fieldsOf,hu]
 rw [show d + (lvl + 1) = (d + lvl) + 1 from rfl,run_equalIn_struct w (d + lvl) t _ _ (by rw [e];exact hu) hs,e]
 exact hf.run d w fields.toList hn hfl⟩
class EqSelf (P:Program) (lvl:Nat) (t:TypeId) (x:Value):Prop where
 run:∀ (d:Nat) (w:World),(Op.equalIn (d + lvl) t x x).run P w = .ok true w
class EqSelfF (P:Program) (lvl:Nat) (fl:List (TypeId × Nat)) (xs:List Value):Prop where
 run:∀ (d:Nat) (w:World) (fs:List Field),(∀ f ∈ fs,f.name ≠ "_") → fl = fs.map (fun f=>(f.type,f.offset)) → (Op.eqFields (d + lvl) xs.toArray xs.toArray fs).run P w = .ok true w
instance EqSelf.int {k k':IntKind} {a:Int} [h:TyD P t (.int k')]:EqSelf P (lvl + 1) t (.int k a):=⟨fun d w=>by
 have:=(EqV.int (P:=P) (lvl:=lvl) (t:=t) (k:=k) (a:=a) (b:=a)).run d w
 simpa using this⟩
instance EqSelf.str {a:ByteArray} [h:TyD P t .string]:EqSelf P (lvl + 1) t (.string a):=⟨fun d w=>by
 have:=(EqV.str (P:=P) (lvl:=lvl) (t:=t) (a:=a) (b:=a)).run d w
 simpa using this⟩
instance EqSelf.bool {a:Bool} [h:TyD P t .bool]:EqSelf P (lvl + 1) t (.bool a):=⟨fun d w=>by
 have:=(EqV.bool (P:=P) (lvl:=lvl) (t:=t) (a:=a) (b:=a)).run d w
 simpa using this⟩
instance EqSelfF.nil {xs:List Value}:EqSelfF P lvl [] xs:=⟨fun d w fs hn h=>(EqF.nil (P:=P) (lvl:=lvl) (xs:=xs) (ys:=xs)).run d w fs hn h⟩
instance EqSelfF.cons {ft:TypeId} {off:Nat} {fl:List (TypeId × Nat)} {xs:List Value} {g:Bool} {sz bs:Nat} {zc:List Value} {vx:Value} [ht:Ty P ft g sz bs zc] [hx:PartV g sz xs off vx] [h1:EqSelf P lvl ft vx] [h2:EqSelfF P lvl fl xs] :
  EqSelfF P lvl ((ft,off) :: fl) xs:=⟨fun d w fs hn h =>
 (EqF.cons (h1:=⟨h1.run⟩) (h2:=⟨h2.run⟩):EqF P lvl ((ft,off) :: fl) xs xs (true && true)).run d w fs hn h⟩
instance EqSelf.struct {fl:List (TypeId × Nat)} {xs:List Value} [h:Flds P t fl] [hf:EqSelfF P lvl fl xs]:EqSelf P (lvl + 1) t (.agg xs.toArray):=⟨fun d w =>
 (EqV.str_ (hf:=⟨hf.run⟩):EqV P (lvl + 1) t (.agg xs.toArray) (.agg xs.toArray) true).run d w⟩
theorem eqGuard_flds {fl:List (TypeId × Nat)} (h:Flds P t fl) {op:BinOp} {xo yo:Operand} {xs ys:List Value} (w:World):(eqGuard op t xo yo (.agg xs.toArray) (.agg ys.toArray)).run P w = .ok () w :=
 let ⟨_,_,_,_,hg,_⟩:=h.get
 run_eqGuard_agg w op t xo yo _ _ hg
instance BinRun.eqlAgg {fl:List (TypeId × Nat)} {xs ys:List Value} {r:Bool} [h:Flds P t fl] [hv:EqV P 8 t (.agg xs.toArray) (.agg ys.toArray) r]:BinRun P .eql t (.agg xs.toArray) (.agg ys.toArray) (.bool r):=⟨fun xo yo w=>by
 rw [Sem.run_bind,eqGuard_flds h,Result.andThen_ok,run_eql_struct,hv.run 9992];rfl⟩
instance BinRun.neqAgg {fl:List (TypeId × Nat)} {xs ys:List Value} {r:Bool} [h:Flds P t fl] [hv:EqV P 8 t (.agg xs.toArray) (.agg ys.toArray) r]:BinRun P .neq t (.agg xs.toArray) (.agg ys.toArray) (.bool (!r)):=⟨fun xo yo w=>by
 rw [Sem.run_bind,eqGuard_flds h,Result.andThen_ok,run_neq_struct,hv.run 9992];rfl⟩
instance (priority:=2000) BinRun.eqlSelf {fl:List (TypeId × Nat)} {xs:List Value} [h:Flds P t fl] [hv:EqSelf P 8 t (.agg xs.toArray)]:BinRun P .eql t (.agg xs.toArray) (.agg xs.toArray) (.bool true):=⟨fun xo yo w=>by
 rw [Sem.run_bind,eqGuard_flds h,Result.andThen_ok,run_eql_struct,hv.run 9992];rfl⟩
instance (priority:=2000) BinRun.neqSelf {fl:List (TypeId × Nat)} {xs:List Value} [h:Flds P t fl] [hv:EqSelf P 8 t (.agg xs.toArray)]:BinRun P .neq t (.agg xs.toArray) (.agg xs.toArray) (.bool false):=⟨fun xo yo w=>by
 rw [Sem.run_bind,eqGuard_flds h,Result.andThen_ok,run_neq_struct,hv.run 9992];rfl⟩
end
theorem flatten_set {sz:Nat}:∀ {rows:List (List Value)},RowsOk sz rows → ∀ {i:Nat} {r:List Value},i < rows.length → r.length = sz → ins rows.flatten (i * sz) r = (rows.set i r).flatten
 | [],_,i,r,hi,_=>by simp at hi
 | x :: rows,h,0,r,_,hr=>by
  have hx:=(h x (List.mem_cons_self ..)).1
  simp only [List.flatten_cons,List.set_cons_zero,ins,Nat.zero_mul,List.take_zero,List.nil_append,Nat.zero_add]
  rw [List.drop_left' (by omega)]
 | x :: rows,h,i + 1,r,hi,hr=>by
  have hx:=(h x (List.mem_cons_self ..)).1
  have ih:=flatten_set (rows:=rows) (fun y hy=>h y (List.mem_cons_of_mem _ hy)) (i:=i) (r:=r) (by simpa using hi) hr
  have hl:=RowsOk.len (rows:=rows) fun y hy=>h y (List.mem_cons_of_mem _ hy)
  simp only [List.flatten_cons,List.set_cons_succ]
  rw [← ih]
  unfold ins
  rw [show (i + 1) * sz = x.length + i * sz from by rw [hx,Nat.add_mul];omega,List.take_append,List.take_of_length_le (by omega),show x.length + i * sz - x.length = i * sz from by omega,
   show x.length + i * sz + r.length = x.length + (i * sz + r.length) from by omega,List.drop_append,List.drop_of_length_le (by omega),show x.length + (i * sz + r.length) - x.length = i * sz + r.length from by omega]
  simp
theorem ins_left {l s vs:List Value} {off:Nat} (h:off + vs.length ≤ l.length):ins (l ++ s) off vs = ins l off vs ++ s:=by
 unfold ins
 rw [List.take_append_of_le_length (by omega),List.drop_append_of_le_length (by omega)]
 simp
theorem RowsOk.set {sz:Nat} {rows:List (List Value)} (h:RowsOk sz rows) {i:Nat} {r:List Value} (hr:r.length = sz) (h1:oneAll r = true):RowsOk sz (rows.set i r):=fun x hx=>by
 rcases List.mem_or_eq_of_mem_set hx with hx|rfl
 ·exact h x hx
 ·exact ⟨hr,h1⟩
theorem Own.set {E sz g c:Nat} {rows:List (List Value)} {spare:List Value} (h:Own E sz (.slice (some ⟨g,0,.none⟩) rows.length c) rows [(g,cl (rows.flatten ++ spare) E)]) (hs:rows.flatten.length + spare.length = c * sz) (hle:rows.length ≤ c) {i:Nat} {r:List Value} (hr:r.length = sz) (h1:oneAll r = true) :
  Own E sz (.slice (some ⟨g,0,.none⟩) rows.length c) (rows.set i r) [(g,cl ((rows.set i r).flatten ++ spare) E)]:=by
 have h2:=h.1.set (i:=i) hr h1
 refine ⟨h2,.inr ⟨g,c,spare,by simp,rfl,?_,by simpa using hle⟩⟩
 rw [h2.len,List.length_set,← h.1.len];exact hs
section
variable {P:Program} {N:Fi} {B:Base} {Q:Exit → Act → World → Prop} {T:Tm} {A:List Blk} {ops:Array Oper} {l:List Oper}
variable {d:Nat} {ty:TypeId} {pos:String} {af:Array Edge} {m:Md} {gd:Option (Nat × Bool)}
theorem Ops.ldCell {t:TypeId} {x:Operand} {b i:Nat} {bs:Nat} {zc:List Value} {rows:List (List Value)} {spare:List Value} {E:TypeId} {v:Value} (hm:m.rd false = true) (hg:gst ops T gd = some true) [ht:Ty P t false 1 bs zc]
  (hx:ev T x = some (.pointer (some ⟨b,i * 1,none⟩))) [hb:Has A b (cl (rows.flatten ++ spare) E)] (hr:RowsOk 1 rows) (hi:rows[i]? = some [v]) (hd:Nat.blt d N.n = true)
  (k:Ops P N B Q ops m.tl l ((d,v) :: T) A):Ops P N B Q ops m (⟨some d,.load t x,ty,pos,af,gd⟩ :: l) T A :=
 Ops.ldRow1 (sz:=1) (o:=0) hm hg hx hr hi rfl hd k
theorem Ops.stRow {t:TypeId} {x y:Operand} {b i:Nat} {gt:Bool} {sz bs:Nat} {zc r:List Value} {rows:List (List Value)} {spare:List Value} {E:TypeId} {v:Value} {A':List Blk} (hm:m.eff = true) (hg:gst ops T gd = some true) [ht:Ty P t gt sz bs zc]
  (hx:ev T x = some (.pointer (some ⟨b,i * sz,none⟩))) (hy:ev T y = some v) [hc:Cells v r] (h1:oneAll r = true) (hn:r.length = sz) [_hb:Has A b (cl (rows.flatten ++ spare) E)] (hr:RowsOk sz rows) (hi:i < rows.length)
  [hu:Upd A b (cl (rows.flatten ++ spare) E) (cl ((rows.set i r).flatten ++ spare) E) A'] (hp:Pd P N B ops m T none (fun _ X=>X = A'))
  (k:Ops P N B Q ops m.tl l T A'):Ops P N B Q ops m (⟨none,.store t x y,ty,pos,af,gd⟩ :: l) T A :=
 Ops.unit hm hp hg (fun a w hF hS=>by
  obtain ⟨A1,A2,rfl,rfl⟩:=hu.put
  have hlen:=hr.len
  have hfit:i * sz + r.length ≤ rows.flatten.length:=by
   rw [hlen,hn,show i * sz + sz = (i + 1) * sz from by rw [Nat.add_mul];omega]
   exact Nat.mul_le_mul_right _ hi
  obtain ⟨w',hrun,hS'⟩:=run_storeAt (P:=P) hS ht hc.eq hn (off:=i * sz) (oneAll_mem h1) (by rw [List.length_append];omega)
  refine ⟨w',by simp [execOp,hF.eval hx,hF.eval hy,hrun],?_⟩
  rw [ins_left hfit,flatten_set hr hi hn] at hS'
  exact hS') k
end
def baseOf (w:World):Base:=⟨fun n=>w.heap[n]?,w.os,w.tape,w.output,none⟩
theorem sat_baseOf (w:World):Sat (baseOf w) [] w:=⟨rfl,rfl,rfl,fun _ _ h=>h,by simp,by simp,by simp⟩
theorem Sat.below {w w':World} {A:List Blk} (h:Sat (baseOf w) A w'):RowKit.Below w.heap.size w w':=by
 refine ⟨h.os,h.tape,h.output,?_,fun k hk=>?_⟩
 ·rcases Nat.lt_or_ge w'.heap.size w.heap.size with hlt|hge
  ·have h1:=h.base w'.heap.size _ (Array.getElem?_eq_getElem hlt)
   rw [Array.getElem?_eq_none (Nat.le_refl _)] at h1
   cases h1
  ·exact hge
 ·rw [h.base k _ (Array.getElem?_eq_getElem hk),Array.getElem?_eq_getElem hk]
theorem rd_base {w:World} {A:List Blk} {b off:Nat} {v:Value} (h:w.cell? ⟨b,off,none⟩ = some v):Rd (baseOf w) A b off v:=fun w' hS=>by
 have hb:b < w.heap.size:=World.block_lt_of_cell? w ⟨b,off,none⟩ h
 have h1:=hS.base b _ (Array.getElem?_eq_getElem hb)
 unfold World.cell? at h ⊢
 rw [h1]
 rw [Array.getElem?_eq_getElem hb] at h
 exact h
def Keeps (T:Tm):Tm → Prop
 | []=>True
 | (i,v) :: r=>look T i = some v ∧ Keeps T r
theorem Fr.keeps {N:Fi} {T T':Tm} {a:Act} (h:Fr N T a) (hk:Keeps T T'):Fr N T' a:=by
 refine h.keep fun i v hi=>?_
 induction T' with
 | nil=>cases hi
 | cons p T' ih =>
  obtain ⟨j,u⟩:=p
  simp only [look] at hi
  cases hb:Nat.beq i j with
  | true =>
   rw [hb] at hi
   simp only [cond_true,Option.some.injEq] at hi
   rw [Nat.eq_of_beq_eq_true hb,← hi]
   exact hk.1
  | false =>
   rw [hb] at hi
   exact ih hk.2 hi
section
variable {N:Fi} {B:Base} {Q:Exit → Act → World → Prop} {T:Tm} {A:List Blk}
theorem round_end {σ:Type} {I:σ → Prop} {Tf:σ → Tm} {Af:σ → List Blk} {μ:σ → Nat} {n:Nat} (s:σ) (hI:I s) (hμ:μ s < n) (hT:Keeps T (Tf s)) (hA:∀ w,Sat B A w → Sat B (Af s) w) :
  ∀ a w,Fr N T a → Sat B A w → Round N B I Tf Af μ n Q .normal a w:=fun _ _ hF hS=>⟨s,hI,hμ,hF.keeps hT,hA _ hS⟩
theorem meet_end {σ:Type} {I:σ → Prop} {Tf:σ → Tm} {Af:σ → List Blk} (s:σ) (hI:I s) (hT:Keeps T (Tf s)) (hA:∀ w,Sat B A w → Sat B (Af s) w) :
  ∀ a w,Fr N T a → Sat B A w → Meets N B I Tf Af Q .normal a w:=fun _ _ hF hS=>⟨s,hI,hF.keeps hT,hA _ hS⟩
end
theorem Cd.loopK {P:Program} {N:Fi} {B:Base} {Q:Exit → Act → World → Prop} {T:Tm} {A:List Blk} {σ:Type} {c:Code} (I:σ → Prop) (Tf:σ → Tm) (Af:σ → List Blk) (μ:σ → Nat) (s0:σ) (h0:I s0) (hT:Keeps T (Tf s0)) (hA:∀ w,Sat B A w → Sat B (Af s0) w)
  (round:∀ s,I s → Cd P N B (Round N B I Tf Af μ (μ s) Q) c (Tf s) (Af s)):Cd P N B Q (.loop c) T A :=
 Cd.loop I Tf Af μ s0 h0 (fun _ hF=>hF.keeps hT) hA round
end Go.Sep
namespace Go.Sep
open Go
inductive LK where
 | int (k:IntKind)
 | str
 | bool
def CellK:LK → Value → Prop
 | .int k,v=>∃ n,v = .int k n ∧ (Lit.int k n).wf = true
 | .str,v=>∃ s,v = .string s ∧ s.size ≤ maxLen
 | .bool,v=>∃ b,v = .bool b
def AllK:List LK → List Value → Prop
 | [],[]=>True
 | k :: ks,v :: vs=>CellK k v ∧ AllK ks vs
 | _,_=>False
theorem AllK.len:∀ {ks:List LK} {vs:List Value},AllK ks vs → vs.length = ks.length
 | [],[],_=>rfl
 | _ :: ks,_ :: vs,h=>by simp [AllK.len (ks:=ks) (vs:=vs) h.2]
 | [],_ :: _,h=>h.elim
 | _ :: _,[],h=>h.elim
theorem AllK.app:∀ {ks ks':List LK} {vs vs':List Value},AllK ks vs → AllK ks' vs' → AllK (ks ++ ks') (vs ++ vs')
 | [],_,[],_,_,h'=>h'
 | _ :: ks,_,_ :: vs,_,h,h'=>⟨h.1,AllK.app (ks:=ks) (vs:=vs) h.2 h'⟩
 | [],_,_ :: _,_,h,_=>h.elim
 | _ :: _,_,[],_,h,_=>h.elim
class FlatT (P:Program) (t:TypeId) (ks:outParam (List LK)):Prop where
 open_:∀ {H:Type} {enc:TypeId × Value → H} {w:World} {base:Nat} {spare:Nat → Bool} {held:Bool} {fuel:Nat} {cs:List Value} {x:DataW H × List MemPlace},
  DataW.trod enc P w base spare held fuel t cs = some x → AllK ks cs
class FlatF (P:Program) (fl:List (TypeId × Nat)) (start:Nat) (ks:outParam (List LK)):Prop where
 open_:∀ {H:Type} {enc:TypeId × Value → H} {w:World} {base:Nat} {spare:Nat → Bool} {held:Bool} {cs:List Value},
  (∀ p ∈ fl,∃ (n:Nat) (y:DataW H × List MemPlace),DataW.trod enc P w base spare held n p.1 ((cs.drop p.2).take (P.cellsOf p.1)) = some y) → AllK ks ((cs.drop start).take ks.length)
section
variable {P:Program} {t:TypeId}
instance FlatT.int {k:IntKind} [h:TyD P t (.int k)]:FlatT P t [.int k]:=⟨fun ht=>by
 obtain ⟨n,rfl,_,hw⟩:=DataW.trod_int h.und ht
 exact ⟨⟨n,rfl,hw⟩,trivial⟩⟩
instance FlatT.str [h:TyD P t .string]:FlatT P t [.str]:=⟨fun ht=>by
 obtain ⟨s,rfl,_,hs⟩:=DataW.trod_string h.und ht
 exact ⟨⟨s,rfl,hs⟩,trivial⟩⟩
instance FlatF.nil {start:Nat}:FlatF P [] start []:=⟨fun _=>by simp [AllK]⟩
theorem take_len {l:List Value} {n m:Nat} (h:(l.take n).length = m):l.take n = l.take m:=by
 rw [List.length_take] at h
 rcases Nat.le_total n l.length with h1|h1
 ·rw [show n = m from by omega]
 ·rw [List.take_of_length_le h1,List.take_of_length_le (by omega)]
theorem FlatF.step {ft start nx:Nat} {fl:List (TypeId × Nat)} {k1 k2:List LK} (h1:FlatT P ft k1) (h2:FlatF P fl nx k2) (hn:nx = start + k1.length):FlatF P ((ft,start) :: fl) start (k1 ++ k2):=⟨fun {_ _ _ _ _ _ cs} h=>by
 obtain ⟨n,y,hy⟩:=h (ft,start) (List.mem_cons_self ..)
 have a1:=h1.open_ hy
 have a2:=h2.open_ fun p hp=>h p (List.mem_cons_of_mem _ hp)
 rw [take_len a1.len] at a1
 subst hn
 rw [List.length_append,List.take_add]
 refine a1.app ?_
 rwa [List.drop_drop]⟩
class LKLen (ks:List LK) (n:Nat):Prop where
 eq:ks.length = n
instance LKLen.z:LKLen [] 0:=⟨rfl⟩
instance LKLen.s {k:LK} {ks:List LK} {n:Nat} [h:LKLen ks n]:LKLen (k :: ks) (n + 1):=⟨by simp [h.eq]⟩
instance FlatF.cons1 {ft start:Nat} {fl:List (TypeId × Nat)} {k:LK} {k2:List LK} [h1:FlatT P ft [k]] [h2:FlatF P fl (start + 1) k2]:FlatF P ((ft,start) :: fl) start (k :: k2):=FlatF.step h1 h2 rfl
instance (priority:=900) FlatF.cons2 {ft start:Nat} {fl:List (TypeId × Nat)} {k k':LK} {k2:List LK} [h1:FlatT P ft [k,k']] [h2:FlatF P fl (start + 2) k2]:FlatF P ((ft,start) :: fl) start (k :: k' :: k2):=FlatF.step h1 h2 rfl
def flB (P:Program) (t:TypeId):Option (List (TypeId × Nat)) :=
 match P.underlying t with
 | some (.struct fields)=>some (fields.toList.map fun f=>(f.type,f.offset))
 | _=>none
class FlS (P:Program) (t:TypeId) (fl:outParam (List (TypeId × Nat))):Prop where
 eq:flB P t = some fl
instance FlatT.struct {fl:List (TypeId × Nat)} {ks:List LK} {sz bs:Nat} {zc:List Value} [h:FlS P t fl] [hf:FlatF P fl 0 ks] [ht:Ty P t true sz bs zc] [hn:LKLen ks sz]:FlatT P t ks:=⟨fun {_ _ _ _ _ _ _ cs _} hx=>by
 have h1:=h.eq
 unfold flB at h1
 split at h1
 ·rename_i fields hu
  injection h1 with h1
  obtain ⟨xs,n,_,_,hlen,hxl,hat⟩:=DataW.trod_struct hu hx
  have hc:P.cellsOf t = sz:=by
   obtain ⟨i,z,hi,_,_,hs,_⟩:=ht.get
   simp [Program.cellsOf,hi,hs]
  have key:=hf.open_ (cs:=cs) fun p hp=>by
   rw [← h1] at hp
   obtain ⟨f,hfm,rfl⟩:=List.mem_map.1 hp
   obtain ⟨i,hi⟩:=List.getElem?_of_mem hfm
   have hi':fields[i]? = some f:=by simpa using hi
   have hlt:i < xs.length:=by rw [hxl];exact (Array.getElem?_eq_some_iff.1 hi').1
   exact ⟨n,xs[i],(hat i f hi').trans (List.getElem?_eq_getElem hlt)⟩
  rw [List.drop_zero,List.take_of_length_le (by rw [hlen,hc,hn.eq];exact Nat.le_refl _)] at key
  exact key
 ·cases h1⟩
end
theorem exists_list {α:Type} {p:Nat → α → Prop}:∀ (n:Nat),(∀ i,i < n → ∃ x,p i x) → ∃ l:List α,l.length = n ∧ ∀ i x,l[i]? = some x → p i x
 | 0,_=>⟨[],rfl,fun i x h=>by simp at h⟩
 | n + 1,h=>by
  obtain ⟨l,hl,hp⟩:=exists_list n fun i hi=>h i (by omega)
  obtain ⟨x,hx⟩:=h n (by omega)
  refine ⟨l ++ [x],by simp [hl],fun i y hy=>?_⟩
  rcases Nat.lt_or_ge i l.length with hi|hi
  ·rw [List.getElem?_append_left hi] at hy
   exact hp i y hy
  ·rw [List.getElem?_append_right hi] at hy
   have:i - l.length = 0:=by
    rcases Nat.eq_zero_or_pos (i - l.length) with h0|h0
    ·exact h0
    ·rw [List.getElem?_eq_none (by simp;omega)] at hy;cases hy
   rw [this] at hy
   simp only [List.getElem?_cons_zero,Option.some.injEq] at hy
   subst hy
   rw [show i = n from by omega]
   exact hx
def InRows (w:World) (sz:Nat) (ks:List LK) (a:Option Addr) (len:Nat):Prop :=
 ∀ i,i < len → ∃ (b o:Nat) (cs:List Value),a = some ⟨b,o,none⟩ ∧ cs.length = sz ∧ AllK ks cs ∧ ∀ j u,cs[j]? = some u → w.cell? ⟨b,o + i * sz + j,none⟩ = some u
theorem cell_spot {w:World} {b o:Nat} {s:Option Nat} {u:Value} (h:w.cell? ⟨b,o,s⟩ = some u):s = none:=by
 cases s with
 | none=>rfl
 | some x =>
  unfold World.cell? at h
  split at h <;> simp at h
theorem in_rows {H:Type} {enc:TypeId × Value → H} {P:Program} {w:World} {base:Nat} {spare:Nat → Bool} {held:Bool} {t e:TypeId} {fuel:Nat} {x:DataW H × List MemPlace} {a:Option Addr} {len cap:Nat} {g:Bool} {sz bs:Nat} {zc:List Value} {ks:List LK}
  (ht:P.underlying t = some (.slice e)) (he:Ty P e g sz bs zc) (hk:FlatT P e ks) (hsz:0 < sz) (h:DataW.trod enc P w base spare held fuel t [.slice a len cap] = some x) (hsp:∀ b,spare b = true) :
  InRows w sz ks a len ∧ (x.1 = .nil ∧ len = 0 ∨ ∃ el sp,x.1 = .slice el sp ∧ el.length = len ∧ len ≤ el.length + sp.length):=by
 have hc:P.cellsOf e = sz:=by
  obtain ⟨i,z,hi,_,_,hs,_⟩:=he.get
  simp [Program.cellsOf,hi,hs]
 rcases Go.Deep.open_slice ht h with ⟨h1,rfl⟩|⟨a',len',cap',m,n,D,Pl,hcs,hb,hl,hm,hmm,rfl,hi⟩
 ·simp only [List.cons.injEq,Value.slice.injEq,and_true] at h1
  obtain ⟨rfl,rfl,rfl⟩:=h1
  exact ⟨fun i hi=>absurd hi (by omega),.inl ⟨rfl,rfl⟩⟩
 ·simp only [List.cons.injEq,Value.slice.injEq,and_true] at hcs
  obtain ⟨rfl,rfl,rfl⟩:=hcs
  rw [hsp,if_pos rfl] at hmm
  subst hmm
  refine ⟨fun i him=>?_,.inr ⟨_,_,rfl,by simp,by simp⟩⟩
  obtain ⟨cs',hcl,htr⟩:=hi i (by omega)
  rw [hc] at hcl
  obtain ⟨_,hlen,hat⟩:=World.cells?_some hcl
  have hall:=hk.open_ htr
  obtain ⟨b,o,s⟩:=a'
  have h0:∃ u,w.cell? ⟨b,o,s⟩ = some u:=by
   obtain ⟨cs0,hcl0,_⟩:=hi 0 (by omega)
   rw [hc] at hcl0
   obtain ⟨_,hlen0,hat0⟩:=World.cells?_some hcl0
   have:=hat0 0 hsz
   rw [Nat.zero_mul] at this
   simp only [Addr.add,if_true] at this
   exact ⟨_,this.trans (List.getElem?_eq_getElem (by omega))⟩
  obtain ⟨u0,hu0⟩:=h0
  obtain rfl:=cell_spot hu0
  refine ⟨b,o,cs',rfl,hlen,hall,fun j u hu=>?_⟩
  have hj:j < sz:=by rw [← hlen];exact (List.getElem?_eq_some_iff.1 hu).1
  have:=hat j hj
  rw [add_none,add_none,hu] at this
  exact this
end Go.Sep
namespace Go.Sep
open Go
def Reads (P:Program) (B:Base) (A:List Blk) (sz:Nat) (yv:Value) (news:List (List Value)):Prop :=
 RowsOk sz news ∧ (∃ a c,yv = .slice a news.length c) ∧ ∀ w,Sat B A w → (Builtin.firstCells sz news.length yv).run P w = .ok news.flatten.toArray w
theorem Own.empty {e sz b:Nat}:Own e sz (.slice (some ⟨b,0,.none⟩) 0 0) [] [(b,cl [] e)]:=⟨RowsOk.nil,.inr ⟨b,0,[],rfl,rfl,by simp,Nat.le_refl _⟩⟩
section
variable {P:Program} {N:Fi} {B:Base} {Q:Exit → Act → World → Prop} {T:Tm} {A:List Blk} {ops:Array Oper} {l:List Oper}
variable {d:Nat} {ty:TypeId} {pos:String} {af:Array Edge} {m:Md} {gd:Option (Nat × Bool)}
theorem Reads.none {sz:Nat} {a:Option Addr} {c:Nat}:Reads P B A sz (.slice a 0 c) []:=by
 refine ⟨RowsOk.nil,⟨a,c,rfl⟩,fun w _=>?_⟩
 cases a with
 | none=>simp [Builtin.firstCells]
 | some x=>simp [Builtin.firstCells,loadCells,loadCellsFrom]
theorem Reads.own {e sz:Nat} {yv:Value} {rows:List (List Value)} {G F:List Blk} [hs:Split A G F] (h:Own e sz yv rows G):Reads P B A sz yv rows:=by
 refine ⟨h.1,?_,fun w hS=>?_⟩
 ·obtain ⟨a,c,e⟩:=h.form;exact ⟨a,c,e⟩
 have hS':=hS.perm hs.perm
 rcases h.2 with ⟨h1,h2,h3⟩|⟨g,c',spare,h1,h2,h3,h4⟩
 ·subst h1;subst h2
  simp [Builtin.firstCells]
 ·subst h2
  have hrl:=h.1.len
  have:=run_firstCells (P:=P) (size:=sz) (n:=rows.length) h1 (hS'.here (g,cl (rows.flatten ++ spare) e) (by simp)) (by rw [List.length_append,hrl];omega)
  rw [this,← hrl]
  simp
theorem Ops.appS {t e sz bs:Nat} {ge:Bool} {zc:List Value} {x y:Operand} {sv yv:Value} {rows news:List (List Value)} {G F:List Blk} (hown:Own e sz sv rows G) (hrd:Reads P B A sz yv news) (hbytes:(rows.length + news.length + (rows.length + news.length) / 4 + 512) * bs ≤ 281474976710656) (hmax:rows.length + news.length ≤ 9223372036854775807)
  (hm:m.eff = true) (hg:gst ops T gd = some true) [ht:TyD P t (.slice e)] [he:Ty P e ge sz bs zc] (hx:ev T x = some sv) (hy:ev T y = some yv) [hs:Split A G F]
  (hzc:zc.length = sz) (hp:Pd P N B ops m T (some d) (AppR e sz rows news F)) (hd:Nat.blt d N.n = true)
  (k:∀ v G',Own e sz v (rows ++ news) G' → Ops P N B Q ops m.tl l ((d,v) :: T) (G' ++ F)) :
  Ops P N B Q ops m (⟨some d,.call { callee:=.builtin .append,args:=#[x,y],argTypes:=#[t,t] },ty,pos,af,gd⟩ :: l) T A:=by
 obtain ⟨hnew,⟨ya,yc,rfl⟩,hread⟩:=hrd
 refine Ops.effV (R:=AppR e sz rows news F) hm hp hg hd (fun a w hF hS=>?_) fun v X ⟨G',hG',hX⟩=>?_
 ·have hS':=hS.perm hs.perm
  have:=run_append (P:=P) (w:=w) (ty:=ty) (sv:=sv) (xv:=.slice ya news.length yc) (news:=news) ht he hzc hS' hown hnew (by simp [Builtin.lenOf]) (hread w hS) (fun w' h'=>hread w' (h'.perm hs.perm.symm)) hbytes hmax
  simp only [execOp,resolve,invoke,builtin,Sem.run_bind,Sem.run_pure,Result.andThen_ok,List.map_toArray,List.map_cons,List.map_nil,hF.eval hx,hF.eval hy] at this ⊢
  exact this
 ·subst hX
  exact k v G' hG'
end
end Go.Sep
