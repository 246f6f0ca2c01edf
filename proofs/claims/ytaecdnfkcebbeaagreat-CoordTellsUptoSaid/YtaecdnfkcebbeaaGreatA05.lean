import Derived.Test.YtaecdnfkcebbeaaGreatA04
set_option linter.unusedVariables false
set_option linter.unusedSimpArgs false
namespace Go.Sep
open Go
def oneAll (l:List Value):Bool:=l.all Value.oneCell'
theorem oneAll_mem {l:List Value} (h:oneAll l = true):∀ u ∈ l,u.oneCell' = true:=by simpa [oneAll] using h
theorem getS_at {l r:List Value} {i n:Nat} (h:GetS l i n r):∀ j u,r[j]? = some u → l[i + j]? = some u:=by
 intro j u hu
 rw [h.eq.1] at hu
 have hj:j < n:=by
  rcases Nat.lt_or_ge j n with h'|h'
  ·exact h'
  ·rw [List.getElem?_eq_none (by simp;omega)] at hu;cases hu
 rw [List.getElem?_take_of_lt hj,List.getElem?_drop] at hu
 exact hu
theorem getS_len {l r:List Value} {i n:Nat} (h:GetS l i n r):r.length = n:=by
 rw [h.eq.1];have:=h.eq.2;simp;omega
def Rd (B:Base) (A:List Blk) (b off:Nat) (v:Value):Prop:=∀ w,Sat B A w → w.cell? ⟨b,off,none⟩ = some v
def evs (T:Tm):List Operand → Option (List Value)
 | []=>some []
 | x :: xs=>match ev T x,evs T xs with
  | some v,some vs=>some (v :: vs)
  | _,_=>none
theorem Fr.evals {N:Fi} {T:Tm} {a:Act} (h:Fr N T a):∀ {xs:List Operand} {vs:List Value},evs T xs = some vs → xs.map a.eval = vs
 | [],vs,hx=>by simp [evs] at hx;simp [hx]
 | x :: xs,vs,hx=>by
  simp only [evs] at hx
  split at hx
  ·rename_i v us hv hus
   simp only [Option.some.injEq] at hx
   subst hx
   simp [h.eval hv,h.evals hus]
  ·cases hx
class FnOk (P:Program) (f:FuncId):Prop where
 ok:∃ fn,P.funcs[f]? = some fn ∧ (fn.name == "runtime.NumGoroutine") = false ∧ fn.body.isNone = false
theorem run_callFunc {P:Program} {f:FuncId} (h:FnOk P f) (args:Array Value) (w:World):(callFunc f args).run P w = .ok (.enter f args) w:=by
 obtain ⟨fn,h1,h2,h3⟩:=h.ok
 simp only [callFunc,Sem.run_bind,run_program,Result.andThen_ok,h1]
 rw [h2,h3]
 simp
class UnRun (P:Program) (op:UnOp) (x:Value) (v:outParam Value):Prop where
 run:∀ w,(Op.unary op x).run P w = .ok v w
instance UnRun.not {P:Program} {b:Bool}:UnRun P .not (.bool b) (.bool (!b)):=⟨fun w=>by simp [Op.unary]⟩
section
variable {P:Program} {N:Fi} {B:Base} {Q:Exit → Act → World → Prop} {T:Tm} {A:List Blk} {ops:Array Oper} {l:List Oper}
variable {d:Nat} {op:Op} {ty:TypeId} {pos:String} {af:Array Edge} {m:Md} {gd:Option (Nat × Bool)}
def Pd (P:Program) (N:Fi) (B:Base) (ops:Array Oper) (m:Md) (T:Tm) (dst:Option Nat) (R:Value → List Blk → Prop):Prop :=
 ∀ v A',R v A' → ∀ i ∈ m.pend,Still P N B ops (putT dst v T) A' i
theorem noPd {dst:Option Nat} {R:Value → List Blk → Prop} (h:m.pend = []):Pd P N B ops m T dst R:=fun v A' _ i hi=>by rw [h] at hi;cases hi
theorem Ops.pureV {v:Value} (hm:m.rd true = true) (hg:gst ops T gd = some true) (hd:Nat.blt d N.n = true)
  (hrun:∀ a w,Fr N T a → (execOp a.eval ⟨some d,op,ty,pos,af,gd⟩).run P w = .ok (.value v) w)
  (k:Ops P N B Q ops m.tl l ((d,v) :: T) A):Ops P N B Q ops m (⟨some d,op,ty,pos,af,gd⟩ :: l) T A :=
 Ops.rdG true hm rfl hd (fun a w hF _=>.inl ⟨gst_wanted hF hg,hrun a w hF⟩) k
theorem Ops.readV {v:Value} (hm:m.rd false = true) (hg:gst ops T gd = some true) (hd:Nat.blt d N.n = true)
  (hrun:∀ a w,Fr N T a → Sat B A w → (execOp a.eval ⟨some d,op,ty,pos,af,gd⟩).run P w = .ok (.value v) w)
  (k:Ops P N B Q ops m.tl l ((d,v) :: T) A):Ops P N B Q ops m (⟨some d,op,ty,pos,af,gd⟩ :: l) T A :=
 Ops.rdG false hm rfl hd (fun a w hF h=>.inl ⟨gst_wanted hF hg,hrun a w hF (h.resolve_left (by simp))⟩) k
theorem Ops.effV {R:Value → List Blk → Prop} (hm:m.eff = true) (hp:Pd P N B ops m T (some d) R) (hg:gst ops T gd = some true) (hd:Nat.blt d N.n = true)
  (hrun:∀ a w,Fr N T a → Sat B A w → effPost P B R ((execOp a.eval ⟨some d,op,ty,pos,af,gd⟩).run P w))
  (k:∀ v A',R v A' → Ops P N B Q ops m.tl l ((d,v) :: T) A'):Ops P N B Q ops m (⟨some d,op,ty,pos,af,gd⟩ :: l) T A :=
 Ops.effG hm (fun d' h=>by injection h with h;rw [← h];exact hd) (fun a w hF hS=>.inl ⟨gst_wanted hF hg,hrun a w hF hS⟩) hp k
theorem Ops.effU {R:Value → List Blk → Prop} (hm:m.eff = true) (hp:Pd P N B ops m T none R) (hg:gst ops T gd = some true)
  (hrun:∀ a w,Fr N T a → Sat B A w → effPost P B R ((execOp a.eval ⟨none,op,ty,pos,af,gd⟩).run P w))
  (k:∀ v A',R v A' → Ops P N B Q ops m.tl l T A'):Ops P N B Q ops m (⟨none,op,ty,pos,af,gd⟩ :: l) T A :=
 Ops.effG hm (fun d' h=>by cases h) (fun a w hF hS=>.inl ⟨gst_wanted hF hg,hrun a w hF hS⟩) hp k
theorem Ops.unit {A':List Blk} (hm:m.eff = true) (hp:Pd P N B ops m T none (fun _ X=>X = A')) (hg:gst ops T gd = some true)
  (hrun:∀ a w,Fr N T a → Sat B A w → ∃ w',(execOp a.eval ⟨none,op,ty,pos,af,gd⟩).run P w = .ok .skip w' ∧ Sat B A' w')
  (k:Ops P N B Q ops m.tl l T A'):Ops P N B Q ops m (⟨none,op,ty,pos,af,gd⟩ :: l) T A :=
 Ops.effU hm hp hg (fun a w hF hS=>by
  obtain ⟨w',hr,hS'⟩:=hrun a w hF hS
  rw [hr]
  exact ⟨A',rfl,hS'⟩) fun _ X hX=>by rw [hX];exact k
def NewR (v:Nat → Value) (o:Obj) (A:List Blk):Value → List Blk → Prop:=fun u A'=>∃ b,u = v b ∧ A' = (b,o) :: A
theorem Ops.new {v:Nat → Value} {o:Obj} (hm:m.eff = true) (hp:Pd P N B ops m T (some d) (NewR v o A)) (hg:gst ops T gd = some true) (hd:Nat.blt d N.n = true)
  (hrun:∀ a w,Fr N T a → Sat B A w → (execOp a.eval ⟨some d,op,ty,pos,af,gd⟩).run P w = .ok (.value (v w.heap.size)) (w.alloc o))
  (k:∀ b,Ops P N B Q ops m.tl l ((d,v b) :: T) ((b,o) :: A)):Ops P N B Q ops m (⟨some d,op,ty,pos,af,gd⟩ :: l) T A :=
 Ops.effV hm hp hg hd (fun a w hF hS=>by
  rw [hrun a w hF hS]
  exact ⟨_,⟨_,rfl,rfl⟩,hS.alloc o⟩) fun v A' ⟨b,hv,hA⟩=>by rw [hv,hA];exact k b
theorem Ops.mv {x:Operand} {v:Value} (hm:m.rd true = true) (hg:gst ops T gd = some true) (hx:ev T x = some v) (hd:Nat.blt d N.n = true) (k:Ops P N B Q ops m.tl l ((d,v) :: T) A) :
  Ops P N B Q ops m (⟨some d,.move x,ty,pos,af,gd⟩ :: l) T A :=
 Ops.pureV hm hg hd (fun a w hF=>by simp [execOp,hF.eval hx]) k
theorem Ops.asg {x:Operand} {v:Value} (hm:m.rd true = true) (hg:gst ops T gd = some true) (hx:ev T x = some v) (hd:Nat.blt d N.n = true) (k:Ops P N B Q ops m.tl l ((d,v) :: T) A) :
  Ops P N B Q ops m (⟨some d,.assign x,ty,pos,af,gd⟩ :: l) T A :=
 Ops.pureV hm hg hd (fun a w hF=>by simp [execOp,hF.eval hx]) k
theorem Ops.asgE {x:Operand} {v:Value} (hm:m.eff = true) (hp:Pd P N B ops m T (some d) (fun u X=>u = v ∧ X = A)) (hg:gst ops T gd = some true) (hx:ev T x = some v) (hd:Nat.blt d N.n = true) (k:Ops P N B Q ops m.tl l ((d,v) :: T) A) :
  Ops P N B Q ops m (⟨some d,.assign x,ty,pos,af,gd⟩ :: l) T A :=
 Ops.effV hm hp hg hd (fun a w hF hS=>by
  simp [execOp,hF.eval hx,effPost]
  exact hS) fun u X ⟨h1,h2⟩=>by rw [h1,h2];exact k
theorem Ops.nilP {x:Operand} {p:Addr} (hm:m.rd true = true) (hg:gst ops T gd = some true) (hx:ev T x = some (.pointer (some p))) (hd:Nat.blt d N.n = true) (k:Ops P N B Q ops m.tl l ((d,.pointer (some p)) :: T) A) :
  Ops P N B Q ops m (⟨some d,.nilCheck x,ty,pos,af,gd⟩ :: l) T A :=
 Ops.pureV hm hg hd (fun a w hF=>by simp [execOp,hF.eval hx]) k
theorem Ops.fa0 {s f:Nat} {x:Operand} {b off n:Nat} (hm:m.rd true = true) (hg:gst ops T gd = some true) [hf:FOff P s f off n] (hx:ev T x = some (.pointer (some ⟨b,0,none⟩))) (hd:Nat.blt d N.n = true)
  (k:Ops P N B Q ops m.tl l ((d,.pointer (some ⟨b,off,none⟩)) :: T) A):Ops P N B Q ops m (⟨some d,.fieldAddr s x f,ty,pos,af,gd⟩ :: l) T A :=
 Ops.pureV hm hg hd (fun a w hF=>by
  simp only [execOp,hF.eval hx,Sem.run_bind,hf.run,Result.andThen_ok,Sem.run_pure]
  congr 5
  unfold Addr.add
  split
  ·simp [*]
  ·simp) k
theorem Ops.fa {s f:Nat} {x:Operand} {b o off n:Nat} (hm:m.rd true = true) (hg:gst ops T gd = some true) [hf:FOff P s f off n] (hx:ev T x = some (.pointer (some ⟨b,o,none⟩))) (hd:Nat.blt d N.n = true)
  (k:Ops P N B Q ops m.tl l ((d,.pointer (some ⟨b,o + off,none⟩)) :: T) A):Ops P N B Q ops m (⟨some d,.fieldAddr s x f,ty,pos,af,gd⟩ :: l) T A :=
 Ops.pureV hm hg hd (fun a w hF=>by
  simp only [execOp,hF.eval hx,Sem.run_bind,hf.run,Result.andThen_ok,Sem.run_pure]
  congr 5
  unfold Addr.add
  split
  ·simp [*]
  ·simp) k
theorem Ops.ld1 {t:TypeId} {x:Operand} {b off:Nat} {sz bs:Nat} {zc:List Value} {L:List Value} {E:TypeId} {v:Value} (hm:m.rd false = true) (hg:gst ops T gd = some true) [ht:Ty P t false sz bs zc]
  (hx:ev T x = some (.pointer (some ⟨b,off,none⟩))) [hb:Has A b (cl L E)] (hv:L[off]? = some v) (hd:Nat.blt d N.n = true)
  (k:Ops P N B Q ops m.tl l ((d,v) :: T) A):Ops P N B Q ops m (⟨some d,.load t x,ty,pos,af,gd⟩ :: l) T A :=
 Ops.readV hm hg hd (fun a w hF hS=>by simp [execOp,hF.eval hx,run_loadAt1 ht ((cell_of hS.has off).trans hv)]) k
theorem Ops.ldN {t:TypeId} {x:Operand} {b off:Nat} {sz bs:Nat} {zc:List Value} {L r:List Value} {E:TypeId} (hm:m.rd false = true) (hg:gst ops T gd = some true) [ht:Ty P t true sz bs zc]
  (hx:ev T x = some (.pointer (some ⟨b,off,none⟩))) [hb:Has A b (cl L E)] [hr:GetS L off sz r] (hd:Nat.blt d N.n = true)
  (k:Ops P N B Q ops m.tl l ((d,.agg r.toArray) :: T) A):Ops P N B Q ops m (⟨some d,.load t x,ty,pos,af,gd⟩ :: l) T A :=
 Ops.readV hm hg hd (fun a w hF hS=>by
  simp [execOp,hF.eval hx,run_loadAtN ht (getS_len hr) (fun j u hu=>(cell_of hS.has (off + j)).trans (getS_at hr j u hu))]) k
theorem Ops.ldR {t:TypeId} {x:Operand} {b off:Nat} {sz bs:Nat} {zc:List Value} {v:Value} (hm:m.rd false = true) (hg:gst ops T gd = some true) [ht:Ty P t false sz bs zc]
  (hx:ev T x = some (.pointer (some ⟨b,off,none⟩))) (hv:Rd B A b off v) (hd:Nat.blt d N.n = true)
  (k:Ops P N B Q ops m.tl l ((d,v) :: T) A):Ops P N B Q ops m (⟨some d,.load t x,ty,pos,af,gd⟩ :: l) T A :=
 Ops.readV hm hg hd (fun a w hF hS=>by simp [execOp,hF.eval hx,run_loadAt1 ht (hv w hS)]) k
theorem Ops.ldRN {t:TypeId} {x:Operand} {b off:Nat} {sz bs:Nat} {zc r:List Value} (hm:m.rd false = true) (hg:gst ops T gd = some true) [ht:Ty P t true sz bs zc]
  (hx:ev T x = some (.pointer (some ⟨b,off,none⟩))) (hr:r.length = sz) (hv:∀ j u,r[j]? = some u → Rd B A b (off + j) u) (hd:Nat.blt d N.n = true)
  (k:Ops P N B Q ops m.tl l ((d,.agg r.toArray) :: T) A):Ops P N B Q ops m (⟨some d,.load t x,ty,pos,af,gd⟩ :: l) T A :=
 Ops.readV hm hg hd (fun a w hF hS=>by simp [execOp,hF.eval hx,run_loadAtN ht hr (fun j u hu=>hv j u hu w hS)]) k
theorem Ops.st1 {t:TypeId} {x y:Operand} {b off:Nat} {gt:Bool} {bs:Nat} {zc:List Value} {L L':List Value} {E:TypeId} {v:Value} {A':List Blk} (hm:m.eff = true) (hg:gst ops T gd = some true) [ht:Ty P t gt 1 bs zc]
  (hx:ev T x = some (.pointer (some ⟨b,off,none⟩))) (hy:ev T y = some v) (h1:v.oneCell' = true) [hb:Has A b (cl L E)] [hs:SetL L off v L'] [hu:Upd A b (cl L E) (cl L' E) A']
  (hp:Pd P N B ops m T none (fun _ X=>X = A')) (k:Ops P N B Q ops m.tl l T A'):Ops P N B Q ops m (⟨none,.store t x y,ty,pos,af,gd⟩ :: l) T A :=
 Ops.unit hm hp hg (fun a w hF hS=>by
  obtain ⟨A1,A2,rfl,rfl⟩:=hu.put
  have hc:v.cells = [v].toArray:=by cases v <;> first|rfl|cases h1
  obtain ⟨w',hr,hS'⟩:=run_storeAt (P:=P) hS ht hc rfl (off:=off) (by simpa using h1) (by have:=hs.eq.2;simp;omega)
  refine ⟨w',by simp [execOp,hF.eval hx,hF.eval hy,hr],?_⟩
  rw [ins_cons hs.eq.2,ins_nil] at hS'
  rw [hs.eq.1]
  exact hS') k
theorem Ops.stN {t:TypeId} {x y:Operand} {b off:Nat} {gt:Bool} {sz bs:Nat} {zc:List Value} {L L' vs:List Value} {E:TypeId} {A':List Blk} (hm:m.eff = true) (hg:gst ops T gd = some true) [ht:Ty P t gt sz bs zc]
  (hx:ev T x = some (.pointer (some ⟨b,off,none⟩))) (hy:ev T y = some (.agg vs.toArray)) (h1:oneAll vs = true) (hn:vs.length = sz) [hb:Has A b (cl L E)] [hs:SetS L off vs L'] [hu:Upd A b (cl L E) (cl L' E) A']
  (hp:Pd P N B ops m T none (fun _ X=>X = A')) (k:Ops P N B Q ops m.tl l T A'):Ops P N B Q ops m (⟨none,.store t x y,ty,pos,af,gd⟩ :: l) T A :=
 Ops.unit hm hp hg (fun a w hF hS=>by
  obtain ⟨A1,A2,rfl,rfl⟩:=hu.put
  obtain ⟨w',hr,hS'⟩:=run_storeAt (P:=P) hS ht (v:=.agg vs.toArray) (vs:=vs) rfl hn (off:=off) (oneAll_mem h1) hs.eq.2
  refine ⟨w',by simp [execOp,hF.eval hx,hF.eval hy,hr],?_⟩
  rw [hs.eq.1]
  exact hS') k
theorem Ops.box {E:TypeId} {x:Operand} {v:Value} {vs:List Value} (hm:m.eff = true) (hg:gst ops T gd = some true) (hx:ev T x = some v) [hc:Cells v vs] (hd:Nat.blt d N.n = true)
  (hp:Pd P N B ops m T (some d) (NewR (fun b=>.pointer (some ⟨b,0,none⟩)) (cl vs E) A)) (k:∀ b,Ops P N B Q ops m.tl l ((d,.pointer (some ⟨b,0,none⟩)) :: T) ((b,cl vs E) :: A)):Ops P N B Q ops m (⟨some d,.box E x,ty,pos,af,gd⟩ :: l) T A :=
 Ops.new (v:=fun b=>.pointer (some ⟨b,0,none⟩)) hm hp hg hd (fun a w hF hS=>by
  simp [execOp,hF.eval hx,Instr.box,newVar,newRow,hc.eq,cl]) k
theorem Ops.alloc {E:TypeId} {gt:Bool} {sz bs:Nat} {zc:List Value} (hm:m.eff = true) (hg:gst ops T gd = some true) [ht:Ty P E gt sz bs zc] (hd:Nat.blt d N.n = true)
  (hp:Pd P N B ops m T (some d) (NewR (fun b=>.pointer (some ⟨b,0,none⟩)) (cl zc E) A)) (k:∀ b,Ops P N B Q ops m.tl l ((d,.pointer (some ⟨b,0,none⟩)) :: T) ((b,cl zc E) :: A)):Ops P N B Q ops m (⟨some d,.alloc E,ty,pos,af,gd⟩ :: l) T A :=
 Ops.new (v:=fun b=>.pointer (some ⟨b,0,none⟩)) hm hp hg hd (fun a w hF hS=>by
  obtain ⟨z,hz,hzc⟩:=ht.run_zero (w:=w)
  simp [execOp,Instr.alloc,hz,newVar,newRow,hzc,cl]) k
theorem Ops.bs0 {t e:TypeId} {ge:Bool} {sz' bs':Nat} {zc':List Value} (hm:m.eff = true) (hg:gst ops T gd = some true) [ht:TyD P t (.slice e)] [he:Ty P e ge sz' bs' zc'] (hd:Nat.blt d N.n = true)
  (hp:Pd P N B ops m T (some d) (NewR (fun b=>.slice (some ⟨b,0,none⟩) 0 0) (cl [] e) A)) (k:∀ b,Ops P N B Q ops m.tl l ((d,.slice (some ⟨b,0,none⟩) 0 0) :: T) ((b,cl [] e) :: A)):Ops P N B Q ops m (⟨some d,.buildSlice t 0 #[],ty,pos,af,gd⟩ :: l) T A :=
 Ops.new (v:=fun b=>.slice (some ⟨b,0,none⟩) 0 0) hm hp hg hd (fun a w hF hS=>by
  simp [execOp,Instr.buildSlice,ht.run_und,he.run_size,Instr.fill,newRow,cl]
  have e:(Array.range 0).map (fun _:Nat=>(default:Value)) = #[]:=by apply Array.ext <;> simp
  rw [e]) k
theorem foldl_set (vs:List Value):∀ (k:Nat) (cs:Array Value) (off:Nat),off + k + vs.length ≤ cs.size →
  ((vs.zipIdx k).foldl (fun cs (p:Value × Nat)=>cs.setIfInBounds (off + p.2) p.1) cs).toList = ins cs.toList (off + k) vs:=by
 induction vs with
 | nil=>intro k cs off _;simp [ins_nil]
 | cons v vs ih =>
  intro k cs off h
  simp only [List.length_cons] at h
  simp only [List.zipIdx_cons,List.foldl_cons]
  rw [ih (k + 1) _ off (by simp;omega),ins_cons (by simp;omega)]
  simp [Nat.add_assoc]
theorem fill_one {place:Nat → Option (Nat × Nat)} {cells:Array Value} {i off size:Nat} {v:Value} {vs:List Value} {rest:List (Nat × Value)} (hp:place i = some (off,size))
  (hv:v.cells = vs.toArray) (hn:vs.length = size) (hlen:off + vs.length ≤ cells.size) :
  Instr.fill place cells ((i,v) :: rest) = Instr.fill place (ins cells.toList off vs).toArray rest:=by
 have h1:=foldl_set vs 0 cells off (by omega)
 simp only [Nat.add_zero] at h1
 have h2:(v.cells.zipIdx.foldl (fun cs (p:Value × Nat)=>cs.setIfInBounds (off + p.2) p.1) cells) = (ins cells.toList off vs).toArray:=by
  rw [hv,← h1]
  have e:vs.toArray.zipIdx = vs.zipIdx.toArray:=by simp
  rw [e]
  simp
 simp only [Instr.fill,hp]
 rw [if_neg]
 ·rw [← h2]
 ·simp [hv,hn] at hlen ⊢
  omega
theorem Ops.bs1 {t e:TypeId} {ge:Bool} {x:Operand} {sz' bs':Nat} {zc' vs:List Value} {v:Value} (hm:m.eff = true) (hg:gst ops T gd = some true) [ht:TyD P t (.slice e)] [he:Ty P e ge sz' bs' zc']
  (hx:ev T x = some v) [hc:Cells v vs] (hn:vs.length = sz') (hsz:Nat.blt 0 sz' = true) (hsz2:Nat.ble sz' 16777216 = true) (hd:Nat.blt d N.n = true)
  (hp:Pd P N B ops m T (some d) (NewR (fun b=>.slice (some ⟨b,0,none⟩) 1 1) (cl vs e) A)) (k:∀ b,Ops P N B Q ops m.tl l ((d,.slice (some ⟨b,0,none⟩) 1 1) :: T) ((b,cl vs e) :: A)):Ops P N B Q ops m (⟨some d,.buildSlice t 1 #[(0,x)],ty,pos,af,gd⟩ :: l) T A :=
 Ops.new (v:=fun b=>.slice (some ⟨b,0,none⟩) 1 1) hm hp hg hd (fun a w hF hS=>by
  obtain ⟨z,hz,hzc⟩:=he.run_zero (w:=w)
  have h0:sz' ≠ 0:=by rw [Nat.blt_eq] at hsz;omega
  have h1:¬ (16777216 < sz'):=by rw [Nat.ble_eq] at hsz2;omega
  simp only [execOp,Instr.buildSlice,ht.run_und,he.run_size,Sem.run_bind,Result.andThen_ok,Nat.one_mul,Sem.run_pure,Sem.run_ite,gt_iff_lt,show (2:Nat)^24 = 16777216 from rfl,if_neg h1,h0,if_false,hz,List.map_toArray,List.map_cons,List.map_nil]
  rw [fill_one (off:=0) (size:=sz') (vs:=vs) (by simp) (by rw [hF.eval hx];exact hc.eq) hn (by simp;omega)]
  have e1:∀ L:List Value,L.length = vs.length → ins L 0 vs = vs:=fun L hL=>by simp [ins,← hL]
  rw [e1 _ (by simp [hn])]
  simp [Instr.fill,newRow,cl]) k
theorem Ops.ixa0 {t e:TypeId} {ge:Bool} {x y:Operand} {sz' bs':Nat} {zc':List Value} {g n c:Nat} {k':IntKind} {i:Int} (hm:m.rd true = true) (hg:gst ops T gd = some true) [ht:TyD P t (.slice e)] [he:Ty P e ge sz' bs' zc']
  (hx:ev T x = some (.slice (some ⟨g,0,none⟩) n c)) (hy:ev T y = some (.int k' i)) (h0:0 ≤ i) (h1:i < n) (hd:Nat.blt d N.n = true)
  (k:Ops P N B Q ops m.tl l ((d,.pointer (some ⟨g,i.toNat * sz',none⟩)) :: T) A):Ops P N B Q ops m (⟨some d,.indexAddr t x y,ty,pos,af,gd⟩ :: l) T A :=
 Ops.pureV hm hg hd (fun a w hF=>by
  simp [execOp,hF.eval hx,hF.eval hy,Instr.indexAt,asIntOf,ht.run_und,he.run_size,h0,h1,add_none]) k
theorem Ops.ixa {t e:TypeId} {ge:Bool} {x y:Operand} {sz' bs':Nat} {zc':List Value} {g o n c:Nat} {k':IntKind} {i:Int} (hm:m.rd true = true) (hg:gst ops T gd = some true) [ht:TyD P t (.slice e)] [he:Ty P e ge sz' bs' zc']
  (hx:ev T x = some (.slice (some ⟨g,o,none⟩) n c)) (hy:ev T y = some (.int k' i)) (h0:0 ≤ i) (h1:i < n) (hd:Nat.blt d N.n = true)
  (k:Ops P N B Q ops m.tl l ((d,.pointer (some ⟨g,o + i.toNat * sz',none⟩)) :: T) A):Ops P N B Q ops m (⟨some d,.indexAddr t x y,ty,pos,af,gd⟩ :: l) T A :=
 Ops.pureV hm hg hd (fun a w hF=>by
  simp [execOp,hF.eval hx,hF.eval hy,Instr.indexAt,asIntOf,ht.run_und,he.run_size,h0,h1,add_none]) k
theorem Ops.bin {bo:BinOp} {t t':TypeId} {x y:Operand} {u v r:Value} (hm:m.rd true = true) (hg:gst ops T gd = some true) (hx:ev T x = some u) (hy:ev T y = some v) [hr:BinRun P bo t u v r] (hd:Nat.blt d N.n = true)
  (k:Ops P N B Q ops m.tl l ((d,r) :: T) A):Ops P N B Q ops m (⟨some d,.binOp bo t x y t',ty,pos,af,gd⟩ :: l) T A :=
 Ops.pureV hm hg hd (fun a w hF=>by
  have:=hr.run x y w
  simp only [execOp,hF.eval hx,hF.eval hy,Sem.run_bind] at this ⊢
  rw [this]
  rfl) k
theorem Ops.addI {t t':TypeId} {x y:Operand} {a b:Int} (hm:m.rd true = true) (hg:gst ops T gd = some true) (hx:ev T x = some (.int .i64 a)) (hy:ev T y = some (.int .i64 b)) (h0:-9223372036854775808 ≤ a + b) (h1:a + b ≤ 9223372036854775807) (hd:Nat.blt d N.n = true)
  (k:Ops P N B Q ops m.tl l ((d,.int .i64 (a + b)) :: T) A):Ops P N B Q ops m (⟨some d,.binOp .add t x y t',ty,pos,af,gd⟩ :: l) T A :=
 Ops.pureV hm hg hd (fun a w hF=>by
  simp [execOp,hF.eval hx,hF.eval hy,eqGuard,binOp,Op.intArith,IntWalk.i64_in _ ⟨h0,h1⟩]) k
theorem Ops.subI {t t':TypeId} {x y:Operand} {a b:Int} (hm:m.rd true = true) (hg:gst ops T gd = some true) (hx:ev T x = some (.int .i64 a)) (hy:ev T y = some (.int .i64 b)) (h0:-9223372036854775808 ≤ a - b) (h1:a - b ≤ 9223372036854775807) (hd:Nat.blt d N.n = true)
  (k:Ops P N B Q ops m.tl l ((d,.int .i64 (a - b)) :: T) A):Ops P N B Q ops m (⟨some d,.binOp .sub t x y t',ty,pos,af,gd⟩ :: l) T A :=
 Ops.pureV hm hg hd (fun a w hF=>by
  simp [execOp,hF.eval hx,hF.eval hy,eqGuard,binOp,Op.intArith,IntWalk.i64_in _ ⟨h0,h1⟩]) k
theorem Ops.un {uo:UnOp} {t:TypeId} {x:Operand} {u r:Value} (hm:m.rd true = true) (hg:gst ops T gd = some true) (hx:ev T x = some u) [hr:UnRun P uo u r] (hd:Nat.blt d N.n = true)
  (k:Ops P N B Q ops m.tl l ((d,r) :: T) A):Ops P N B Q ops m (⟨some d,.unOp uo t x,ty,pos,af,gd⟩ :: l) T A :=
 Ops.pureV hm hg hd (fun a w hF=>by simp [execOp,hF.eval hx,hr.run]) k
theorem Ops.pickT {c x y:Operand} {v:Value} (hm:m.rd true = true) (hg:gst ops T gd = some true) (hc:ev T c = some (.bool true)) (hx:ev T x = some v) (hd:Nat.blt d N.n = true)
  (k:Ops P N B Q ops m.tl l ((d,v) :: T) A):Ops P N B Q ops m (⟨some d,.pick c x y,ty,pos,af,gd⟩ :: l) T A :=
 Ops.pureV hm hg hd (fun a w hF=>by simp [execOp,hF.eval hc,hF.eval hx,asBool]) k
theorem Ops.pickF {c x y:Operand} {v:Value} (hm:m.rd true = true) (hg:gst ops T gd = some true) (hc:ev T c = some (.bool false)) (hy:ev T y = some v) (hd:Nat.blt d N.n = true)
  (k:Ops P N B Q ops m.tl l ((d,v) :: T) A):Ops P N B Q ops m (⟨some d,.pick c x y,ty,pos,af,gd⟩ :: l) T A :=
 Ops.pureV hm hg hd (fun a w hF=>by simp [execOp,hF.eval hc,hF.eval hy,asBool]) k
theorem Ops.ext {x:Operand} {i:Nat} {vs:List Value} {v:Value} (hm:m.rd true = true) (hg:gst ops T gd = some true) (hx:ev T x = some (.tuple vs.toArray)) (hv:vs[i]? = some v) (hd:Nat.blt d N.n = true)
  (k:Ops P N B Q ops m.tl l ((d,v) :: T) A):Ops P N B Q ops m (⟨some d,.extract x i,ty,pos,af,gd⟩ :: l) T A :=
 Ops.pureV hm hg hd (fun a w hF=>by simp [execOp,hF.eval hx,Instr.extract,hv]) k
theorem Ops.lenS {t:TypeId} {x:Operand} {at':Option Addr} {n c:Nat} {e:TypeId} (hm:m.rd true = true) (hg:gst ops T gd = some true) [ht:TyD P t (.slice e)] (hx:ev T x = some (.slice at' n c)) (hd:Nat.blt d N.n = true)
  (k:Ops P N B Q ops m.tl l ((d,.int .i64 n) :: T) A):Ops P N B Q ops m (⟨some d,.call { callee:=.builtin .len,args:=#[x],argTypes:=#[t] },ty,pos,af,gd⟩ :: l) T A :=
 Ops.pureV hm hg hd (fun a w hF=>by simp [execOp,resolve,invoke,builtin,Builtin.len_,hF.eval hx,ht.run_und,goInt]) k
theorem Ops.lenStr {t:TypeId} {x:Operand} {s:ByteArray} (hm:m.rd true = true) (hg:gst ops T gd = some true) [ht:TyD P t .string] (hx:ev T x = some (.string s)) (hd:Nat.blt d N.n = true)
  (k:Ops P N B Q ops m.tl l ((d,.int .i64 s.size) :: T) A):Ops P N B Q ops m (⟨some d,.call { callee:=.builtin .len,args:=#[x],argTypes:=#[t] },ty,pos,af,gd⟩ :: l) T A :=
 Ops.pureV hm hg hd (fun a w hF=>by simp [execOp,resolve,invoke,builtin,Builtin.len_,hF.eval hx,ht.run_und,goInt]) k
theorem Ops.keep {T':Tm} (h:Ops P N B Q ops m l T' A) (hT:∀ a,Fr N T a → Fr N T' a):Ops P N B Q ops m l T A:=by
 match m,h with
 | none,h=>exact fun a w hF hS=>h a w (hT a hF) hS
 | some (info,rest),h =>
  intro h1 h2 h3 h4
  have h':if isStep rest then DStep P N B Q ops (info.map (·.1)) (rdF info) (ldF info) l T' A else DSem P N B Q ops (info.map (·.1)) (rdF info) (ldF info) l T' A:=h h1 h2 h3 h4
  cases hs:isStep rest with
  | true =>
   rw [hs,if_pos rfl] at h'
   rw [if_pos rfl]
   exact fun h5 h6 U a w listed i hi h7 h8 h9 h10=>h' h5 h6 U a w listed i hi h7 h8 h9 (hT _ h10)
  | false =>
   rw [hs,if_neg (by simp)] at h'
   rw [if_neg (by simp)]
   exact fun h5 h6 U a w listed h7 h8 h9 h10=>h' h5 h6 U a w listed h7 h8 h9 (hT _ h10)
theorem Ops.gSkip {j:Nat} {want:Bool} (hm:m.rd true = true) (hg:gst ops T (some (j,want)) = some false) (hd:Nat.blt d N.n = true) (k:Ops P N B Q ops m.tl l ((d,undef) :: T) A) :
  Ops P N B Q ops m (⟨some d,op,ty,pos,af,some (j,want)⟩ :: l) T A :=
 Ops.rdG true hm rfl hd (fun _ _ hF _=>.inr ⟨gst_wanted (o:=⟨some d,op,ty,pos,af,some (j,want)⟩) hF hg,rfl⟩) k
theorem Ops.gSkipE {j:Nat} {want:Bool} (hm:m.eff = true) (hp:Pd P N B ops m T (some d) (fun u X=>u = undef ∧ X = A)) (hg:gst ops T (some (j,want)) = some false) (hd:Nat.blt d N.n = true) (k:Ops P N B Q ops m.tl l ((d,undef) :: T) A) :
  Ops P N B Q ops m (⟨some d,op,ty,pos,af,some (j,want)⟩ :: l) T A :=
 Ops.effG hm (fun d' h=>by injection h with h;rw [← h];exact hd) (fun _ _ hF hS=>.inr ⟨gst_wanted (o:=⟨some d,op,ty,pos,af,some (j,want)⟩) hF hg,A,⟨rfl,rfl⟩,hS⟩) hp fun u X ⟨h1,h2⟩=>by rw [h1,h2];exact k
theorem Ops.gSplit {dst:Option Nat} {j dj:Nat} {want b:Bool} (_hj:(ops[j]?).bind (·.dst) = some dj) (hb:look T dj = some (.bool b))
  (h1:b = true → Ops P N B Q ops m (⟨dst,op,ty,pos,af,some (j,want)⟩ :: l) ((dj,.bool true) :: T) A)
  (h2:b = false → Ops P N B Q ops m (⟨dst,op,ty,pos,af,some (j,want)⟩ :: l) ((dj,.bool false) :: T) A) :
  Ops P N B Q ops m (⟨dst,op,ty,pos,af,some (j,want)⟩ :: l) T A:=by
 have hk:∀ c:Bool,b = c → ∀ a,Fr N T a → Fr N ((dj,.bool c) :: T) a:=fun c hc a hF=>hF.keep fun i v hi=>by
  simp only [look] at hi
  cases hbq:Nat.beq i dj with
  | true=>rw [hbq] at hi;simp only [cond_true,Option.some.injEq] at hi;rw [Nat.eq_of_beq_eq_true hbq,hb,← hi,hc]
  | false=>rw [hbq] at hi;exact hi
 cases b with
 | true=>exact (h1 rfl).keep (hk true rfl)
 | false=>exact (h2 rfl).keep (hk false rfl)
theorem Ops.probe {dst:Option Nat} {g:Nat × Bool} (_h:gst ops T (some g) = some true) (k:Ops P N B Q ops m (⟨dst,op,ty,pos,af,some g⟩ :: l) T A):Ops P N B Q ops m (⟨dst,op,ty,pos,af,some g⟩ :: l) T A:=k
theorem Ops.gT {dst:Option Nat} {j dj:Nat} {want b:Bool} (hj:(ops[j]?).bind (·.dst) = some dj) (hb:look T dj = some (.bool b)) (h:b = true)
  (k:Ops P N B Q ops m (⟨dst,op,ty,pos,af,some (j,want)⟩ :: l) ((dj,.bool true) :: T) A):Ops P N B Q ops m (⟨dst,op,ty,pos,af,some (j,want)⟩ :: l) T A :=
 Ops.gSplit hj hb (fun _=>k) (fun h'=>by rw [h] at h';cases h')
theorem Ops.gF {dst:Option Nat} {j dj:Nat} {want b:Bool} (hj:(ops[j]?).bind (·.dst) = some dj) (hb:look T dj = some (.bool b)) (h:b = false)
  (k:Ops P N B Q ops m (⟨dst,op,ty,pos,af,some (j,want)⟩ :: l) ((dj,.bool false) :: T) A):Ops P N B Q ops m (⟨dst,op,ty,pos,af,some (j,want)⟩ :: l) T A :=
 Ops.gSplit hj hb (fun h'=>by rw [h] at h';cases h') (fun _=>k)
theorem Still.ld1 {i dd t:Nat} {x:Operand} {b off:Nat} {sz bs:Nat} {zc L:List Value} {E:TypeId} {v:Value} (ho:ops[i]? = some ⟨some dd,.load t x,ty,pos,af,gd⟩) (hg:gst ops T gd = some true) (hx:ev T x = some (.pointer (some ⟨b,off,none⟩)))
  [ht:Ty P t false sz bs zc] [hb:Has A b (cl L E)] (hv:L[off]? = some v) (hl:look T dd = some v):Still P N B ops T A i :=
 ⟨_,dd,v,ho,rfl,hl,fun a w hF hS=>.inl ⟨gst_wanted (o:=⟨some dd,.load t x,ty,pos,af,gd⟩) hF hg,by simp [execOp,hF.eval hx,run_loadAt1 ht ((cell_of hS.has off).trans hv)]⟩⟩
theorem Still.ldN {i dd t:Nat} {x:Operand} {b off:Nat} {sz bs:Nat} {zc L r:List Value} {E:TypeId} (ho:ops[i]? = some ⟨some dd,.load t x,ty,pos,af,gd⟩) (hg:gst ops T gd = some true) (hx:ev T x = some (.pointer (some ⟨b,off,none⟩)))
  [ht:Ty P t true sz bs zc] [hb:Has A b (cl L E)] [hr:GetS L off sz r] (hl:look T dd = some (.agg r.toArray)):Still P N B ops T A i :=
 ⟨_,dd,_,ho,rfl,hl,fun a w hF hS=>.inl ⟨gst_wanted (o:=⟨some dd,.load t x,ty,pos,af,gd⟩) hF hg,by
  simp [execOp,hF.eval hx,run_loadAtN ht (getS_len hr) (fun j u hu=>(cell_of hS.has (off + j)).trans (getS_at hr j u hu))]⟩⟩
theorem Still.len {i dd t e:Nat} {x:Operand} {a':Option Addr} {n c:Nat} {ats:Array TypeId} (ho:ops[i]? = some ⟨some dd,.call { callee:=.builtin .len,args:=#[x],argTypes:=ats },ty,pos,af,gd⟩) (hats:ats = #[t]) (hg:gst ops T gd = some true) (hx:ev T x = some (.slice a' n c))
  [ht:TyD P t (.slice e)] (hl:look T dd = some (.int .i64 n)):Still P N B ops T A i :=
 ⟨_,dd,_,ho,rfl,hl,fun a w hF hS=>.inl ⟨gst_wanted (o:=⟨some dd,.call { callee:=.builtin .len,args:=#[x],argTypes:=ats },ty,pos,af,gd⟩) hF hg,by
  subst hats
  simp [execOp,resolve,invoke,builtin,Builtin.len_,hF.eval hx,ht.run_und,goInt]⟩⟩
def CallR (R:Value → List Blk → Prop) (F:List Blk):Value → List Blk → Prop:=fun v X=>∃ A',R v A' ∧ X = A' ++ F
theorem eff_call {f:FuncId} {args:Array Value} {A1 F:List Blk} {R:Value → List Blk → Prop} (h:Con P f args A1 R) [hs:Split A A1 F] {w:World} (hS:Sat B A w) {r:Result Next} (hr:r = .ok (.enter f args) w) :
  effPost P B (CallR R F) r:=by
 subst hr
 exact (h.frame (hS.perm hs.perm)).mono fun e w' ⟨v,A',he,hR,hS'⟩=>⟨v,_,he,⟨A',hR,rfl⟩,hS'⟩
theorem Ops.call {f:FuncId} {xs:List Operand} {ats:Array TypeId} {vs:List Value} {A1 F:List Blk} {R:Value → List Blk → Prop} (h:Con P f vs.toArray A1 R) (hm:m.eff = true) [hs:Split A A1 F] (hp:Pd P N B ops m T (some d) (CallR R F)) (hg:gst ops T gd = some true)
  [hf:FnOk P f] (hx:evs T xs = some vs) (hd:Nat.blt d N.n = true) (k:∀ v A',R v A' → Ops P N B Q ops m.tl l ((d,v) :: T) (A' ++ F)) :
  Ops P N B Q ops m (⟨some d,.call { callee:=.value (.func f),args:=xs.toArray,argTypes:=ats },ty,pos,af,gd⟩ :: l) T A :=
 Ops.effV hm hp hg hd (fun a w hF hS=>eff_call h hS (by
  simp [execOp,resolve,Act.eval,Deferred.ofValue,invoke,run_callFunc hf,hF.evals hx])) fun v X ⟨A',hR,hX⟩=>by rw [hX];exact k v A' hR
theorem Ops.callV {f:FuncId} {c:Operand} {fi ca:List Value} {xs:List Operand} {ats:Array TypeId} {vs:List Value} {A1 F:List Blk} {R:Value → List Blk → Prop} (h:Con P f (fi ++ vs ++ ca).toArray A1 R) (hm:m.eff = true) [hs:Split A A1 F] (hp:Pd P N B ops m T (some d) (CallR R F)) (hg:gst ops T gd = some true)
  (hc:ev T c = some (.func (.func f) fi.toArray ca.toArray)) [hf:FnOk P f] (hx:evs T xs = some vs) (hd:Nat.blt d N.n = true) (k:∀ v A',R v A' → Ops P N B Q ops m.tl l ((d,v) :: T) (A' ++ F)) :
  Ops P N B Q ops m (⟨some d,.call { callee:=.value c,args:=xs.toArray,argTypes:=ats },ty,pos,af,gd⟩ :: l) T A :=
 Ops.effV hm hp hg hd (fun a w hF hS=>eff_call h hS (by
  simp [execOp,resolve,hF.eval hc,Deferred.ofValue,invoke,run_callFunc hf,hF.evals hx])) fun v X ⟨A',hR,hX⟩=>by rw [hX];exact k v A' hR
end
def post (P:Program) (fn:Func) (B:Base) (R:Value → List Blk → Prop):Exit → Act → World → Prop :=
 bodyPostM Fence.wide 0 P fn fun e w'=>∃ v A',e = .returned v ∧ R v A' ∧ Sat B A' w'
theorem leaves_nil {P:Program} {fn:Func} {tmps:Array Value} {R:Ending → World → Prop} {w:World}:LeavesInM Fence.wide 0 P fn tmps R [] .returning w ↔ ∃ v,(results fn tmps).run P w = .ok v w ∧ R (.returned v) w:=by
 simp only [LeavesInM,LeavesIn]
def slots:Nat → List Value → Tm
 | _,[]=>[]
 | i,v :: vs=>(i,v) :: slots (i + 1) vs
theorem look_slots:∀ (vs:List Value) (k i:Nat) (v:Value),look (slots k vs) i = some v → ∃ j,i = k + j ∧ vs[j]? = some v
 | [],_,_,_,h=>by simp [slots,look] at h
 | u :: vs,k,i,v,h=>by
  simp only [slots,look] at h
  cases hb:Nat.beq i k with
  | true =>
   rw [hb] at h
   simp only [cond_true,Option.some.injEq] at h
   exact ⟨0,by rw [Nat.eq_of_beq_eq_true hb];rfl,by simp [h]⟩
  | false =>
   rw [hb] at h
   obtain ⟨j,h1,h2⟩:=look_slots vs (k + 1) i v h
   exact ⟨j + 1,by omega,by simpa using h2⟩
theorem Con.intro {P:Program} {f:FuncId} {fn:Func} {c:Code} {K:Nat} {vs:List Value} {A:List Blk} {R:Value → List Blk → Prop} (hf:P.funcs[f]? = some fn) (hb:fn.body = some c) (hN:fn.ntmps = K)
  (hle:Nat.ble vs.length K = true) (h:∀ B:Base,Cd P ⟨K,[]⟩ B.plain (post P fn B.plain R) c (slots 0 vs) A):Con P f vs.toArray A R:=by
 intro B w hS
 have hle':vs.length ≤ K:=by simpa [Nat.ble_eq] using hle
 refine Calls.mono (callsIn_wide.1 (callsIn_of_wp_marks hf hb trivial (h B _ w ⟨by simp [hN];omega,rfl,fun i v hi=>?_⟩ ⟨hS.os,hS.tape,hS.output,hS.base,hS.here,hS.apart,hS.nodup⟩) rfl)) fun e w' ⟨v,A',he,hR,hS'⟩=>⟨v,A',he,hR,hS'.os,hS'.tape,hS'.output,hS'.base,hS'.here,hS'.apart,hS'.nodup⟩
 obtain ⟨j,hj,hv⟩:=look_slots _ _ _ _ hi
 simp only [Nat.zero_add] at hj
 subst hj
 have hlt:i < vs.length:=(List.getElem?_eq_some_iff.1 hv).1
 simp only [Array.getElem?_append_left (show i < vs.toArray.size by simpa using hlt)]
 simpa using hv
def Res (P:Program) (N:Fi) (B:Base) (T:Tm) (A:List Blk) (r:ResultVar) (v:Value):Prop :=
 ∀ a w,Fr N T a → Sat B A w → (match r with
  | .tmp t=>(pure (a.tmps.getD t undef):Sem Value)
  | .cell x t=>do loadVar t (← asAddr (a.tmps.getD x undef))).run P w = .ok v w
section
variable {P:Program} {K:Nat} {N:Fi} {B:Base} {T:Tm} {A A':List Blk} {fn:Func} {R:Value → List Blk → Prop}
theorem Res.tmp {t:Nat} {v:Value} (h:look T t = some v):Res P N B T A (.tmp t) v:=fun a w hF _=>by
 simp [Array.getD_eq_getD_getElem?,hF.get _ _ h]
theorem Res.cell1 {x t b off:Nat} {v:Value} {sz bs:Nat} {zc L:List Value} {E:TypeId} [ht:Ty P t false sz bs zc] (hx:look T x = some (.pointer (some ⟨b,off,none⟩))) [hb:Has A b (cl L E)] (hv:L[off]? = some v) :
  Res P N B T A (.cell x t) v:=fun a w hF hS=>by
 simp [Array.getD_eq_getD_getElem?,hF.get _ _ hx,asAddr,loadVar,ht.run_isAgg,(cell_of hS.has off).trans hv]
theorem Res.cellN {x t b off:Nat} {sz bs:Nat} {zc L r:List Value} {E:TypeId} [ht:Ty P t true sz bs zc] (hx:look T x = some (.pointer (some ⟨b,off,none⟩))) [hb:Has A b (cl L E)] [hr:GetS L off sz r] :
  Res P N B T A (.cell x t) (.agg r.toArray):=fun a w hF hS=>by
 simp [Array.getD_eq_getD_getElem?,hF.get _ _ hx,asAddr,loadVar,ht.run_isAgg,ht.run_size,run_loadCells (getS_len hr) (fun j u hu=>(cell_of hS.has (off + j)).trans (getS_at hr j u hu))]
theorem of_leaves {a:Act} {w:World} {R:Ending → World → Prop} (hF:Fr ⟨K,[]⟩ T a) (h:∃ v,(results fn a.tmps).run P w = .ok v w ∧ R (.returned v) w):LeavesInM Fence.wide 0 P fn a.tmps R a.defers .returning w:=by
 rw [show a.defers = [] from hF.dfr]
 exact leaves_nil.2 h
theorem ret0 (hr:fn.results = #[]) (hA:∀ w,Sat B A w → Sat B A' w) (hR:R (.tuple #[]) A'):∀ a w,Fr ⟨K,[]⟩ T a → Sat B A w → post P fn B R .ret a w :=
 fun a w hF hS=>of_leaves hF ⟨.tuple #[],by simp [results,hr],.tuple #[],A',rfl,hR,hA w hS⟩
theorem end0 (hr:fn.results = #[]) (hA:∀ w,Sat B A w → Sat B A' w) (hR:R (.tuple #[]) A'):∀ a w,Fr ⟨K,[]⟩ T a → Sat B A w → post P fn B R .normal a w :=
 fun a w hF hS=>of_leaves hF ⟨.tuple #[],by simp [results,hr],.tuple #[],A',rfl,hR,hA w hS⟩
theorem ret1 {r:ResultVar} {v:Value} (hr:fn.results = #[r]) (h1:Res P ⟨K,[]⟩ B T A r v) (hA:∀ w,Sat B A w → Sat B A' w) (hR:R v A'):∀ a w,Fr ⟨K,[]⟩ T a → Sat B A w → post P fn B R .ret a w :=
 fun a w hF hS=>of_leaves hF ⟨v,by
  have e1:=h1 a w hF hS
  unfold results
  rw [hr]
  generalize hx:(fun x:ResultVar=>_:ResultVar → Sem Value) = f
  have e1':(f r).run P w = .ok v w:=by rw [← hx];exact e1
  simp [e1'],v,A',rfl,hR,hA w hS⟩
theorem ret2 {r s:ResultVar} {v u:Value} (hr:fn.results = #[r,s]) (h1:Res P ⟨K,[]⟩ B T A r v) (h2:Res P ⟨K,[]⟩ B T A s u) (hA:∀ w,Sat B A w → Sat B A' w) (hR:R (.tuple #[v,u]) A'):∀ a w,Fr ⟨K,[]⟩ T a → Sat B A w → post P fn B R .ret a w :=
 fun a w hF hS=>of_leaves hF ⟨.tuple #[v,u],by
  have e1:=h1 a w hF hS
  have e2:=h2 a w hF hS
  unfold results
  rw [hr]
  generalize hx:(fun x:ResultVar=>_:ResultVar → Sem Value) = f
  have e1':(f r).run P w = .ok v w:=by rw [← hx];exact e1
  have e2':(f s).run P w = .ok u w:=by rw [← hx];exact e2
  simp [e1',e2'],_,A',rfl,hR,hA w hS⟩
theorem ret3 {r s q:ResultVar} {v u x:Value} (hr:fn.results = #[r,s,q]) (h1:Res P ⟨K,[]⟩ B T A r v) (h2:Res P ⟨K,[]⟩ B T A s u) (h3:Res P ⟨K,[]⟩ B T A q x) (hA:∀ w,Sat B A w → Sat B A' w) (hR:R (.tuple #[v,u,x]) A'):∀ a w,Fr ⟨K,[]⟩ T a → Sat B A w → post P fn B R .ret a w :=
 fun a w hF hS=>of_leaves hF ⟨.tuple #[v,u,x],by
  have e1:=h1 a w hF hS
  have e2:=h2 a w hF hS
  have e3:=h3 a w hF hS
  unfold results
  rw [hr]
  generalize hx:(fun x:ResultVar=>_:ResultVar → Sem Value) = f
  have e1':(f r).run P w = .ok v w:=by rw [← hx];exact e1
  have e2':(f s).run P w = .ok u w:=by rw [← hx];exact e2
  have e3':(f q).run P w = .ok x w:=by rw [← hx];exact e3
  simp [e1',e2',e3'],_,A',rfl,hR,hA w hS⟩
end
end Go.Sep
namespace Go.Sep
open Go
def placesB (P:Program) (t:TypeId):Option (List (Nat × Nat)) :=
 match P.underlying t with
 | some (.struct fields)=>fields.toList.mapM fun f=>(P.info? f.type).map fun i=>(f.offset,i.size)
 | _=>none
class Places (P:Program) (t:TypeId) (pl:outParam (List (Nat × Nat))):Prop where
 eq:placesB P t = some pl
theorem run_places {P:Program} {w:World}:∀ (fs:List Field) (pl:List (Nat × Nat)),(fs.mapM fun f=>(P.info? f.type).map fun i=>(f.offset,i.size)) = some pl →
  (fs.mapM (fun f=>do pure (f.offset,← sizeOf f.type)):Sem (List (Nat × Nat))).run P w = .ok pl w
 | [],pl,h=>by simp at h;simp [h]
 | f :: fs,pl,h=>by
  cases hi:P.info? f.type with
  | none=>simp [List.mapM_cons,hi] at h
  | some i =>
   simp only [List.mapM_cons,hi,Option.map_some,Option.bind_eq_bind,Option.bind_some,Option.bind_eq_some_iff] at h
   obtain ⟨pl',h1,h2⟩:=h
   simp only [Option.pure_def,Option.some.injEq] at h2
   subst h2
   simp [List.mapM_cons,sizeOf,typeInfo,hi]
   have:=run_places (P:=P) (w:=w) fs pl' h1
   simp [sizeOf,typeInfo] at this
   rw [this]
   simp
class PlaceAt (pl:List (Nat × Nat)) (i:Nat) (o n:outParam Nat):Prop where
 eq:pl[i]? = some (o,n)
instance PlaceAt.z {pl:List (Nat × Nat)} {o n:Nat}:PlaceAt ((o,n) :: pl) 0 o n:=⟨rfl⟩
instance PlaceAt.s {pl:List (Nat × Nat)} {p:Nat × Nat} {i o n:Nat} [h:PlaceAt pl i o n]:PlaceAt (p :: pl) (i + 1) o n:=⟨by simpa using h.eq⟩
class LenIs (l:List Value) (n:outParam Nat):Prop where
 eq:l.length = n
instance LenIs.z:LenIs [] 0:=⟨rfl⟩
instance LenIs.s {x:Value} {l:List Value} {n:Nat} [h:LenIs l n]:LenIs (x :: l) (n + 1):=⟨by simp [h.eq]⟩
class BEqN (m n:Nat):Prop where
 eq:m = n
instance BEqN.mk' {n:Nat}:BEqN n n:=⟨rfl⟩
class FillC (pl:List (Nat × Nat)) (ps:List (Nat × Value)) (l:List Value) (l':outParam (List Value)):Prop where
 eq:Instr.fill (pl.toArray[·]?) l.toArray ps = some l'.toArray
instance FillC.z {pl:List (Nat × Nat)} {l:List Value}:FillC pl [] l l:=⟨rfl⟩
instance FillC.s {pl:List (Nat × Nat)} {i o n m:Nat} {v:Value} {vs l l1 l':List Value} {ps:List (Nat × Value)} [h1:PlaceAt pl i o n] [h2:Cells v vs] [h3:LenIs vs m] [h4:SetS l o vs l1] [h5:FillC pl ps l1 l'] [h6:BEqN m n] :
  FillC pl ((i,v) :: ps) l l':=⟨by
 rw [fill_one (off:=o) (size:=n) (vs:=vs) (by simpa using h1.eq) h2.eq (h3.eq.trans h6.eq) (by simpa using h4.eq.2)]
 have e:=h4.eq.1
 simp only [ins] at *
 rw [← e]
 exact h5.eq⟩
def evp (T:Tm):List (Nat × Operand) → Option (List (Nat × Value))
 | []=>some []
 | (i,x) :: xs=>match ev T x,evp T xs with
  | some v,some vs=>some ((i,v) :: vs)
  | _,_=>none
theorem Fr.evalp {N:Fi} {T:Tm} {a:Act} (h:Fr N T a):∀ {xs:List (Nat × Operand)} {vs:List (Nat × Value)},evp T xs = some vs → xs.map (fun (i,x)=>(i,a.eval x)) = vs
 | [],vs,hx=>by simp [evp] at hx;simp [hx]
 | (i,x) :: xs,vs,hx=>by
  simp only [evp] at hx
  split at hx
  ·rename_i v us hv hus
   simp only [Option.some.injEq] at hx
   subst hx
   simp only [List.map_cons,h.eval hv,List.cons.injEq,true_and]
   exact h.evalp hus
  ·cases hx
section
variable {P:Program} {N:Fi} {B:Base} {Q:Exit → Act → World → Prop} {T:Tm} {A:List Blk} {ops:Array Oper} {l:List Oper}
variable {d:Nat} {ty:TypeId} {pos:String} {af:Array Edge} {m:Md} {gd:Option (Nat × Bool)}
theorem Ops.bld {t:TypeId} {parts:List (Nat × Operand)} {ps:List (Nat × Value)} {pl:List (Nat × Nat)} {sz bs:Nat} {zc l':List Value} (hm:m.rd true = true) (hg:gst ops T gd = some true) (hp:evp T parts = some ps) [ht:Ty P t true sz bs zc] [hl:Places P t pl]
  [hf:FillC pl ps zc l'] (hd:Nat.blt d N.n = true) (k:Ops P N B Q ops m.tl l ((d,.agg l'.toArray) :: T) A) :
  Ops P N B Q ops m (⟨some d,.build t parts.toArray,ty,pos,af,gd⟩ :: l) T A :=
 Ops.pureV hm hg hd (fun a w hF=>by
  obtain ⟨z,hz,hzc⟩:=ht.run_zero (w:=w)
  have h1:=hl.eq
  unfold placesB at h1
  split at h1
  ·rename_i fields hu
   have h2:=run_places (P:=P) (w:=w) fields.toList pl h1
   have h3:(fields.mapM (fun f=>do pure (f.offset,← sizeOf f.type)):Sem (Array (Nat × Nat))).run P w = .ok pl.toArray w:=by
    rw [Array.mapM_eq_mapM_toList]
    simp only [Sem.run_map,h2,Result.andThen_ok]
   have h4:(parts.toArray.map fun (i,x)=>(i,a.eval x)).toList = ps:=by simpa using hF.evalp hp
   simp only [execOp,Instr.build,Sem.run_bind,hz,Result.andThen_ok,run_underlying hu w,h3,h4,hzc,hf.eq]
   simp
  ·cases h1) k
end
end Go.Sep
