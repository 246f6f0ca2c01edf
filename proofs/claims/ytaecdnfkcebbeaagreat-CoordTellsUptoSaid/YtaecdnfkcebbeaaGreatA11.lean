import Derived.Test.YtaecdnfkcebbeaaGreatA09
import Derived.RecoverIn
import Derived.Test.YtaecdnfkcebbeaaGreatA10
set_option linter.unusedVariables false
set_option linter.unusedSimpArgs false
namespace Go.Sep
open Go
def ConX (P:Program) (B0:Base) (f:FuncId) (args:Array Value) (A:List Blk) (R:Value → List Blk → Prop) (X:List PanicEntry → List Blk → Prop):Prop :=
 ∀ (B:Base) (w:World),Ext B0 B → Sat B A w → Calls P f args w fun e w'=>(∃ v A',e = .returned v ∧ R v A' ∧ Sat B A' w') ∨ (∃ c A',e = .panicked c ∧ X c A' ∧ Sat B A' w')
theorem ConX.mono {P:Program} {B0:Base} {f:FuncId} {args:Array Value} {A:List Blk} {R R':Value → List Blk → Prop} {X X':List PanicEntry → List Blk → Prop} (h:ConX P B0 f args A R X)
  (hr:∀ v A',R v A' → R' v A') (hx:∀ c A',X c A' → X' c A'):ConX P B0 f args A R' X':=fun B w he hs =>
 (h B w he hs).mono fun _ _ h=>h.imp (fun ⟨v,A',he,hR,hS⟩=>⟨v,A',he,hr _ _ hR,hS⟩) (fun ⟨c,A',he,hX,hS⟩=>⟨c,A',he,hx _ _ hX,hS⟩)
theorem ConX.frame {P:Program} {B0:Base} {f:FuncId} {args:Array Value} {A F:List Blk} {R:Value → List Blk → Prop} {X:List PanicEntry → List Blk → Prop} (h:ConX P B0 f args A R X)
  {B:Base} {w:World} (hx:Ext B0 B) (hs:Sat B (A ++ F) w):Calls P f args w fun e w'=>(∃ v A',e = .returned v ∧ R v A' ∧ Sat B (A' ++ F) w') ∨ (∃ c A',e = .panicked c ∧ X c A' ∧ Sat B (A' ++ F) w') :=
 (h (B.with F) w (hx.trans (Ext.with hs)) hs.frameIn).mono fun _ _ h=>h.imp (fun ⟨v,A',he,hR,hS⟩=>⟨v,A',he,hR,hs.frameOut hS⟩) (fun ⟨c,A',he,hX,hS⟩=>⟨c,A',he,hX,hs.frameOut hS⟩)
theorem ConX.calm {P:Program} {B0:Base} {f:FuncId} {args:Array Value} {A:List Blk} {R:Value → List Blk → Prop} {X:List PanicEntry → List Blk → Prop} (h:ConX P B0 f args A R X) (hx:∀ c A',¬ X c A'):ConB P B0 f args A R:=fun B w he hs =>
 (h B w he hs).mono fun _ _ h=>h.elim id fun ⟨c,A',_,hX,_⟩=>absurd hX (hx c A')
def postX (P:Program) (fn:Func) (B:Base) (R:Value → List Blk → Prop) (X:List PanicEntry → List Blk → Prop):Exit → Act → World → Prop :=
 bodyPostM Fence.wide 0 P fn fun e w'=>(∃ v A',e = .returned v ∧ R v A' ∧ Sat B A' w') ∨ (∃ c A',e = .panicked c ∧ X c A' ∧ Sat B A' w')
theorem ConX.intro {P:Program} {B0:Base} {f:FuncId} {fn:Func} {c:Code} {K:Nat} {vs:List Value} {A:List Blk} {R:Value → List Blk → Prop} {X:List PanicEntry → List Blk → Prop} (hf:P.funcs[f]? = some fn) (hb:fn.body = some c) (hN:fn.ntmps = K)
  (hle:Nat.ble vs.length K = true) (h:∀ B:Base,Ext B0 B.plain → Cd P ⟨K,[]⟩ B.plain (postX P fn B.plain R X) c (slots 0 vs) A):ConX P B0 f vs.toArray A R X:=by
 intro B w he hS
 have hle':vs.length ≤ K:=by simpa [Nat.ble_eq] using hle
 have pl:∀ {A' w'},Sat B.plain A' w' → Sat B A' w':=fun hS'=>⟨hS'.os,hS'.tape,hS'.output,hS'.base,hS'.here,hS'.apart,hS'.nodup⟩
 refine Calls.mono (callsIn_wide.1 (callsIn_of_wp_marks hf hb trivial (h B he.plain _ w ⟨by simp [hN];omega,rfl,fun i v hi=>?_⟩ ⟨hS.os,hS.tape,hS.output,hS.base,hS.here,hS.apart,hS.nodup⟩) rfl)) fun e w' h=>h.imp (fun ⟨v,A',he,hR,hS'⟩=>⟨v,A',he,hR,pl hS'⟩) (fun ⟨c,A',he,hX,hS'⟩=>⟨c,A',he,hX,pl hS'⟩)
 obtain ⟨j,hj,hv⟩:=look_slots _ _ _ _ hi
 simp only [Nat.zero_add] at hj
 subst hj
 have hlt:i < vs.length:=(List.getElem?_eq_some_iff.1 hv).1
 simp only [Array.getElem?_append_left (show i < vs.toArray.size by simpa using hlt)]
 simpa using hv
section
variable {P:Program} {K:Nat} {B:Base} {T:Tm} {A A':List Blk} {fn:Func} {R:Value → List Blk → Prop} {X:List PanicEntry → List Blk → Prop}
theorem retX (h:∀ a w,Fr ⟨K,[]⟩ T a → Sat B A w → post P fn B R .ret a w):∀ a w,Fr ⟨K,[]⟩ T a → Sat B A w → postX P fn B R X .ret a w:=fun a w hF hS=>by
 have h1:=h a w hF hS
 have hd:a.defers = []:=hF.dfr
 show LeavesInM Fence.wide 0 P fn a.tmps _ a.defers .returning w
 rw [hd]
 have h2:LeavesInM Fence.wide 0 P fn a.tmps _ a.defers .returning w:=h1
 rw [hd] at h2
 obtain ⟨v,hr,hR⟩:=leaves_nil.1 h2
 exact leaves_nil.2 ⟨v,hr,.inl hR⟩
theorem panX {c:List PanicEntry} (hA:∀ w,Sat B A w → Sat B A' w) (hX:X c A'):∀ a w,Fr ⟨K,[]⟩ T a → Sat B A w → postX P fn B R X (.panic c) a w:=fun a w hF hS=>by
 have hd:a.defers = []:=hF.dfr
 show LeavesInM Fence.wide 0 P fn a.tmps _ a.defers (.panicking c) w
 rw [hd]
 exact .inr ⟨c,A',rfl,hX,hA w hS⟩
end
section
variable {P:Program} {N:Fi} {B:Base} {Q:Exit → Act → World → Prop} {T:Tm} {A:List Blk} {ops:Array Oper} {l:List Oper}
variable {d:Nat} {op:Op} {ty:TypeId} {pos:String} {af:Array Edge} {gd:Option (Nat × Bool)}
theorem semAt_call {o:Oper} {ρ:Operand → Value} {w:World} {f:FuncId} {args:Array Value} (ro:Option Nat) (h:(execOp ρ o).run P w = .ok (.enter f args) w):o.semAt ro ρ = execOp ρ o :=
 Oper.semAt_eq ro ρ o fun c hc=>by
  unfold execOp at h
  rw [hc] at h
  simp only [Sem.run_bind] at h
  generalize (resolve ρ c o.type).run P w = r at h
  cases r <;> simp at h
theorem semAt_pan {o:Oper} {ρ:Operand → Value} {w:World} {u:Value} (ro:Option Nat) (h:(execOp ρ o).run P w = .halt (.panic u) w) (hn:∀ c,o.op ≠ .defer c):o.semAt ro ρ = execOp ρ o :=
 Oper.semAt_eq ro ρ o fun c hc=>absurd hc (hn c)
theorem Ops.callX {B0:Base} {f:FuncId} {xs:List Operand} {ats:Array TypeId} {vs:List Value} {A1 F:List Blk} {R:Value → List Blk → Prop} {X:List PanicEntry → List Blk → Prop} (h:ConX P B0 f vs.toArray A1 R X) (hx0:Ext B0 B) [hs:Split A A1 F] (hg:gst ops T gd = some true)
  [hf:FnOk P f] (hx:evs T xs = some vs) (hd:Nat.blt d N.n = true) (kp:∀ c A',X c A' → ∀ a w,Fr N T a → Sat B (A' ++ F) w → Q (.panic c) a w) (k:∀ v A',R v A' → Ops P N B Q ops none l ((d,v) :: T) (A' ++ F)) :
  Ops P N B Q ops none (⟨some d,.call { callee:=.value (.func f),args:=xs.toArray,argTypes:=ats },ty,pos,af,gd⟩ :: l) T A:=fun a w hF hS=>by
 have hr:(execOp a.eval ⟨some d,.call { callee:=.value (.func f),args:=xs.toArray,argTypes:=ats },ty,pos,af,gd⟩).run P w = .ok (.enter f vs.toArray) w:=by
  simp [execOp,resolve,Act.eval,Deferred.ofValue,invoke,run_callFunc hf,hF.evals hx]
 unfold wpListIn
 rw [if_pos (gst_wanted hF hg)]
 unfold Oper.wpIn
 refine ⟨fun _ _=>trivial,?_⟩
 rw [semAt_call _ hr,hr]
 simp only [Oper.uponIn]
 refine ⟨fun hn=>by simp [fen] at hn,(callsIn_fen B).2 ((h.frame hx0 (hS.perm hs.perm)).mono fun e w'' he=>?_)⟩
 rcases he with ⟨v,A',he,hR,hS'⟩|⟨c,A',he,hX,hS'⟩
 ·subst he;exact k v A' hR _ _ (hF.put hd v) hS'
 ·subst he;exact kp c A' hX a w'' hF hS'
theorem Ops.callVX {B0:Base} {f:FuncId} {c:Operand} {fi ca:List Value} {xs:List Operand} {ats:Array TypeId} {vs:List Value} {A1 F:List Blk} {R:Value → List Blk → Prop} {X:List PanicEntry → List Blk → Prop} (h:ConX P B0 f (fi ++ vs ++ ca).toArray A1 R X) (hx0:Ext B0 B) [hs:Split A A1 F] (hg:gst ops T gd = some true)
  (hc:ev T c = some (.func (.func f) fi.toArray ca.toArray)) [hf:FnOk P f] (hx:evs T xs = some vs) (hd:Nat.blt d N.n = true) (kp:∀ c A',X c A' → ∀ a w,Fr N T a → Sat B (A' ++ F) w → Q (.panic c) a w) (k:∀ v A',R v A' → Ops P N B Q ops none l ((d,v) :: T) (A' ++ F)) :
  Ops P N B Q ops none (⟨some d,.call { callee:=.value c,args:=xs.toArray,argTypes:=ats },ty,pos,af,gd⟩ :: l) T A:=fun a w hF hS=>by
 have hr:(execOp a.eval ⟨some d,.call { callee:=.value c,args:=xs.toArray,argTypes:=ats },ty,pos,af,gd⟩).run P w = .ok (.enter f (fi ++ vs ++ ca).toArray) w:=by
  simp [execOp,resolve,hF.eval hc,Deferred.ofValue,invoke,run_callFunc hf,hF.evals hx]
 unfold wpListIn
 rw [if_pos (gst_wanted hF hg)]
 unfold Oper.wpIn
 refine ⟨fun _ _=>trivial,?_⟩
 rw [semAt_call _ hr,hr]
 simp only [Oper.uponIn]
 refine ⟨fun hn=>by simp [fen] at hn,(callsIn_fen B).2 ((h.frame hx0 (hS.perm hs.perm)).mono fun e w'' he=>?_)⟩
 rcases he with ⟨v,A',he,hR,hS'⟩|⟨c,A',he,hX,hS'⟩
 ·subst he;exact k v A' hR _ _ (hF.put hd v) hS'
 ·subst he;exact kp c A' hX a w'' hF hS'
def PanP (P:Program) (B:Base) (R:Value → List Blk → Prop) (X:List PanicEntry → List Blk → Prop) (r:Result Next):Prop :=
 ∃ f args w,r = .ok (.enter f args) w ∧ Calls P f args w fun e w'=>(∃ v A',e = .returned v ∧ R v A' ∧ Sat B A' w') ∨ (∃ c A',e = .panicked c ∧ X c A' ∧ Sat B A' w')
theorem wp_of_panP {o:Oper} {a:Act} {w:World} {R:Value → List Blk → Prop} {X:List PanicEntry → List Blk → Prop} {K:Act → World → Prop} (h:PanP P B R X ((execOp a.eval o).run P w)) (hF:Fr N [] a)
  (kp:∀ c A',X c A' → ∀ a w,Fr N [] a → Sat B A' w → Q (.panic c) a w) (hK:∀ v A' w',R v A' → Sat B A' w' → K (a.put o.dst v) w'):o.wpIn (fen B) 0 P a w K Q:=by
 obtain ⟨f,args,w0,hr,h⟩:=h
 unfold Oper.wpIn
 refine ⟨fun _ _=>trivial,?_⟩
 have hs:o.semAt (fen B).round a.eval = execOp a.eval o:=Oper.semAt_eq _ _ o fun c hc=>by
  unfold execOp at hr
  rw [hc] at hr
  simp only [Sem.run_bind] at hr
  generalize (resolve a.eval c o.type).run P w = r at hr
  cases r <;> simp at hr
 rw [hs,hr]
 simp only [Oper.uponIn]
 refine ⟨fun hn=>by simp [fen] at hn,(callsIn_fen B).2 (h.mono fun e w'' he=>?_)⟩
 rcases he with ⟨v,A',he,hR,hS'⟩|⟨c,A',he,hX,hS'⟩
 ·subst he;exact hK v A' w'' hR hS'
 ·subst he;exact kp c A' hX a w'' hF hS'
theorem Ops.callXD {m:Md} {B0:Base} {f:FuncId} {xs:List Operand} {ats:Array TypeId} {vs:List Value} {A1 F:List Blk} {R:Value → List Blk → Prop} {X:List PanicEntry → List Blk → Prop} (h:ConX P B0 f vs.toArray A1 R X) (hx0:Ext B0 B) (hm:m.eff = true) [hs:Split A A1 F] (hp:Pd P N B ops m T (some d) (CallR R F)) (hg:gst ops T gd = some true)
  [hf:FnOk P f] (hx:evs T xs = some vs) (hd:Nat.blt d N.n = true) (kp:∀ c A',X c A' → ∀ a w,Fr N [] a → Sat B (A' ++ F) w → Q (.panic c) a w) (k:∀ v A',R v A' → Ops P N B Q ops m.tl l ((d,v) :: T) (A' ++ F)) :
  Ops P N B Q ops m (⟨some d,.call { callee:=.value (.func f),args:=xs.toArray,argTypes:=ats },ty,pos,af,gd⟩ :: l) T A:=by
 refine Ops.effE (EP:=PanP P B (CallR R F) fun c X'=>∃ A',X c A' ∧ X' = A' ++ F) hm (fun d' h=>by injection h with h;rw [← h];exact hd) (fun a w K hF he hK=>wp_of_panP he hF (fun c X' hX=>?_) hK)
  (fun a w hF hS=>.inl ⟨gst_wanted hF hg,?_⟩) hp (fun v X' hR=>?_)
 ·obtain ⟨A',hX,rfl⟩:=hX;exact kp c A' hX
 ·refine ⟨f,vs.toArray,w,by simp [execOp,resolve,Act.eval,Deferred.ofValue,invoke,run_callFunc hf,hF.evals hx],?_⟩
  exact (h.frame hx0 (hS.perm hs.perm)).mono fun e w'' he=>he.imp (fun ⟨v,A',he,hR,hS'⟩=>⟨v,_,he,⟨A',hR,rfl⟩,hS'⟩) (fun ⟨c,A',he,hX,hS'⟩=>⟨c,_,he,⟨A',hX,rfl⟩,hS'⟩)
 ·obtain ⟨A',hR,rfl⟩:=hR;exact k v A' hR
theorem Ops.pan {dd:Option Nat} {x:Operand} {t:TypeId} {u:Value} (hg:gst ops T gd = some true) (hx:ev T x = some (.iface t u)) (kp:∀ a w,Fr N T a → Sat B A w → Q (.panic [⟨.iface t u,false,false⟩]) a w) :
  Ops P N B Q ops none (⟨dd,.panic x,ty,pos,af,gd⟩ :: l) T A:=fun a w hF hS=>by
 have hr:(execOp a.eval ⟨dd,.panic x,ty,pos,af,gd⟩).run P w = .halt (.panic (.iface t u)) w:=by
  simp only [execOp,hF.eval hx,Sem.run_bind]
  rfl
 unfold wpListIn
 rw [if_pos (gst_wanted hF hg)]
 unfold Oper.wpIn
 refine ⟨fun _ _=>trivial,?_⟩
 rw [semAt_pan _ hr (fun c hc=>by cases hc),hr]
 exact kp a w hF hS
end
section
variable {P:Program} {N:Fi} {B:Base} {Q:Exit → Act → World → Prop} {T:Tm} {A:List Blk} {ops:Array Oper} {l:List Oper}
variable {ty:TypeId} {pos:String} {af:Array Edge} {gd:Option (Nat × Bool)}
theorem Ops.dfr {c:Operand} {f:FuncId} {fi ca vs:List Value} {xs:List Operand} {ats:Array TypeId} (hr:B.round = none) (hg:gst ops T gd = some true) (hc:ev T c = some (.func (.func f) fi.toArray ca.toArray)) (hx:evs T xs = some vs)
  (k:Ops P ⟨N.n,⟨.fn (.func f) ca.toArray,(fi ++ vs).toArray⟩ :: N.ds⟩ B Q ops none l T A) :
  Ops P N B Q ops none (⟨none,.defer { callee:=.value c,args:=xs.toArray,argTypes:=ats },ty,pos,af,gd⟩ :: l) T A:=fun a w hF hS=>by
 have hrun:(execOp a.eval ⟨none,.defer { callee:=.value c,args:=xs.toArray,argTypes:=ats },ty,pos,af,gd⟩).run P w = .ok (.defer ⟨.fn (.func f) ca.toArray,(fi ++ vs).toArray⟩) w:=by
  simp [execOp,resolve,hF.eval hc,Deferred.ofValue,hF.evals hx]
 unfold wpListIn
 rw [if_pos (gst_wanted hF hg)]
 unfold Oper.wpIn
 refine ⟨fun _ _=>trivial,?_⟩
 rw [show (fen B).round = none from hr,Oper.semAt_none,hrun,Oper.uponIn_defer]
 exact k _ w ⟨hF.size,by rw [← hF.dfr];rfl,hF.get⟩ hS
end
def DCon (P:Program) (B0:Base) (f:FuncId) (args:Array Value) (u:FrameMode) (A:List Blk) (R:FrameMode → List Blk → Prop):Prop :=
 ∀ (B:Base) (w:World),Ext B0 B → Sat B A w → CallsDIn Fence.wide 0 P f args u w fun e u' w'=>∃ v A',e = .returned v ∧ R u' A' ∧ Sat B A' w'
theorem CallsDIn.mono {F:Fence} {n:Nat} {P:Program} {f:FuncId} {args:Array Value} {u:FrameMode} {w:World} {R R':Ending → FrameMode → World → Prop} (h:CallsDIn F n P f args u w R) (hr:∀ e u' w',R e u' w' → R' e u' w'):CallsDIn F n P f args u w R' :=
 ⟨h.1,fun c cs hu hroom=>let ⟨e,u',w',fr,hR,rest⟩:=h.2 c cs hu hroom;⟨e,u',w',fr,hr _ _ _ hR,rest⟩⟩
theorem DCon.frame {P:Program} {B0:Base} {f:FuncId} {args:Array Value} {u:FrameMode} {A F:List Blk} {R:FrameMode → List Blk → Prop} (h:DCon P B0 f args u A R) {B:Base} {w:World} (hx:Ext B0 B) (hs:Sat B (A ++ F) w) :
  CallsDIn Fence.wide 0 P f args u w fun e u' w'=>∃ v A',e = .returned v ∧ R u' A' ∧ Sat B (A' ++ F) w' :=
 (h (B.with F) w (hx.trans (Ext.with hs)) hs.frameIn).mono fun _ _ _ ⟨v,A',he,hR,hS⟩=>⟨v,A',he,hR,hs.frameOut hS⟩
section
variable {P:Program} {K:Nat} {B B0:Base} {T:Tm} {A A1 F:List Blk} {fn:Func} {R:Value → List Blk → Prop} {X:List PanicEntry → List Blk → Prop}
theorem leaveD {f:FuncId} {cap args:Array Value} {u:FrameMode} {R1:FrameMode → List Blk → Prop} (hu:u ≠ .run) [hf:FnOk P f] (h:DCon P B0 f (args ++ cap) u A1 R1) (hx0:Ext B0 B) [hs:Split A A1 F]
  (k:∀ u' A',R1 u' A' → (settle u' = .returning ∧ ∀ a w,Fr ⟨K,[]⟩ T a → Sat B (A' ++ F) w → postX P fn B R X .ret a w) ∨ (∃ c,settle u' = .panicking c ∧ ∀ a w,Fr ⟨K,[]⟩ T a → Sat B (A' ++ F) w → postX P fn B R X (.panic c) a w)) :
  ∀ a w,Fr ⟨K,[⟨.fn (.func f) cap,args⟩]⟩ T a → Sat B A w → LeavesInM Fence.wide 0 P fn a.tmps (fun e w'=>(∃ v A',e = .returned v ∧ R v A' ∧ Sat B A' w') ∨ (∃ c A',e = .panicked c ∧ X c A' ∧ Sat B A' w')) a.defers u w:=fun a w hF hS=>by
 have hd:a.defers = [⟨.fn (.func f) cap,args⟩]:=hF.dfr
 rw [hd]
 unfold LeavesInM
 refine ⟨hu,.inr ⟨fun hn=>by simp [Fence.wide] at hn,_,cap,f,args ++ cap,rfl,?_,fun _ _=>trivial,?_⟩⟩
 ·simp [invoke,run_callFunc hf]
 ·refine (h.frame hx0 (hS.perm hs.perm)).mono fun e u' w' ⟨v,A',he,hR,hS'⟩=>?_
  subst he
  have hF0:Fr ⟨K,[]⟩ T { a with defers:=[] }:=⟨hF.size,rfl,hF.get⟩
  show LeavesInM Fence.wide 0 P fn a.tmps _ [] (settle u') w'
  rcases k u' A' hR with ⟨h1,h2⟩|⟨c,h1,h2⟩
  ·have:=h2 _ w' hF0 hS'
   rw [h1];exact this
  ·have:=h2 _ w' hF0 hS'
   rw [h1];exact this
theorem leaveD_ret {f:FuncId} {cap args:Array Value} {R1:FrameMode → List Blk → Prop} [hf:FnOk P f] (h:DCon P B0 f (args ++ cap) .returning A1 R1) (hx0:Ext B0 B) [hs:Split A A1 F]
  (k:∀ u' A',R1 u' A' → (settle u' = .returning ∧ ∀ a w,Fr ⟨K,[]⟩ T a → Sat B (A' ++ F) w → postX P fn B R X .ret a w) ∨ (∃ c,settle u' = .panicking c ∧ ∀ a w,Fr ⟨K,[]⟩ T a → Sat B (A' ++ F) w → postX P fn B R X (.panic c) a w)) :
  ∀ a w,Fr ⟨K,[⟨.fn (.func f) cap,args⟩]⟩ T a → Sat B A w → postX P fn B R X .ret a w:=leaveD (by simp) h hx0 k
theorem leaveD_pan {f:FuncId} {cap args:Array Value} {ch:List PanicEntry} {R1:FrameMode → List Blk → Prop} [hf:FnOk P f] (h:DCon P B0 f (args ++ cap) (.panicking ch) A1 R1) (hx0:Ext B0 B) [hs:Split A A1 F]
  (k:∀ u' A',R1 u' A' → (settle u' = .returning ∧ ∀ a w,Fr ⟨K,[]⟩ T a → Sat B (A' ++ F) w → postX P fn B R X .ret a w) ∨ (∃ c,settle u' = .panicking c ∧ ∀ a w,Fr ⟨K,[]⟩ T a → Sat B (A' ++ F) w → postX P fn B R X (.panic c) a w)) :
  ∀ a w,Fr ⟨K,[⟨.fn (.func f) cap,args⟩]⟩ T a → Sat B A w → postX P fn B R X (.panic ch) a w:=leaveD (by simp) h hx0 k
end
def CdS (P:Program) (N:Fi) (B:Base) (Q:Exit → Act → List Frame → World → Prop) (c:Code) (T:Tm) (A:List Blk) (cs:List Frame):Prop:=∀ a w,Fr N T a → Sat B A w → c.wpSIn Fence.wide 0 P Q a cs w
def postS (P:Program) (fn:Func) (B:Base) (R:FrameMode → List Blk → Prop) (c₀:Frame) (cs:List Frame):Exit → Act → List Frame → World → Prop :=
 bodyPostS P fn c₀ cs fun e u' w'=>∃ v A',e = .returned v ∧ R u' A' ∧ Sat B A' w'
theorem DCon.intro {P:Program} {B0:Base} {f:FuncId} {fn:Func} {c:Code} {K:Nat} {vs:List Value} {u:FrameMode} {A:List Blk} {R:FrameMode → List Blk → Prop} (hf:P.funcs[f]? = some fn) (hb:fn.body = some c) (hN:fn.ntmps = K)
  (hle:Nat.ble vs.length K = true) (h:∀ (B:Base) (c₀:Frame) (cs:List Frame),Ext B0 B.plain → c₀.mode = u → CdS P ⟨K,[]⟩ B.plain (postS P fn B.plain R c₀ cs) c (slots 0 vs) A (c₀ :: cs)):DCon P B0 f vs.toArray u A R:=by
 intro B w he hS
 have hle':vs.length ≤ K:=by simpa [Nat.ble_eq] using hle
 have pl:∀ {A' w'},Sat B.plain A' w' → Sat B A' w':=fun hS'=>⟨hS'.os,hS'.tape,hS'.output,hS'.base,hS'.here,hS'.apart,hS'.nodup⟩
 refine (callsDIn_of_wpSIn (F:=Fence.wide) (n:=0) hf hb trivial (R:=fun e u' w'=>∃ v A',e = .returned v ∧ R u' A' ∧ Sat B.plain A' w') fun c₀ cs hu=>h B c₀ cs he.plain hu _ w ⟨by simp [hN];omega,rfl,fun i v hi=>?_⟩ ⟨hS.os,hS.tape,hS.output,hS.base,hS.here,hS.apart,hS.nodup⟩).mono fun e u' w' ⟨v,A',he,hR,hS'⟩=>⟨v,A',he,hR,pl hS'⟩
 obtain ⟨j,hj,hv⟩:=look_slots _ _ _ _ hi
 simp only [Nat.zero_add] at hj
 subst hj
 have hlt:i < vs.length:=(List.getElem?_eq_some_iff.1 hv).1
 simp only [Array.getElem?_append_left (show i < vs.toArray.size by simpa using hlt)]
 simpa using hv
def calmOp:Op → Bool
 | .move _|.assign _|.pick ..|.typeAssert ..|.extract ..|.unOp ..|.binOp ..|.load ..|.store ..|.fieldAddr ..|.build ..|.box ..|.alloc ..=>true
 | _=>false
theorem calm_run {P:Program} {o:Oper} (h:calmOp o.op = true) (ρ:Operand → Value) (w:World):match (execOp ρ o).run P w with
  | .ok (.value _) _|.ok .skip _|.halt _ _=>True
  | _=>False:=by
 have hv:∀ s:Sem Value,(match (do pure (Next.value (← s)):Sem Next).run P w with
  | .ok (.value _) _|.ok .skip _|.halt _ _=>True
  | _=>False):=fun s=>by
  simp only [Sem.run_bind]
  cases s.run P w <;> simp
 have hu:∀ s:Sem Unit,(match (do s;pure Next.skip:Sem Next).run P w with
  | .ok (.value _) _|.ok .skip _|.halt _ _=>True
  | _=>False):=fun s=>by
  simp only [Sem.run_bind]
  cases s.run P w <;> simp
 unfold execOp
 cases ho:o.op <;> simp only [calmOp,ho,Bool.false_eq_true] at h ⊢
 case pick c a b =>
  simp only [Sem.run_bind]
  cases (asBool (ρ c)).run P w <;> simp
 case box e x =>
  simp only [Sem.run_bind]
  cases (Instr.box e (ρ x)).run P w <;> simp
 all_goals first
  | exact hv _
  | exact hu _
  | (simp;done)
def wpListS (P:Program) (ops:Array Oper) (Q:Exit → Act → List Frame → World → Prop):List Oper → Act → List Frame → World → Prop
 | [],a,cs,w=>Q .normal a cs w
 | o :: rest,a,cs,w =>
   if Region.wanted o (yielded ops a.tmps) then
    match (execOp a.eval o).run P w with
    | .ok .recover w' =>
     match recoverD cs with
     | some (v,cs')=>wpListS P ops Q rest (a.put o.dst v) cs' w'
     | none=>wpListS P ops Q rest (a.put o.dst .nilIface) cs w'
    | .ok (.value v) w'=>wpListS P ops Q rest (a.put o.dst v) cs w'
    | .ok .skip w'=>wpListS P ops Q rest (a.put o.dst undef) cs w'
    | .halt (.panic v) w'=>Q (.panic [{ v,recovered:=false }]) a cs w'
    | _=>False
   else wpListS P ops Q rest (a.put o.dst undef) cs w
theorem wpOpsS_of_list {P:Program} {ops:Array Oper} {Q:Exit → Act → List Frame → World → Prop}:∀ (l:List Oper) (k:Nat),(∀ j,l[j]? = ops[k + j]?) → ∀ a cs w,wpListS P ops Q l a cs w → wpOpsSIn Fence.wide 0 P ops Q (List.range' k l.length) a cs w
 | [],_,_,_,_,_,h=>h
 | o :: l,k,hk,a,cs,w,h=>by
  have h0:ops[k]? = some o:=by have:=hk 0;simpa using this.symm
  have ih:=wpOpsS_of_list (P:=P) (ops:=ops) (Q:=Q) l (k + 1) (fun j=>by have:=hk (j + 1);rw [List.getElem?_cons_succ] at this;rw [this];congr 1;omega)
  show wpOpsSIn Fence.wide 0 P ops Q (k :: List.range' (k + 1) l.length) a cs w
  unfold wpOpsSIn
  simp only [h0]
  refine ⟨fun _ _=>trivial,?_⟩
  unfold wpListS at h
  by_cases hw:Region.wanted o (yielded ops a.tmps) = true
  ·rw [if_pos hw] at h ⊢
   generalize (execOp a.eval o).run P w = r at h ⊢
   cases r with
   | ok n w' =>
    cases n <;> dsimp only at h ⊢ <;> first|exact h.elim|exact ih _ _ _ h|skip
    case recover =>
     cases hr:recoverD cs with
     | none=>rw [hr] at h;exact ih _ _ _ h
     | some p=>rw [hr] at h;obtain ⟨v,cs'⟩:=p;exact ih _ _ _ h
   | halt x w'=>cases x <;> dsimp only at h ⊢ <;> first|exact h.elim|exact h
  ·rw [if_neg hw] at h ⊢
   exact ih _ _ _ h
theorem wpListS_of_in {P:Program} {ops:Array Oper} {Q:Exit → Act → List Frame → World → Prop} {cs:List Frame}:∀ (l:List Oper),(l.all fun o=>calmOp o.op) = true → ∀ a w,wpListIn Fence.wide 0 P ops (fun e a' w'=>Q e a' cs w') l a w → wpListS P ops Q l a cs w
 | [],_,_,_,h=>h
 | o :: l,hc,a,w,h=>by
  rw [List.all_cons,Bool.and_eq_true] at hc
  have ih:=wpListS_of_in (P:=P) (ops:=ops) (Q:=Q) (cs:=cs) l hc.2
  unfold wpListS
  unfold wpListIn at h
  by_cases hw:Region.wanted o (yielded ops a.tmps) = true
  ·rw [if_pos hw] at h ⊢
   have hcr:=calm_run (P:=P) (o:=o) hc.1 a.eval w
   unfold Oper.wpIn at h
   have h:=h.2
   rw [show (Fence.wide).round = none from rfl,Oper.semAt_none] at h
   generalize (execOp a.eval o).run P w = r at h hcr ⊢
   cases r with
   | ok n w'=>cases n <;> dsimp only at hcr ⊢ <;> first|exact hcr.elim|exact ih _ _ h
   | halt x w'=>cases x <;> dsimp only [Oper.uponIn] at h ⊢ <;> exact h
  ·rw [if_neg hw] at h ⊢
   exact ih _ _ h.2
section
variable {P:Program} {N:Fi} {B:Base} {Q:Exit → Act → List Frame → World → Prop} {T:Tm} {A:List Blk} {cs:List Frame}
theorem CdS.seq {x y:Code} (h:CdS P N B (Exit.thenS (y.wpSIn Fence.wide 0 P Q) Q) x T A cs):CdS P N B Q (.seq x y) T A cs:=fun a w hF hS=>wpSIn_seq (h a w hF hS)
theorem CdS.of {c:Code} (hr:B.round = none) (h:Cd P N B (fun e a w=>Q e a cs w) c T A):CdS P N B Q c T A cs:=fun a w hF hS=>by
 have h1:=h a w hF hS
 have hfen:fen B = Fence.wide:=by unfold fen Fence.wide;rw [hr]
 rw [hfen] at h1
 exact wpSIn_of_wpIn rfl h1
theorem CdS.next {c:Code} (h:CdS P N B Q c T A cs):∀ a w,Fr N T a → Sat B A w → Exit.thenS (c.wpSIn Fence.wide 0 P Q) Q .normal a cs w:=h
theorem CdS.rec_ {id d:Nat} {ty:TypeId} {pos:String} {af:Array Edge} {ats:Array TypeId} {l:List Oper} {v:Value} {cs':List Frame} (hr:B.round = none) (hrec:recoverD cs = some (v,cs')) (hd:Nat.blt d N.n = true) (hcalm:(l.all fun o=>calmOp o.op) = true)
  (h:Ops P N B (fun e a w=>Q e a cs' w) (⟨some d,.call { callee:=.builtin .recover,args:=#[],argTypes:=ats },ty,pos,af,none⟩ :: l).toArray none l ((d,v) :: T) A) :
  CdS P N B Q (.region id (⟨some d,.call { callee:=.builtin .recover,args:=#[],argTypes:=ats },ty,pos,af,none⟩ :: l).toArray false) T A cs:=fun a w hF hS=>by
 refine wpSIn_region ?_
 rw [List.range_eq_range']
 refine wpOpsS_of_list _ 0 (fun j=>by simp) a cs w ?_
 unfold wpListS
 rw [if_pos (by simp [Region.wanted])]
 have hrun:(execOp a.eval ⟨some d,.call { callee:=.builtin .recover,args:=#[],argTypes:=ats },ty,pos,af,none⟩).run P w = .ok .recover w:=by
  simp [execOp,resolve,invoke,builtin]
 rw [hrun]
 simp only [hrec]
 have h1:=h _ w (hF.put hd v) hS
 have hfen:fen B = Fence.wide:=by unfold fen Fence.wide;rw [hr]
 rw [hfen] at h1
 exact wpListS_of_in l hcalm _ _ h1
theorem CdS.rec_no {id d:Nat} {ty:TypeId} {pos:String} {af:Array Edge} {ats:Array TypeId} {l:List Oper} (hr:B.round = none) (hrec:recoverD cs = none) (hd:Nat.blt d N.n = true) (hcalm:(l.all fun o=>calmOp o.op) = true)
  (h:Ops P N B (fun e a w=>Q e a cs w) (⟨some d,.call { callee:=.builtin .recover,args:=#[],argTypes:=ats },ty,pos,af,none⟩ :: l).toArray none l ((d,.nilIface) :: T) A) :
  CdS P N B Q (.region id (⟨some d,.call { callee:=.builtin .recover,args:=#[],argTypes:=ats },ty,pos,af,none⟩ :: l).toArray false) T A cs:=fun a w hF hS=>by
 refine wpSIn_region ?_
 rw [List.range_eq_range']
 refine wpOpsS_of_list _ 0 (fun j=>by simp) a cs w ?_
 unfold wpListS
 rw [if_pos (by simp [Region.wanted])]
 have hrun:(execOp a.eval ⟨some d,.call { callee:=.builtin .recover,args:=#[],argTypes:=ats },ty,pos,af,none⟩).run P w = .ok .recover w:=by
  simp [execOp,resolve,invoke,builtin]
 rw [hrun]
 simp only [hrec]
 have h1:=h _ w (hF.put hd .nilIface) hS
 have hfen:fen B = Fence.wide:=by unfold fen Fence.wide;rw [hr]
 rw [hfen] at h1
 exact wpListS_of_in l hcalm _ _ h1
end
section
variable {P:Program} {K:Nat} {B:Base} {T:Tm} {A A':List Blk} {fn:Func} {R:FrameMode → List Blk → Prop} {c₀:Frame} {cs:List Frame}
theorem retS {u':FrameMode} (hr:fn.results = #[]) (hA:∀ w,Sat B A w → Sat B A' w) (hR:R u' A'):∀ a w,Fr ⟨K,[]⟩ T a → Sat B A w → postS P fn B R c₀ cs .ret a ({ c₀ with mode:=u' } :: cs) w :=
 fun a w hF hS=>⟨hF.dfr,u',rfl,.tuple #[],by simp [results,hr],.tuple #[],A',rfl,hR,hA w hS⟩
theorem endS {u':FrameMode} (hr:fn.results = #[]) (hA:∀ w,Sat B A w → Sat B A' w) (hR:R u' A'):∀ a w,Fr ⟨K,[]⟩ T a → Sat B A w → postS P fn B R c₀ cs .normal a ({ c₀ with mode:=u' } :: cs) w:=retS hr hA hR
end
end Go.Sep
namespace Go.Sep
open Go
def orI (k:IntKind) (a b:Int):Int:=k.wrap ((BitVec.ofInt k.bits a ||| BitVec.ofInt k.bits b).toNat:Int)
def andI (k:IntKind) (a b:Int):Int:=k.wrap ((BitVec.ofInt k.bits a &&& BitVec.ofInt k.bits b).toNat:Int)
section
variable {P:Program} {t:TypeId} {k:IntKind} {a b:Int}
instance (priority:=400) BinRun.orI:BinRun P .or t (.int k a) (.int k b) (.int k (orI k a b)):=⟨fun _ _ w=>by simp [eqGuard,binOp,Op.intBits,Sep.orI]⟩
instance (priority:=400) BinRun.andI:BinRun P .and t (.int k a) (.int k b) (.int k (andI k a b)):=⟨fun _ _ w=>by simp [eqGuard,binOp,Op.intBits,Sep.andI]⟩
end
section
variable {P:Program} {N:Fi} {B:Base} {Q:Exit → Act → World → Prop} {T:Tm} {A:List Blk} {ops:Array Oper} {l:List Oper}
variable {d:Nat} {ty:TypeId} {pos:String} {af:Array Edge} {m:Md} {gd:Option (Nat × Bool)}
theorem Ops.shlI {t u:TypeId} {x y:Operand} {k1 k2:IntKind} {a b:Int} (hm:m.rd true = true) (hg:gst ops T gd = some true) (hx:ev T x = some (.int k1 a)) (hy:ev T y = some (.int k2 b)) (h0:0 ≤ b) (hd:Nat.blt d N.n = true)
  (k:Ops P N B Q ops m.tl l ((d,.int k1 (k1.wrap (a * 2 ^ (min b.toNat k1.bits)))) :: T) A):Ops P N B Q ops m (⟨some d,.binOp .shl t x y u,ty,pos,af,gd⟩ :: l) T A :=
 Ops.pureV hm hg hd (fun a' w hF=>by
  simp [execOp,hF.eval hx,hF.eval hy,eqGuard,binOp,Op.shift,show ¬ b < 0 from by omega]) k
theorem Ops.cat {t u:TypeId} {x y:Operand} {s r:ByteArray} (hm:m.rd true = true) (hg:gst ops T gd = some true) (hx:ev T x = some (.string s)) (hy:ev T y = some (.string r)) (hs:s.size + r.size ≤ 4611686018427387904) (hd:Nat.blt d N.n = true)
  (k:Ops P N B Q ops m.tl l ((d,.string (s ++ r)) :: T) A):Ops P N B Q ops m (⟨some d,.binOp .add t x y u,ty,pos,af,gd⟩ :: l) T A :=
 Ops.pureV hm hg hd (fun a' w hF=>by
  have:¬ ((s.size + r.size:Nat):Int) > IntKind.i64.max:=by simp [IntKind.max,IntKind.bits,IntKind.signed];omega
  simp only [execOp,hF.eval hx,hF.eval hy,eqGuard,binOp,Op.stringOp,if_neg this]
  simp) k
end
theorem orI_u64 {a b:Nat} (ha:a < 18446744073709551616) (hb:b < 18446744073709551616):orI .u64 (a:Int) (b:Int) = ((a ||| b:Nat):Int):=by
 have hlt:a ||| b < 2 ^ 64:=Nat.or_lt_two_pow (by omega) (by omega)
 show IntKind.wrap .u64 ((BitVec.ofInt 64 (a:Int) ||| BitVec.ofInt 64 (b:Int)).toNat:Int) = _
 rw [BitVec.toNat_or,BitVec.toNat_ofInt,BitVec.toNat_ofInt]
 rw [show ((a:Int) % ((2 ^ 64:Nat):Int)).toNat = a from by omega,show ((b:Int) % ((2 ^ 64:Nat):Int)).toNat = b from by omega]
 simp only [IntKind.wrap,IntKind.bits,IntKind.signed,Bool.false_and,Bool.false_eq_true,if_false]
 omega
theorem orI_u8 {a b:Nat} (ha:a < 256) (hb:b < 256):orI .u8 (a:Int) (b:Int) = ((a ||| b:Nat):Int):=by
 have hlt:a ||| b < 2 ^ 8:=Nat.or_lt_two_pow (by omega) (by omega)
 show IntKind.wrap .u8 ((BitVec.ofInt 8 (a:Int) ||| BitVec.ofInt 8 (b:Int)).toNat:Int) = _
 rw [BitVec.toNat_or,BitVec.toNat_ofInt,BitVec.toNat_ofInt]
 rw [show ((a:Int) % ((2 ^ 8:Nat):Int)).toNat = a from by omega,show ((b:Int) % ((2 ^ 8:Nat):Int)).toNat = b from by omega]
 simp only [IntKind.wrap,IntKind.bits,IntKind.signed,Bool.false_and,Bool.false_eq_true,if_false]
 omega
theorem andI_u8 {a b:Nat} (ha:a < 256) (hb:b < 256):andI .u8 (a:Int) (b:Int) = ((a &&& b:Nat):Int):=by
 have hlt:a &&& b < 2 ^ 8:=Nat.and_lt_two_pow _ (by omega)
 show IntKind.wrap .u8 ((BitVec.ofInt 8 (a:Int) &&& BitVec.ofInt 8 (b:Int)).toNat:Int) = _
 rw [BitVec.toNat_and,BitVec.toNat_ofInt,BitVec.toNat_ofInt]
 rw [show ((a:Int) % ((2 ^ 8:Nat):Int)).toNat = a from by omega,show ((b:Int) % ((2 ^ 8:Nat):Int)).toNat = b from by omega]
 simp only [IntKind.wrap,IntKind.bits,IntKind.signed,Bool.false_and,Bool.false_eq_true,if_false]
 omega
end Go.Sep
namespace Go.Sep
open Go
section
variable {P:Program} {N:Fi} {B:Base} {Q:Exit → Act → World → Prop} {T:Tm} {A:List Blk} {ops:Array Oper} {l:List Oper}
variable {d:Nat} {ty:TypeId} {pos:String} {af:Array Edge} {m:Md} {gd:Option (Nat × Bool)}
theorem Ops.ixA {t e:TypeId} {ge:Bool} {x y:Operand} {n sz' bs':Nat} {zc':List Value} {b o:Nat} {k':IntKind} {i:Int} (hm:m.rd true = true) (hg:gst ops T gd = some true) [ht:TyD P t (.array n e)] [he:Ty P e ge sz' bs' zc']
  (hx:ev T x = some (.pointer (some ⟨b,o,none⟩))) (hy:ev T y = some (.int k' i)) (h0:0 ≤ i) (h1:i < n) (hd:Nat.blt d N.n = true)
  (k:Ops P N B Q ops m.tl l ((d,.pointer (some ⟨b,o + i.toNat * sz',none⟩)) :: T) A):Ops P N B Q ops m (⟨some d,.indexAddr t x y,ty,pos,af,gd⟩ :: l) T A :=
 Ops.pureV hm hg hd (fun a w hF=>by
  simp [execOp,hF.eval hx,hF.eval hy,Instr.indexAt,Instr.sureAddr,asIntOf,ht.run_und,he.run_size,h0,h1,add_none]) k
end
theorem GetS.all {l:List Value} {n:Nat} (h:l.length = n):GetS l 0 n l:=⟨by subst h;simp,by omega⟩
theorem SetS.all {l l':List Value} (h:l.length = l'.length):SetS l 0 l' l':=⟨by simp [← h],by omega⟩
end Go.Sep
namespace Go.Sep
open Go
def Rs (E sz:Nat) (sv:Value) (rows:List (List Value)) (G:List Blk):Prop :=
 RowsOk sz rows ∧ ((sv = .slice none 0 0 ∧ rows = [] ∧ G = []) ∨ ∃ g c spare,sv = .slice (some ⟨g,0,none⟩) rows.length c ∧ G = [(g,cl (rows.flatten ++ spare) E)])
theorem Own.rs {E sz:Nat} {sv:Value} {rows:List (List Value)} {G:List Blk} (h:Own E sz sv rows G):Rs E sz sv rows G:=by
 refine ⟨h.1,?_⟩
 rcases h.2 with h|⟨g,c,sp,h1,h2,_,_⟩
 ·exact .inl h
 ·exact .inr ⟨g,c,sp,h1,h2⟩
theorem Rs.form {E sz:Nat} {sv:Value} {rows:List (List Value)} {G:List Blk} (h:Rs E sz sv rows G):∃ a c,sv = .slice a rows.length c:=by
 rcases h.2 with ⟨rfl,rfl,_⟩|⟨g,c,_,rfl,_⟩
 ·exact ⟨_,_,rfl⟩
 ·exact ⟨_,_,rfl⟩
theorem Rs.some_ {E sz:Nat} {sv:Value} {rows:List (List Value)} {G:List Blk} (h:Rs E sz sv rows G) (hn:0 < rows.length) :
  ∃ g c spare,sv = .slice (some ⟨g,0,.none⟩) rows.length c ∧ G = [(g,cl (rows.flatten ++ spare) E)]:=by
 rcases h.2 with ⟨_,rfl,_⟩|h
 ·simp at hn
 ·exact h
section
variable {P:Program} {N:Fi} {B:Base} {Q:Exit → Act → World → Prop} {T:Tm} {A:List Blk} {ops:Array Oper} {l:List Oper}
variable {d:Nat} {ty:TypeId} {pos:String} {af:Array Edge} {m:Md} {gd:Option (Nat × Bool)}
theorem Ops.slHM {t e:TypeId} {ge:Bool} {x z u:Operand} {sz bs n c:Nat} {a0:Option Addr} {zc:List Value} {k2 k3:IntKind} {j q:Int} (hm:m.rd true = true) (hg:gst ops T gd = some true) [ht:TyD P t (.slice e)] [he:Ty P e ge sz bs zc]
  (hx:ev T x = some (.slice a0 n c)) (hz:ev T z = some (.int k2 j)) (hu:ev T u = some (.int k3 q)) (h1:0 ≤ j) (h2:j ≤ q) (h3:q ≤ c) (hd:Nat.blt d N.n = true)
  (k:Ops P N B Q ops m.tl l ((d,.slice a0 j.toNat q.toNat) :: T) A):Ops P N B Q ops m (⟨some d,.slice t x none (some z) (some u),ty,pos,af,gd⟩ :: l) T A :=
 Ops.pureV hm hg hd (fun a w hF=>by
  have e0:(if q.toNat = 0 then a0 else a0.map (·.add (0 * sz))) = a0:=by
   split
   ·rfl
   ·cases a0 <;> simp [Addr.add]
  simp only [execOp,hF.eval hx,hF.eval hz,hF.eval hu,Option.map_some,Option.map_none,Instr.sliceAt,Instr.slice,ht.run_und,Instr.sliceBounds,run_bound (show 0 ≤ q by omega) h3,run_bound h1 (show j ≤ (q.toNat:Int) by omega),if_true,Option.isSome_some,he.run_size,Sem.run_bind,Sem.run_pure,Result.andThen_ok,e0,Nat.sub_zero]) k
theorem eqIn_funcNil {t:TypeId} {ps rs:Array TypeId} {vr:Bool} [h:TyD P t (.func ps rs vr)] {f:Fn} {x y:Array Value} {w:World} (d:Nat):(Op.equalIn (d + 1) t (.func f x y) .nilFunc).run P w = .ok false w:=by
 simp [Op.equalIn,h.run_und]
theorem run_eqGuard_func {t:TypeId} {op:BinOp} {xo yo:Operand} {f:Fn} {x y:Array Value} {w:World}:(eqGuard op t xo yo (.func f x y) .nilFunc).run P w = .ok () w:=by
 unfold eqGuard;cases op <;> rfl
instance BinRun.eqFuncNil {t:TypeId} {ps rs:Array TypeId} {vr:Bool} [h:TyD P t (.func ps rs vr)] {f:Fn} {x y:Array Value}:BinRun P .eql t (.func f x y) .nilFunc (.bool false):=⟨fun xo yo w=>by
 rw [Sem.run_bind,run_eqGuard_func,Result.andThen_ok]
 exact run_eql rfl fun d=>eqIn_funcNil d⟩
end
end Go.Sep
namespace Go.Sep
open Go
structure PE where
 a:Int
 b:Int
 v:Value
@[reducible] def pkey (a b:Int):Value:=.agg #[.int .i64 a,.int .i64 b]
def PE.ent (i:Nat) (e:PE):MapEntry:={ key:=pkey e.a e.b,val:=e.v,born:=i }
class PairK (P:Program) (kt:TypeId):Prop where
 und:∃ fs,P.underlying kt = some (.struct fs)
 check:∀ (c:Bool) (x y:Int) (w:World),(Instr.checkKey c 10000 kt (pkey x y)).run P w = .ok () w
 eq:∀ (x y z u:Int) (w:World),(Op.equal kt (pkey x y) (pkey z u)).run P w = .ok (decide (x = z ∧ y = u)) w
instance PairK.of {P:Program} {kt t1:TypeId} {q:IntKind} {bs:Nat} {zc:List Value} [h:Flds P kt [(t1,0),(t1,1)]] [h1:TyD P t1 (.int q)] [h2:Ty P t1 false 1 bs zc]:PairK P kt where
 und:=by obtain ⟨fs,hu,_⟩:=h.get;exact ⟨fs,hu⟩
 check:=fun c x y w=>by
  obtain ⟨⟨fs⟩,hu,hn,hs,_,hfl⟩:=h.get
  obtain ⟨f1,f2,rfl⟩:∃ f1 f2,fs = [f1,f2]:=by
   cases fs with
   | nil=>cases hfl
   | cons f1 fs =>
    cases fs with
    | nil=>simp at hfl
    | cons f2 fs =>
     cases fs with
     | nil=>exact ⟨f1,f2,rfl⟩
     | cons f3 fs=>simp at hfl
  ·simp only [List.map_cons,List.map_nil,List.cons.injEq,Prod.mk.injEq,and_true] at hfl
   obtain ⟨⟨e1,e2⟩,e3,e4⟩:=hfl
   have n1:=hn f1 (by simp)
   have n2:=hn f2 (by simp)
   have hc:∀ (n:Nat) (z:Int) (w:World),(Instr.checkKey c (n + 1) t1 (.int .i64 z)).run P w = .ok () w:=fun n z w=>by
    simp only [Instr.checkKey,Sem.run_bind,h1.run_und,Result.andThen_ok]
    rfl
   have p1:(part t1 #[.int .i64 x,.int .i64 y] 0).run P w = .ok (.int .i64 x) w:=run_part (xs:=[.int .i64 x,.int .i64 y]) h2 ⟨(fun e=>nomatch e),fun _=>rfl⟩ w
   have p2:(part t1 #[.int .i64 x,.int .i64 y] 1).run P w = .ok (.int .i64 y) w:=run_part (xs:=[.int .i64 x,.int .i64 y]) h2 ⟨(fun e=>nomatch e),fun _=>rfl⟩ w
   show (Instr.checkKey c (9999 + 1) kt (.agg #[.int .i64 x,.int .i64 y])).run P w = .ok () w
   unfold Instr.checkKey
   simp only [Sem.run_bind,run_underlying hu w,Result.andThen_ok]
   simp [n1,n2,← e1,← e2,← e3,← e4,p1,p2,hc 9998]
 eq:=fun x y z u w=>by
  have hx:EqV P 8 kt (.agg [.int .i64 x,.int .i64 y].toArray) (.agg [.int .i64 z,.int .i64 u].toArray) (decide (x = z) && (decide (y = u) && true)):=inferInstance
  have:=hx.run 9992 w
  rw [show (decide (x = z ∧ y = u)) = (decide (x = z) && (decide (y = u) && true)) from by simp]
  exact this
section
variable {P:Program} {kt:TypeId} {w:World}
end
section
variable {P:Program} {N:Fi} {B:Base} {Q:Exit → Act → World → Prop} {T:Tm} {A:List Blk} {ops:Array Oper} {l:List Oper}
variable {d:Nat} {ty:TypeId} {pos:String} {af:Array Edge} {m:Md} {gd:Option (Nat × Bool)}
end
end Go.Sep
