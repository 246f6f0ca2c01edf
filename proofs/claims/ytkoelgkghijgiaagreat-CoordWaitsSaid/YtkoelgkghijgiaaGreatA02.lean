import Derived.Test.YtkoelgkghijgiaaGreatA01
set_option linter.unusedVariables false
set_option linter.unusedSimpArgs false
namespace Go.Sep
open Go
def bdeps (o:Oper):List Nat:=(o.after.toList.filter fun e=>Region.binds .any e).map (·.on)
theorem mem_bdeps {o:Oper} {j:Nat}:j ∈ bdeps o ↔ ∃ e ∈ o.after,Region.binds .any e = true ∧ e.on = j:=by
 simp [bdeps,and_assoc]
def notSel:Op → Bool
 | .select ..|.go _|.defer _=>false
 | _=>true
theorem notSel_ne {op:Op} (h:notSel op = true):∀ cs b,op ≠ .select cs b:=by
 rintro cs b rfl;cases h
section
variable {P:Program} {ops:Array Oper} {o:Oper} {a a':Act} {w:World}
def Agree (ops:Array Oper) (o:Oper) (a a':Act):Prop:=∀ t ∈ o.looksAt ops,a.tmps[t]? = a'.tmps[t]?
theorem Agree.exec (h:Agree ops o a a') (hs:notSel o.op = true):execOp a.eval o = execOp a'.eval o:=by
 refine execOp_congr o (notSel_ne hs) fun x hx=>?_
 cases x with
 | tmp t =>
  have:t ∈ o.looksAt ops:=by
   unfold Oper.looksAt
   refine List.mem_append_left _ (List.mem_filterMap.2 ⟨.tmp t,by simpa using hx,rfl⟩)
  simp [Act.eval,Array.getD_eq_getD_getElem?,h t this]
 | _=>rfl
theorem Agree.wanted (h:Agree ops o a a'):Region.wanted o (yielded ops a.tmps) = Region.wanted o (yielded ops a'.tmps):=by
 unfold Region.wanted
 cases hg:o.guard with
 | none=>rfl
 | some p =>
  obtain ⟨g,b⟩:=p
  have:yielded ops a.tmps g = yielded ops a'.tmps g:=by
   unfold yielded
   cases hd:(ops[g]?).bind (·.dst) with
   | none=>rfl
   | some d =>
    have hm:d ∈ o.looksAt ops:=by
     unfold Oper.looksAt
     refine List.mem_append_right _ ?_
     simp [hg,hd]
    simp [h d hm]
  simp [this]
def Steps1 (P:Program) (ops:Array Oper) (o:Oper) (a:Act) (w:World) (v:Value):Prop :=
 (Region.wanted o (yielded ops a.tmps) = true ∧ (execOp a.eval o).run P w = .ok (.value v) w) ∨ (Region.wanted o (yielded ops a.tmps) = false ∧ v = undef)
theorem Steps1.agree {v:Value} (h:Steps1 P ops o a w v) (ha:Agree ops o a' a) (hs:notSel o.op = true):Steps1 P ops o a' w v:=by
 unfold Steps1 at *
 rw [ha.exec hs,ha.wanted]
 exact h
end
theorem semAt_of_value {P:Program} {o:Oper} {ρ:Operand → Value} {ro:Option Nat} {w w':World} {v:Value} (h:(execOp ρ o).run P w = .ok (.value v) w'):o.semAt ro ρ = execOp ρ o :=
 Oper.semAt_eq ro ρ o fun c hc=>by
  unfold execOp at h
  rw [hc] at h
  simp only [Sem.run_bind] at h
  generalize (resolve ρ c o.type).run P w = r at h
  cases r <;> simp at h
structure Lg where
 i:Nat
 d:Nat
 v:Value
 p:Bool
def puts (a:Act):List Lg → Act
 | []=>a
 | u :: U=>(puts a U).put (some u.d) u.v
theorem puts_put {a:Act} {d:Option Tmp} {v:Value}:∀ {U:List Lg},(∀ u ∈ U,d ≠ some u.d) → puts (a.put d v) U = (puts a U).put d v
 | [],_=>rfl
 | u :: U,h=>by
  simp only [puts]
  rw [puts_put (U:=U) fun x hx=>h x (List.mem_cons_of_mem _ hx)]
  exact Act.put_comm _ _ _ fun d' hd' e=>h u (List.mem_cons_self ..) (by rw [hd'];exact e.symm)
theorem puts_mid {a:Act} {u:Lg}:∀ {U1 U2:List Lg},(∀ x ∈ U1 ++ U2,x.d ≠ u.d) → puts a (U1 ++ u :: U2) = puts (a.put (some u.d) u.v) (U1 ++ U2)
 | [],U2,h=>by
  simp only [List.nil_append,puts]
  exact (puts_put fun x hx e=>h x (by simpa using hx) (by injection e with e;exact e.symm)).symm
 | x :: U1,U2,h=>by
  simp only [List.cons_append,puts]
  rw [puts_mid (U1:=U1) (U2:=U2) fun y hy=>h y (List.mem_cons_of_mem _ hy)]
theorem puts_tmps {a:Act} {t:Nat}:∀ {U:List Lg},(∀ u ∈ U,u.d ≠ t) → (puts a U).tmps[t]? = a.tmps[t]?
 | [],_=>rfl
 | u :: U,h=>by
  simp only [puts,Act.put]
  rw [Array.getElem?_setIfInBounds_ne (h u (List.mem_cons_self ..))]
  exact puts_tmps fun x hx=>h x (List.mem_cons_of_mem _ hx)
theorem puts_size {a:Act}:∀ {U:List Lg},(puts a U).tmps.size = a.tmps.size
 | []=>rfl
 | u :: U=>by simp [puts,Act.put,puts_size (U:=U)]
theorem puts_defers {a:Act}:∀ {U:List Lg},(puts a U).defers = a.defers
 | []=>rfl
 | u :: U=>by simp [puts,Act.put,puts_defers (U:=U)]
theorem puts_get {a:Act} {u:Lg} (hd:u.d < a.tmps.size):∀ {U:List Lg},u ∈ U → (∀ x ∈ U,x.d = u.d → x.v = u.v) → (puts a U).tmps[u.d]? = some u.v
 | x :: U,hm,hv=>by
  simp only [puts,Act.put]
  by_cases e:x.d = u.d
  ·rw [e,hv x (List.mem_cons_self ..) e]
   simp [puts_size,hd]
  ·rw [Array.getElem?_setIfInBounds_ne e]
   rcases List.mem_cons.1 hm with rfl|hm
   ·exact absurd rfl e
   ·exact puts_get hd hm fun y hy=>hv y (List.mem_cons_of_mem _ hy)
def Lag (P:Program) (ops:Array Oper) (B:Base) (A:List Blk) (s:Act) (u:Lg):Prop :=
 ∃ o,ops[u.i]? = some o ∧ o.dst = some u.d ∧ notSel o.op = true ∧ ∀ a0,Agree ops o a0 s → ∀ w,(u.p = true ∨ Sat B A w) → Steps1 P ops o a0 w u.v
structure CanO (ops:Array Oper) (can:List Nat) (rd fk:Nat → Bool):Prop where
 mem:∀ j,j ∈ can ↔ j < ops.size
 nodup:can.Nodup
 deps:∀ (p i:Nat) (o:Oper),can[p]? = some i → ops[i]? = some o → ∀ j ∈ bdeps o,j ∈ can.take p ∧ j < i
 ready:∀ (p i:Nat),can[p]? = some i → rd i = false → fk i = false → ∀ (j:Nat) (o:Oper),ops[j]? = some o → j ∉ can.take p → j ≠ i → ∃ k ∈ bdeps o,k ∉ can.take p
 sel:∀ (i:Nat) (o:Oper),ops[i]? = some o → notSel o.op = true
 dst:∀ (i j:Nat) (oi oj:Oper) (d:Tmp),ops[i]? = some oi → ops[j]? = some oj → rd i = true → oi.dst = some d → i ≠ j → oj.dst ≠ some d
 looks:∀ (i j:Nat) (oi oj:Oper) (d:Tmp),ops[i]? = some oi → ops[j]? = some oj → rd i = true → oi.dst = some d → d ∈ oj.looksAt ops → i ∈ bdeps oj
 effs:∀ (i j:Nat) (oi oj:Oper) (d:Tmp),ops[i]? = some oi → ops[j]? = some oj → rd i = false → oi.dst = some d → d ∈ oj.looksAt ops → i = j ∨ i ∈ bdeps oj ∨ j ∈ bdeps oi
def Closed (ops:Array Oper) (listed:Array Bool):Prop:=∀ (j:Nat) (o:Oper),ops[j]? = some o → listed.getD j false = true → ∀ x ∈ bdeps o,listed.getD x false = true
inductive Anc (ops:Array Oper) (e:Nat):Nat → Prop
 | one {o:Oper} {x:Nat}:ops[e]? = some o → x ∈ bdeps o → Anc ops e x
 | step {o:Oper} {x y:Nat}:Anc ops e y → ops[y]? = some o → x ∈ bdeps o → Anc ops e x
theorem Anc.listed {ops:Array Oper} {e x:Nat} {listed:Array Bool} (h:Anc ops e x) (hc:Closed ops listed) (h0:∀ o,ops[e]? = some o → ∀ x ∈ bdeps o,listed.getD x false = true):listed.getD x false = true:=by
 induction h with
 | one ho hx=>exact h0 _ ho _ hx
 | step _ ho hx ih=>exact hc _ _ ho ih _ hx
section
variable (P:Program) (N:Fi) (B:Base) (Q:Exit → Act → World → Prop) (ops:Array Oper) (can:List Nat) (rd ld:Nat → Bool)
def DSem (l:List Oper) (T:Tm) (A:List Blk):Prop :=
 l.length ≤ can.length → l.map some = (can.drop (can.length - l.length)).map (ops[·]?) →
 ∀ (U:List Lg) (a:Act) (w:World) (listed:Array Bool),
  (∀ u ∈ U,u.p = true ∨ ld u.i = true) → (∀ u ∈ U,u.i ∈ can.take (can.length - l.length) ∧ rd u.i = true) → (U.map Lg.i).Nodup →
  Fr N T (puts a U) → Sat B A w → (∀ u ∈ U,Lag P ops B A (puts a U) u) →
  listed.size = ops.size → (∀ j,j < ops.size → (listed.getD j false = true ↔ j ∈ can.take (can.length - l.length) ∧ j ∉ U.map Lg.i)) → Closed ops listed →
  wpAnyIn (fen B) 0 P .any ops Q (l.length + U.length) listed a w
def DStep (l:List Oper) (T:Tm) (A:List Blk):Prop :=
 l.length ≤ can.length → l.map some = (can.drop (can.length - l.length)).map (ops[·]?) →
 ∀ (U:List Lg) (a:Act) (w:World) (listed:Array Bool) (i:Nat),can[can.length - l.length]? = some i →
  (∀ u ∈ U,u.p = true ∨ ld u.i = true) → (∀ u ∈ U,u.i ∈ can.take (can.length - l.length) ∧ rd u.i = true) → (U.map Lg.i).Nodup →
  Fr N T (puts a U) → Sat B A w → (∀ u ∈ U,Lag P ops B A (puts a U) u) →
  listed.size = ops.size → (∀ j,j < ops.size → (listed.getD j false = true ↔ j ∈ can.take (can.length - l.length) ∧ j ∉ U.map Lg.i)) → Closed ops listed →
  i ∈ Region.ready .any ops listed → wpOpIn (fen B) 0 P ops Q i (wpAnyIn (fen B) 0 P .any ops Q (l.length - 1 + U.length) (listed.setIfInBounds i true)) a w
end
section
variable {P:Program} {N:Fi} {B:Base} {Q:Exit → Act → World → Prop} {ops:Array Oper} {can:List Nat} {rd ld fk:Nat → Bool} {T:Tm} {A:List Blk}
theorem getD_false_iff {listed:Array Bool} {j:Nat} (hj:j < listed.size):listed.getD j true = false ↔ ¬ listed.getD j false = true:=by
 simp [hj]
theorem setD {listed:Array Bool} {i j:Nat} (hi:i < listed.size):(listed.setIfInBounds i true).getD j false = true ↔ j = i ∨ listed.getD j false = true:=by
 by_cases e:j = i
 ·subst e;simp [hi]
 ·simp only [Array.getD_eq_getD_getElem?]
  rw [Array.getElem?_setIfInBounds_ne (Ne.symm e)]
  simp [e]
theorem take_mono {l:List Nat} {p q j:Nat} (h:p ≤ q) (hm:j ∈ l.take p):j ∈ l.take q:=by
 rw [show p = min p q from by omega,← List.take_take] at hm
 exact List.mem_of_mem_take hm
theorem pos_of_take {l:List Nat} {p j:Nat} (h:j ∈ l.take p):∃ q,q < p ∧ l[q]? = some j:=by
 obtain ⟨q,hq⟩:=List.getElem?_of_mem h
 have hlt:q < p:=by
  have:=(List.getElem?_eq_some_iff.1 hq).1
  simp at this;omega
 rw [List.getElem?_take_of_lt hlt] at hq
 exact ⟨q,hlt,hq⟩
theorem not_in_take {l:List Nat} (hn:l.Nodup) {p i:Nat} (h:l[p]? = some i):i ∉ l.take p:=by
 intro hm
 obtain ⟨q,hq,he⟩:=pos_of_take hm
 have hp:=(List.getElem?_eq_some_iff.1 h)
 have hq':=(List.getElem?_eq_some_iff.1 he)
 obtain ⟨h1,h2⟩:=hp
 obtain ⟨h3,h4⟩:=hq'
 exact List.pairwise_iff_getElem.1 hn q p h3 h1 hq (h4.trans h2.symm)
theorem take_succ_mem {l:List Nat} {p i j:Nat} (h:l[p]? = some i):j ∈ l.take (p + 1) ↔ j ∈ l.take p ∨ j = i:=by
 rw [List.take_add_one,h]
 simp
theorem some_ready (hc:CanO ops can rd fk) {k:Nat} {U:List Lg} {listed:Array Bool} (hsz:listed.size = ops.size) (hU:∀ u ∈ U,u.i ∈ can.take k)
  (hl:∀ j,j < ops.size → (listed.getD j false = true ↔ j ∈ can.take k ∧ j ∉ U.map Lg.i)) :
  ∀ (m:Nat),m ∈ U.map Lg.i → ∃ j,j ∈ Region.ready .any ops listed:=by
 intro m
 induction m using Nat.strongRecOn with
 | _ m ih =>
  intro hm
  obtain ⟨u,hu,rfl⟩:=List.mem_map.1 hm
  obtain ⟨q,hq,he⟩:=pos_of_take (hU u hu)
  have hlt:u.i < ops.size:=(hc.mem _).1 (List.mem_of_getElem? he)
  have ho:ops[u.i]? = some ops[u.i]:=Array.getElem?_eq_getElem hlt
  by_cases hall:∀ j ∈ bdeps ops[u.i],listed.getD j false = true
  ·refine ⟨u.i,mem_ready.2 ⟨(getD_false_iff (by omega)).2 fun h=>((hl _ hlt).1 h).2 hm,_,ho,fun e hem hb=>hall e.on (mem_bdeps.2 ⟨e,hem,hb,rfl⟩)⟩⟩
  ·obtain ⟨j,hj,hn⟩:∃ j,j ∈ bdeps ops[u.i] ∧ ¬ listed.getD j false = true:=Classical.byContradiction fun hh=>hall fun j hj=>Classical.byContradiction fun hn=>hh ⟨j,hj,hn⟩
   obtain ⟨h1,h2⟩:=hc.deps _ _ _ he ho j hj
   have h3:j ∈ can.take k:=take_mono (by omega) h1
   have hjn:j < ops.size:=by omega
   have h4:j ∈ U.map Lg.i:=Decidable.byContradiction fun h=>hn ((hl j hjn).2 ⟨h3,h⟩)
   exact ih j h2 h4
theorem pay (hc:CanO ops can rd fk) {k:Nat} {U1 U2:List Lg} {u:Lg} {a:Act} {w:World} {listed:Array Bool} {K:Act → World → Prop}
  (hU:∀ x ∈ U1 ++ u :: U2,x.i ∈ can.take k ∧ rd x.i = true) (hnd:((U1 ++ u :: U2).map Lg.i).Nodup) (hS:Sat B A w) (hlag:∀ x ∈ U1 ++ u :: U2,Lag P ops B A (puts a (U1 ++ u :: U2)) x)
  (hsz:listed.size = ops.size) (hl:∀ j,j < ops.size → (listed.getD j false = true ↔ j ∈ can.take k ∧ j ∉ (U1 ++ u :: U2).map Lg.i)) (hr:u.i ∈ Region.ready .any ops listed)
  (hK:puts a (U1 ++ u :: U2) = puts (a.put (some u.d) u.v) (U1 ++ U2) →
   (∀ j,j < ops.size → ((listed.setIfInBounds u.i true).getD j false = true ↔ j ∈ can.take k ∧ j ∉ (U1 ++ U2).map Lg.i)) → K (a.put (some u.d) u.v) w) :
  wpOpIn (fen B) 0 P ops Q u.i K a w:=by
 have hum:u ∈ U1 ++ u :: U2:=by simp
 obtain ⟨o,ho,hd,hsel,hst⟩:=hlag u hum
 have hlt:u.i < ops.size:=(Array.getElem?_eq_some_iff.1 ho).1
 obtain ⟨_,o',ho',hdeps⟩:=mem_ready.1 hr
 have:o' = o:=Option.some.inj (ho'.symm.trans ho)
 subst this
 have hothers:∀ x ∈ U1 ++ U2,x ∈ U1 ++ u :: U2 ∧ x.i ≠ u.i:=by
  intro x hx
  have hx':x ∈ U1 ++ u :: U2:=by
   rcases List.mem_append.1 hx with h|h <;> simp [h]
  refine ⟨hx',fun e=>?_⟩
  rw [List.map_append,List.map_cons,List.nodup_append] at hnd
  obtain ⟨_,h2,h3⟩:=hnd
  rcases List.mem_append.1 hx with h|h
  ·exact h3 x.i (List.mem_map_of_mem h) u.i (List.mem_cons_self ..) e
  ·exact (List.nodup_cons.1 h2).1 (e ▸ List.mem_map_of_mem h)
 have hdd:∀ x ∈ U1 ++ U2,x.d ≠ u.d:=by
  intro x hx e
  obtain ⟨hx',hne⟩:=hothers x hx
  obtain ⟨ox,hox,hdx,_⟩:=hlag x hx'
  exact hc.dst u.i x.i _ _ u.d ho hox (hU u hum).2 hd (Ne.symm hne) (by rw [hdx,e])
 have hag:Agree ops o' a (puts a (U1 ++ u :: U2)):=by
  intro t ht
  refine (puts_tmps fun x hx e=>?_).symm
  obtain ⟨ox,hox,hdx,_⟩:=hlag x hx
  have h1:=hc.looks x.i u.i _ _ t hox ho (hU x hx).2 (by rw [hdx,e]) ht
  obtain ⟨ed,hed,hb,hon⟩:=mem_bdeps.1 h1
  have h2:=hdeps ed hed hb
  rw [hon] at h2
  have hxl:x.i < ops.size:=(Array.getElem?_eq_some_iff.1 hox).1
  exact ((hl _ hxl).1 h2).2 (List.mem_map_of_mem hx)
 have hput:K (a.put (some u.d) u.v) w:=hK (puts_mid hdd) fun j hj=>by
  rw [setD (by omega),hl j hj]
  simp only [List.map_append,List.map_cons,List.mem_append,List.mem_cons,not_or]
  have hui:u.i ∉ U1.map Lg.i ∧ u.i ∉ U2.map Lg.i:=by
   constructor
   ·intro h
    obtain ⟨x,hx,e⟩:=List.mem_map.1 h
    exact (hothers x (List.mem_append_left _ hx)).2 e
   ·intro h
    obtain ⟨x,hx,e⟩:=List.mem_map.1 h
    exact (hothers x (List.mem_append_right _ hx)).2 e
  constructor
  ·rintro (rfl|⟨h1,h2,h3,h4⟩)
   ·exact ⟨(hU u hum).1,hui.1,hui.2⟩
   ·exact ⟨h1,h2,h4⟩
  ·rintro ⟨h1,h2,h3⟩
   by_cases e:j = u.i
   ·exact .inl e
   ·exact .inr ⟨h1,h2,e,h3⟩
 have h1:=hst a hag w (.inr hS)
 unfold wpOpIn
 simp only [ho]
 rcases h1 with ⟨hw,hrun⟩|⟨hw,hv⟩
 ·rw [if_pos hw]
  unfold Oper.wpIn
  refine ⟨fun _ _=>trivial,?_⟩
  rw [semAt_of_value hrun,hrun,Oper.uponIn_value,hd]
  exact hput
 ·rw [if_neg (by rw [hw];simp),hd]
  rw [hv] at hput
  exact ⟨fun _ _=>trivial,hput⟩
theorem nodup_mid {U1 U2:List Lg} {u:Lg} (h:((U1 ++ u :: U2).map Lg.i).Nodup):((U1 ++ U2).map Lg.i).Nodup:=by
 rw [List.map_append,List.map_cons,List.nodup_append] at h
 rw [List.map_append,List.nodup_append]
 exact ⟨h.1,(List.nodup_cons.1 h.2.1).2,fun a ha b hb=>h.2.2 a ha b (List.mem_cons_of_mem _ hb)⟩
theorem closed_set {listed:Array Bool} {j:Nat} (hcl:Closed ops listed) (hsz:listed.size = ops.size) (hr:j ∈ Region.ready .any ops listed):Closed ops (listed.setIfInBounds j true):=by
 obtain ⟨_,o,ho,hdeps⟩:=mem_ready.1 hr
 have hlt:j < ops.size:=(Array.getElem?_eq_some_iff.1 ho).1
 intro i oi hoi hi x hx
 rw [setD (by omega)] at hi ⊢
 right
 rcases hi with rfl|hi
 ·have:oi = o:=Option.some.inj (hoi.symm.trans ho)
  subst this
  obtain ⟨e,he,hb,hon⟩:=mem_bdeps.1 hx
  rw [← hon];exact hdeps e he hb
 ·exact hcl i oi hoi hi x hx
theorem DSem.nil (hc:CanO ops can rd fk) (h:∀ a w,Fr N T a → Sat B A w → Q .normal a w):DSem P N B Q ops can rd ld [] T A:=by
 intro _ _ U
 simp only [List.length_nil,Nat.sub_zero,Nat.zero_add,List.take_length]
 induction hn:U.length generalizing U with
 | zero =>
  intro a w listed _ hU hnd hF hS hlag hsz hl hcl
  obtain rfl:U = []:=List.eq_nil_of_length_eq_zero hn
  refine ⟨?_,h a w hF hS⟩
  refine List.eq_nil_iff_forall_not_mem.2 fun j hj=>?_
  obtain ⟨h1,o,ho,_⟩:=mem_ready.1 hj
  have hlt:j < ops.size:=(Array.getElem?_eq_some_iff.1 ho).1
  exact (getD_false_iff (by omega)).1 h1 ((hl j hlt).2 ⟨(hc.mem j).2 hlt,by simp⟩)
 | succ n ih =>
  intro a w listed hpl hU hnd hF hS hlag hsz hl hcl
  have hU':∀ u ∈ U,u.i ∈ can.take can.length:=fun u hu=>by rw [List.take_length];exact (hU u hu).1
  have hl':∀ j,j < ops.size → (listed.getD j false = true ↔ j ∈ can.take can.length ∧ j ∉ U.map Lg.i):=fun j hj=>by rw [List.take_length];exact hl j hj
  refine ⟨fun h0=>?_,fun j hj=>?_⟩
  ·obtain ⟨u,hu⟩:∃ u,u ∈ U:=List.exists_mem_of_length_pos (by omega)
   obtain ⟨j,hj⟩:=some_ready hc hsz hU' hl' u.i (List.mem_map_of_mem hu)
   rw [h0] at hj;cases hj
  ·obtain ⟨h1,o,ho,_⟩:=mem_ready.1 hj
   have hlt:j < ops.size:=(Array.getElem?_eq_some_iff.1 ho).1
   have hjU:j ∈ U.map Lg.i:=Decidable.byContradiction fun hh=>(getD_false_iff (by omega)).1 h1 ((hl j hlt).2 ⟨(hc.mem j).2 hlt,hh⟩)
   obtain ⟨u,hu,rfl⟩:=List.mem_map.1 hjU
   obtain ⟨U1,U2,rfl⟩:=List.append_of_mem hu
   refine pay hc (k:=can.length) (fun x hx=>⟨hU' x hx,(hU x hx).2⟩) hnd hS hlag hsz hl' hj fun hp hl2=>?_
   have hsub:∀ x ∈ U1 ++ U2,x ∈ U1 ++ u :: U2:=fun x hx=>by rcases List.mem_append.1 hx with h|h <;> simp [h]
   refine ih (U1 ++ U2) (by simp at hn ⊢;omega) _ _ _ (fun x hx=>hpl x (hsub x hx)) (fun x hx=>hU x (hsub x hx)) ?_ (hp ▸ hF) hS (fun x hx=>hp ▸ hlag x (hsub x hx)) (by simpa using hsz)
    (fun j hj=>by have:=hl2 j hj;rwa [List.take_length] at this) (closed_set hcl hsz hj)
   exact nodup_mid hnd
theorem DSem.read (hc:CanO ops can rd fk) {o:Oper} {l:List Oper} {d:Nat} {v:Value} (p:Bool) (hrd:∀ i,can[can.length - (l.length + 1)]? = some i → rd i = true ∧ (p = true ∨ ld i = true)) (hd:o.dst = some d) (hN:Nat.blt d N.n = true)
  (hst:∀ a w,Fr N T a → (p = true ∨ Sat B A w) → Steps1 P ops o a w v) (hk:DSem P N B Q ops can rd ld l ((d,v) :: T) A):DSem P N B Q ops can rd ld (o :: l) T A:=by
 intro hle hmap U a w listed hpl hU hnd hF hS hlag hsz hl hcl
 simp only [List.length_cons] at hle hmap hU hl ⊢
 obtain ⟨k,hkk⟩:∃ k,k = can.length - (l.length + 1):=⟨_,rfl⟩
 have hk1:can.length - l.length = k + 1:=by omega
 rw [← hkk] at hmap hU hl hrd
 have hlt:k < can.length:=by omega
 obtain ⟨i,hi⟩:∃ i,can[k]? = some i:=⟨can[k],List.getElem?_eq_getElem hlt⟩
 rw [List.drop_eq_getElem_cons hlt] at hmap
 simp only [List.map_cons,List.cons.injEq] at hmap
 obtain ⟨ho',hmap'⟩:=hmap
 have hik:can[k] = i:=by rw [List.getElem?_eq_getElem hlt] at hi;exact Option.some.inj hi
 rw [hik] at ho'
 have ho:ops[i]? = some o:=ho'.symm
 obtain ⟨hri,hldi⟩:=hrd i hi
 have hnt:=not_in_take hc.nodup hi
 have hself:d ∉ o.looksAt ops:=fun hm=>by
  have h1:=hc.looks i i o o d ho ho hri hd hm
  exact absurd (hc.deps k i o hi ho i h1).2 (Nat.lt_irrefl i)
 have hiU:i ∉ U.map Lg.i:=fun hm=>by
  obtain ⟨u,hu,rfl⟩:=List.mem_map.1 hm
  exact hnt (hU u hu).1
 have hag:∀ (ox:Oper) (a0:Act),d ∉ ox.looksAt ops → Agree ops ox a0 ((puts a U).put (some d) v) → Agree ops ox a0 (puts a U):=by
  intro ox a0 hdx h t ht
  rw [h t ht]
  have hne:d ≠ t:=fun e=>hdx (e ▸ ht)
  simp [Act.put,Array.getElem?_setIfInBounds_ne hne]
 have key:=hk (by omega) (by rw [hk1];exact hmap') (⟨i,d,v,p⟩ :: U) a w listed ?_ ?_ ?_ ?_ hS ?_ hsz ?_ hcl
 ·rw [show l.length + 1 + U.length = l.length + (⟨i,d,v,p⟩ :: U:List Lg).length from by simp;omega]
  exact key
 ·intro u hu
  rcases List.mem_cons.1 hu with rfl|hu
  ·exact hldi
  ·exact hpl u hu
 ·intro u hu
  rw [hk1]
  rcases List.mem_cons.1 hu with rfl|hu
  ·exact ⟨(take_succ_mem hi).2 (.inr rfl),hri⟩
  ·exact ⟨take_mono (by omega) (hU u hu).1,(hU u hu).2⟩
 ·simp only [List.map_cons,List.nodup_cons]
  exact ⟨hiU,hnd⟩
 ·exact hF.put hN v
 ·intro u hu
  rcases List.mem_cons.1 hu with rfl|hu
  ·refine ⟨o,ho,hd,hc.sel i o ho,fun a0 h0 w0 hw0=>?_⟩
   exact (hst _ w0 hF hw0).agree (hag o a0 hself h0) (hc.sel i o ho)
  ·obtain ⟨ou,hou,hdu,hsel,hstu⟩:=hlag u hu
   refine ⟨ou,hou,hdu,hsel,fun a0 h0 w0 hw0=>hstu a0 (hag ou a0 (fun hm=>?_) h0) w0 hw0⟩
   have h1:=hc.looks i u.i o ou d ho hou hri hd hm
   obtain ⟨q,hq,he⟩:=pos_of_take (hU u hu).1
   exact hnt (take_mono (by omega) (hc.deps q u.i ou he hou i h1).1)
 ·intro j hj
  rw [hk1,hl j hj,take_succ_mem hi]
  simp only [List.map_cons,List.mem_cons,not_or]
  constructor
  ·rintro ⟨h1,h2⟩
   exact ⟨.inl h1,fun e=>hnt (e ▸ h1),h2⟩
  ·rintro ⟨h1|h1,h2,h3⟩
   ·exact ⟨h1,h3⟩
   ·exact absurd h1 h2
def effPost (P:Program) (B:Base) (R:Value → List Blk → Prop):Result Next → Prop
 | .ok (.value v) w=>∃ A',R v A' ∧ Sat B A' w
 | .ok .skip w=>∃ A',R undef A' ∧ Sat B A' w
 | .ok (.enter f args) w=>Calls P f args w fun e w'=>∃ v A',e = .returned v ∧ R v A' ∧ Sat B A' w'
 | .ok (.round l f tmps assign body) w=>RoundIn Fence.wide 0 P l f tmps assign body w fun e w'=>∃ v A',e = .returned v ∧ R v A' ∧ Sat B A' w'
 | _=>False
theorem semAt_of_effPost {P:Program} {B:Base} {R:Value → List Blk → Prop} {o:Oper} {ρ:Operand → Value} {ro:Option Nat} {w:World} (h:effPost P B R ((execOp ρ o).run P w)):o.semAt ro ρ = execOp ρ o :=
 Oper.semAt_eq ro ρ o fun c hc=>by
  unfold execOp at h
  rw [hc] at h
  simp only [Sem.run_bind] at h
  generalize (resolve ρ c o.type).run P w = r at h
  cases r <;> simp [effPost] at h
theorem callsIn_fen (B:Base) {P:Program} {n:Nat} {f:FuncId} {args:Array Value} {w:World} {R:Ending → World → Prop}:CallsIn (fen B) n P f args w R ↔ Calls P f args w R :=
 callsIn_wide (n:=n) (P:=P) (f:=f) (args:=args) (w:=w) (R:=R)
theorem roundIn_fen (B:Base) {P:Program} {n l:Nat} {f:FuncId} {tmps:Array Value} {assign body:Code} {w:World} {R:Ending → World → Prop} (h:RoundIn Fence.wide 0 P l f tmps assign body w R):RoundIn (fen B) n P l f tmps assign body w R :=
 ⟨trivial,fun c cs _=>h.2 c cs (room_wide _)⟩
def putT (d:Option Nat) (v:Value) (T:Tm):Tm:=match d with
 | some d=>(d,v) :: T
 | none=>T
theorem wp_of_effPost {o:Oper} {a:Act} {w:World} {R:Value → List Blk → Prop} {K:Act → World → Prop} {Q:Exit → Act → World → Prop} (h:effPost P B R ((execOp a.eval o).run P w))
  (hK:∀ v A' w',R v A' → Sat B A' w' → K (a.put o.dst v) w'):o.wpIn (fen B) 0 P a w K Q:=by
 unfold Oper.wpIn
 refine ⟨fun _ _=>trivial,?_⟩
 rw [semAt_of_effPost h]
 generalize (execOp a.eval o).run P w = r at *
 cases r with
 | ok n w' =>
  cases n <;> simp only [effPost] at h <;> simp only [Oper.uponIn]
  case value v=>obtain ⟨A',hR,hS⟩:=h;exact hK v A' w' hR hS
  case skip=>obtain ⟨A',hR,hS⟩:=h;exact hK _ A' w' hR hS
  case enter f args=>exact ⟨fun hn=>by simp [fen] at hn,(callsIn_fen B).2 (h.mono fun e w'' ⟨v,A',he,hR,hS⟩=>by subst he;exact hK v A' w'' hR hS)⟩
  case round l f tmps assign body=>exact ⟨fun hn=>by simp [fen] at hn,roundIn_fen B (h.mono fun e w'' ⟨v,A',he,hR,hS⟩=>by subst he;exact hK v A' w'' hR hS)⟩
 | halt x w'=>simp only [effPost] at h
theorem Fr.putT {o:Oper} {s:Act} (h:Fr N T s) (hN:∀ d,o.dst = some d → Nat.blt d N.n = true) (v:Value):Fr N (putT o.dst v T) (s.put o.dst v):=by
 cases hd:o.dst with
 | none=>exact h
 | some d=>exact h.put (hN d hd) v
theorem DStep.effE (hc:CanO ops can rd fk) {o:Oper} {l:List Oper} {R:Value → List Blk → Prop} {pend:List Nat} {EP:Result Next → Prop}
  (hEP:∀ (a:Act) (w:World) (K:Act → World → Prop),Fr N [] a → EP ((execOp a.eval o).run P w) → (∀ v A' w',R v A' → Sat B A' w' → K (a.put o.dst v) w') → o.wpIn (fen B) 0 P a w K Q)
  (hrd:∀ i,can[can.length - (l.length + 1)]? = some i → rd i = false) (hN:∀ d,o.dst = some d → Nat.blt d N.n = true)
  (hpend:∀ i,i ∈ can.take (can.length - (l.length + 1)) → rd i = true → ld i = true → i ∈ pend ∨ ∃ e,e ∈ can.take (can.length - l.length) ∧ rd e = false ∧ Anc ops e i)
  (he:∀ a w,Fr N T a → Sat B A w → (Region.wanted o (yielded ops a.tmps) = true ∧ EP ((execOp a.eval o).run P w)) ∨ (Region.wanted o (yielded ops a.tmps) = false ∧ ∃ A',R undef A' ∧ Sat B A' w))
  (hk:∀ v A',R v A' → (∀ i ∈ pend,∃ oi d u,ops[i]? = some oi ∧ oi.dst = some d ∧ look (putT o.dst v T) d = some u ∧ ∀ a w,Fr N (putT o.dst v T) a → Sat B A' w → Steps1 P ops oi a w u) ∧ DSem P N B Q ops can rd ld l (putT o.dst v T) A') :
  DStep P N B Q ops can rd ld (o :: l) T A:=by
 intro hle hmap U a w listed j hjj
 simp only [List.length_cons] at hle hmap hjj ⊢
 obtain ⟨k,hkk⟩:∃ k,k = can.length - (l.length + 1):=⟨_,rfl⟩
 have hk1:can.length - l.length = k + 1:=by omega
 rw [← hkk] at hmap hrd hpend hjj ⊢
 rw [hk1] at hpend
 have hlt:k < can.length:=by omega
 obtain ⟨i,hi⟩:∃ i,can[k]? = some i:=⟨can[k],List.getElem?_eq_getElem hlt⟩
 rw [List.drop_eq_getElem_cons hlt] at hmap
 simp only [List.map_cons,List.cons.injEq] at hmap
 obtain ⟨ho',hmap'⟩:=hmap
 have hik:can[k] = i:=by rw [List.getElem?_eq_getElem hlt] at hi;exact Option.some.inj hi
 rw [hik] at ho'
 have ho:ops[i]? = some o:=ho'.symm
 have hri:=hrd i hi
 have hnt:=not_in_take hc.nodup hi
 have hilt:i < ops.size:=(Array.getElem?_eq_some_iff.1 ho).1
 obtain rfl:i = j:=Option.some.inj (hi.symm.trans hjj)
 intro hpl hU hnd hF hS hlag hsz hl hcl hj
 obtain ⟨h1,oj,hoj,hdj⟩:=mem_ready.1 hj
 have hjlt:i < ops.size:=(Array.getElem?_eq_some_iff.1 hoj).1
 rw [Nat.add_sub_cancel]
 have:oj = o:=Option.some.inj (hoj.symm.trans ho)
 subst this
 have hdl:∀ x ∈ bdeps oj,listed.getD x false = true:=fun x hx=>by
  obtain ⟨e,hem,hb,hon⟩:=mem_bdeps.1 hx
  rw [← hon];exact hdj e hem hb
 have hUl:∀ u ∈ U,¬ listed.getD u.i false = true:=fun u hu h=>by
  obtain ⟨ou,hou,_⟩:=hlag u hu
  exact ((hl _ ((Array.getElem?_eq_some_iff.1 hou).1)).1 h).2 (List.mem_map_of_mem hu)
 have hag:Agree ops oj a (puts a U):=by
  intro t ht
  refine (puts_tmps fun x hx e=>?_).symm
  obtain ⟨ox,hox,hdx,_⟩:=hlag x hx
  exact hUl x hx (hdl _ (hc.looks x.i i _ _ t hox ho (hU x hx).2 (by rw [hdx,e]) ht))
 have hdd:∀ u ∈ U,oj.dst ≠ some u.d:=fun u hu e=>by
  obtain ⟨ou,hou,hdu,_⟩:=hlag u hu
  exact hc.dst u.i i _ _ u.d hou ho (hU u hu).2 hdu (fun e'=>hnt (e' ▸ (hU u hu).1)) e
 have go:∀ v A' w',R v A' → Sat B A' w' → wpAnyIn (fen B) 0 P .any ops Q (l.length + U.length) (listed.setIfInBounds i true) (a.put oj.dst v) w':=by
  intro v A' w' hR hS'
  obtain ⟨hst,hD⟩:=hk v A' hR
  have hF':Fr N (putT oj.dst v T) (puts (a.put oj.dst v) U):=by
   rw [puts_put hdd]
   exact hF.putT hN v
  refine hD (by omega) (by rw [hk1];exact hmap') U _ w' _ hpl ?_ hnd hF' hS' ?_ (by simpa using hsz) ?_ (closed_set hcl hsz hj)
  ·intro u hu
   rw [hk1]
   exact ⟨take_mono (by omega) (hU u hu).1,(hU u hu).2⟩
  ·intro u hu
   obtain ⟨ou,hou,hdu,hsel,hstu⟩:=hlag u hu
   rcases hpl u hu with hpu|hldu
   ·refine ⟨ou,hou,hdu,hsel,fun a0 h0 w0 _=>hstu a0 (fun t ht=>?_) w0 (.inl hpu)⟩
    rw [h0 t ht,puts_put hdd]
    cases hdo:oj.dst with
    | none=>rfl
    | some de =>
     have hne:de ≠ t:=fun e=>by
      rcases hc.effs i u.i oj ou de ho hou hri hdo (e ▸ ht) with e1|h2|h2
      ·exact hnt (e1 ▸ (hU u hu).1)
      ·obtain ⟨q,hq,he⟩:=pos_of_take (hU u hu).1
       exact hnt (take_mono (by omega) (hc.deps q u.i ou he hou i h2).1)
      ·exact hUl u hu (hdl _ h2)
     simp [Act.put,Array.getElem?_setIfInBounds_ne hne]
   ·rcases hpend u.i (hU u hu).1 (hU u hu).2 hldu with hp|⟨e,he1,he2,he3⟩
    ·obtain ⟨oi,d,x,hoi,hdi,hlk,hss⟩:=hst u.i hp
     have:oi = ou:=Option.some.inj (hoi.symm.trans hou)
     subst this
     have hdd':d = u.d:=Option.some.inj (hdi.symm.trans hdu)
     subst hdd'
     have hsz':u.d < (a.put oj.dst v).tmps.size:=by
      have h5:=hF'.get _ _ hlk
      have h6:=(Array.getElem?_eq_some_iff.1 h5).1
      rwa [puts_size] at h6
     have hxv:x = u.v:=by
      have h5:=hF'.get _ _ hlk
      rw [puts_get hsz' hu ?_] at h5
      ·exact (Option.some.inj h5).symm
      ·intro y hy hyd
       by_cases hyi:y.i = u.i
       ·obtain ⟨U1,U2,rfl⟩:=List.append_of_mem hu
        rw [List.map_append,List.map_cons,List.nodup_append] at hnd
        obtain ⟨_,h2,h3⟩:=hnd
        rcases List.mem_append.1 hy with h|h
        ·exact absurd hyi (h3 y.i (List.mem_map_of_mem h) u.i (List.mem_cons_self ..))
        ·rcases List.mem_cons.1 h with rfl|h
         ·rfl
         ·exact absurd (hyi ▸ List.mem_map_of_mem h) (List.nodup_cons.1 h2).1
       ·obtain ⟨oy,hoy,hdy,_⟩:=hlag y hy
        exact absurd (by rw [hdi,← hyd]) (hc.dst y.i u.i oy oi y.d hoy hoi (hU y hy).2 hdy hyi)
     subst hxv
     refine ⟨oi,hoi,hdi,hsel,fun a0 h0 w0 hw0=>?_⟩
     rcases hw0 with hw0|hw0
     ·exact hstu a0 (fun t ht=>by
       rw [h0 t ht,puts_put hdd]
       cases hdo:oj.dst with
       | none=>rfl
       | some de =>
        have hne:de ≠ t:=fun e=>by
         rcases hc.effs i u.i oj oi de ho hoi hri hdo (e ▸ ht) with e1|h2|h2
         ·exact hnt (e1 ▸ (hU u hu).1)
         ·obtain ⟨q,hq,he⟩:=pos_of_take (hU u hu).1
          exact hnt (take_mono (by omega) (hc.deps q u.i oi he hoi i h2).1)
         ·exact hUl u hu (hdl _ h2)
        simp [Act.put,Array.getElem?_setIfInBounds_ne hne]) w0 (.inl hw0)
     ·exact (hss _ w0 hF' hw0).agree h0 hsel
    ·exfalso
     rw [take_succ_mem hi] at he1
     refine hUl u hu (he3.listed hcl fun oe hoe x hx=>?_)
     rcases he1 with he1|rfl
     ·have hel:listed.getD e false = true:=by
       refine (hl e ((Array.getElem?_eq_some_iff.1 hoe).1)).2 ⟨he1,fun hm=>?_⟩
       obtain ⟨y,hy,hye⟩:=List.mem_map.1 hm
       have:=(hU y hy).2
       rw [hye,he2] at this
       cases this
      exact hcl e oe hoe hel x hx
     ·have:oe = oj:=Option.some.inj (hoe.symm.trans ho)
      subst this
      exact hdl x hx
  ·intro j' hj'
   rw [hk1,setD (by omega),hl j' hj',take_succ_mem hi]
   constructor
   ·rintro (rfl|⟨h1,h2⟩)
    ·refine ⟨.inr rfl,fun hm=>?_⟩
     obtain ⟨y,hy,hye⟩:=List.mem_map.1 hm
     exact hnt (hye ▸ (hU y hy).1)
    ·exact ⟨.inl h1,h2⟩
   ·rintro ⟨h1|h1,h2⟩
    ·exact .inr ⟨h1,h2⟩
    ·exact .inl h1
 unfold wpOpIn
 simp only [ho]
 have h3:=he _ w hF hS
 rw [← hag.wanted,← hag.exec (hc.sel i oj ho)] at h3
 rcases h3 with ⟨hw,hp⟩|⟨hw,A',hR,hS'⟩
 ·rw [if_pos hw]
  exact hEP a w _ ⟨by rw [← hF.size,puts_size],by rw [← hF.dfr,puts_defers],fun i v h=>by cases h⟩ hp fun v A' w' hR hS'=>go v A' w' hR hS'
 ·rw [if_neg (by rw [hw];simp)]
  exact ⟨fun _ _=>trivial,go undef A' w hR hS'⟩
theorem DSem.of_fork (hc:CanO ops can rd fk) {o:Oper} {l:List Oper} {k i:Nat} (hk:k = can.length - (l.length + 1)) (hi:can[k]? = some i) (hri:rd i = false) {j2:Nat → Prop}
  (hready:∀ (j:Nat) (oj:Oper),ops[j]? = some oj → j ∉ can.take k → j ≠ i → ¬ j2 j → ∃ x ∈ bdeps oj,x ∉ can.take k)
  (h:DStep P N B Q ops can rd ld (o :: l) T A)
  (h2:∀ j,j2 j → j ≠ i → ∀ (U:List Lg) (a:Act) (w:World) (listed:Array Bool),(∀ u ∈ U,u.p = true ∨ ld u.i = true) → (∀ u ∈ U,u.i ∈ can.take k ∧ rd u.i = true) → (U.map Lg.i).Nodup →
   Fr N T (puts a U) → Sat B A w → (∀ u ∈ U,Lag P ops B A (puts a U) u) →
   listed.size = ops.size → (∀ j,j < ops.size → (listed.getD j false = true ↔ j ∈ can.take k ∧ j ∉ U.map Lg.i)) → Closed ops listed →
   j ∈ Region.ready .any ops listed → wpOpIn (fen B) 0 P ops Q j (wpAnyIn (fen B) 0 P .any ops Q (l.length + U.length) (listed.setIfInBounds j true)) a w):DSem P N B Q ops can rd ld (o :: l) T A:=by
 intro hle hmap U
 have hle0:=hle
 have hmap0:=hmap
 simp only [List.length_cons] at hle hmap ⊢
 rw [← hk] at hmap ⊢
 have hlt:k < can.length:=by omega
 rw [List.drop_eq_getElem_cons hlt] at hmap
 simp only [List.map_cons,List.cons.injEq] at hmap
 obtain ⟨ho',hmap'⟩:=hmap
 have hik:can[k] = i:=by rw [List.getElem?_eq_getElem hlt] at hi;exact Option.some.inj hi
 rw [hik] at ho'
 have ho:ops[i]? = some o:=ho'.symm
 have hnt:=not_in_take hc.nodup hi
 have hilt:i < ops.size:=(Array.getElem?_eq_some_iff.1 ho).1
 obtain ⟨n,hn⟩:∃ n,n = U.length:=⟨_,rfl⟩
 induction n using Nat.strongRecOn generalizing U with
 | _ n ih =>
 intro a w listed hpl hU hnd hF hS hlag hsz hl hcl
 rw [show l.length + 1 + U.length = (l.length + U.length) + 1 from by omega]
 refine ⟨fun h0=>?_,fun j hj=>?_⟩
 ·exfalso
  rcases U with _|⟨u,U⟩
  ·have:i ∈ Region.ready .any ops listed:=by
    refine mem_ready.2 ⟨(getD_false_iff (by omega)).2 fun h=>hnt ((hl i hilt).1 h).1,o,ho,fun e hem hb=>?_⟩
    obtain ⟨h1,h2⟩:=hc.deps k i o hi ho e.on (mem_bdeps.2 ⟨e,hem,hb,rfl⟩)
    exact (hl _ (by omega)).2 ⟨h1,by simp⟩
   rw [h0] at this;cases this
  ·obtain ⟨j,hj⟩:=some_ready hc hsz (fun x hx=>(hU x hx).1) hl u.i (by simp)
   rw [h0] at hj;cases hj
 ·obtain ⟨h1,oj,hoj,hdj⟩:=mem_ready.1 hj
  have hjlt:j < ops.size:=(Array.getElem?_eq_some_iff.1 hoj).1
  have hjn:=(getD_false_iff (by omega)).1 h1
  by_cases hjt:j ∈ can.take k
  ·have hjU:j ∈ U.map Lg.i:=Decidable.byContradiction fun hh=>hjn ((hl j hjlt).2 ⟨hjt,hh⟩)
   obtain ⟨u,hu,rfl⟩:=List.mem_map.1 hjU
   obtain ⟨U1,U2,rfl⟩:=List.append_of_mem hu
   refine pay hc hU hnd hS hlag hsz hl hj fun hp hl2=>?_
   have hsub:∀ x ∈ U1 ++ U2,x ∈ U1 ++ u :: U2:=fun x hx=>by rcases List.mem_append.1 hx with h|h <;> simp [h]
   have key:=ih (U1 ++ U2).length (by simp at hn ⊢;omega) (U1 ++ U2) rfl (a.put (some u.d) u.v) w (listed.setIfInBounds u.i true) (fun x hx=>hpl x (hsub x hx)) (fun x hx=>hU x (hsub x hx)) (nodup_mid hnd)
    (hp ▸ hF) hS (fun x hx=>hp ▸ hlag x (hsub x hx)) (by simpa using hsz) hl2 (closed_set hcl hsz hj)
   rw [show l.length + (U1 ++ u :: U2).length = l.length + 1 + (U1 ++ U2).length from by simp;omega]
   exact key
  ·by_cases hji:j = i
   ·subst hji
    have:=h hle0 hmap0 U a w listed j (by rw [List.length_cons,← hk];exact hi) hpl (by rw [List.length_cons,← hk];exact hU) hnd hF hS hlag hsz (by rw [List.length_cons,← hk];exact hl) hcl hj
    rw [List.length_cons,Nat.add_sub_cancel] at this
    exact this
   ·by_cases hj2:j2 j
    ·exact h2 j hj2 hji U a w listed hpl hU hnd hF hS hlag hsz hl hcl hj
    ·exfalso
     obtain ⟨x,hx,hxn⟩:=hready j oj hoj hjt hji hj2
     obtain ⟨e,hem,hb,hon⟩:=mem_bdeps.1 hx
     have h2:=hdj e hem hb
     rw [hon] at h2
     have hxl:x < ops.size:=by
      rcases Nat.lt_or_ge x listed.size with h|h
      ·omega
      ·simp [Array.getElem?_eq_none h] at h2
     exact hxn ((hl x hxl).1 h2).1
theorem DSem.of_step (hc:CanO ops can rd fk) {o:Oper} {l:List Oper} (hrd:∀ i,can[can.length - (l.length + 1)]? = some i → rd i = false ∧ fk i = false) (h:DStep P N B Q ops can rd ld (o :: l) T A):DSem P N B Q ops can rd ld (o :: l) T A:=by
 intro hle hmap
 have hlt:can.length - (l.length + 1) < can.length:=by simp only [List.length_cons] at hle;omega
 obtain ⟨i,hi⟩:∃ i,can[can.length - (l.length + 1)]? = some i:=⟨_,List.getElem?_eq_getElem hlt⟩
 exact DSem.of_fork hc rfl hi (hrd i hi).1 (j2:=fun _=>False) (fun j oj hoj hjt hji _=>hc.ready _ i hi (hrd i hi).1 (hrd i hi).2 j oj hoj hjt hji) h (fun j hj=>hj.elim) hle hmap
end
end Go.Sep
namespace Go.Sep
open Go
abbrev DI:=Nat × Nat × List Nat
def rdF (info:List DI) (j:Nat):Bool:=info.any fun x=>x.1 == j && Nat.blt x.2.1 2
def ldF (info:List DI) (j:Nat):Bool:=info.any fun x=>x.1 == j && x.2.1 == 1
def fkF (info:List DI) (j:Nat):Bool:=info.any fun x=>x.1 == j && x.2.1 == 4
def reach (ops:Array Oper):Nat → List Nat → List Nat → List Nat
 | 0,_,vis=>vis
 | _ + 1,[],vis=>vis
 | f + 1,x :: fr,vis=>if vis.contains x then reach ops f fr vis else match ops[x]? with
  | some o=>reach ops f (bdeps o ++ fr) (x :: vis)
  | none=>reach ops f fr (x :: vis)
def reachOf (ops:Array Oper) (e:Nat):List Nat:=match ops[e]? with
 | some o=>reach ops (ops.size * ops.size + ops.size + 1) (bdeps o) []
 | none=>[]
theorem reach_anc {ops:Array Oper} {e:Nat}:∀ (f:Nat) (fr vis:List Nat),(∀ x ∈ fr,Anc ops e x) → (∀ x ∈ vis,Anc ops e x) → ∀ x ∈ reach ops f fr vis,Anc ops e x
 | 0,_,_,_,h,x,hx=>h x hx
 | _ + 1,[],_,_,h,x,hx=>h x hx
 | f + 1,y :: fr,vis,h1,h2,x,hx=>by
  simp only [reach] at hx
  split at hx
  ·exact reach_anc f fr vis (fun z hz=>h1 z (List.mem_cons_of_mem _ hz)) h2 x hx
  ·have hy:=h1 y (List.mem_cons_self ..)
   have h2':∀ z ∈ y :: vis,Anc ops e z:=fun z hz=>by
    rcases List.mem_cons.1 hz with rfl|hz
    ·exact hy
    ·exact h2 z hz
   split at hx
   ·rename_i o ho
    refine reach_anc f _ _ (fun z hz=>?_) h2' x hx
    rcases List.mem_append.1 hz with hz|hz
    ·exact .step hy ho hz
    ·exact h1 z (List.mem_cons_of_mem _ hz)
   ·exact reach_anc f fr _ (fun z hz=>h1 z (List.mem_cons_of_mem _ hz)) h2' x hx
theorem reachOf_anc {ops:Array Oper} {e x:Nat} (h:x ∈ reachOf ops e):Anc ops e x:=by
 unfold reachOf at h
 split at h
 ·rename_i o ho
  exact reach_anc _ _ _ (fun z hz=>.one ho hz) (fun z hz=>by cases hz) x h
 ·cases h
def nodupB:List Nat → Bool
 | []=>true
 | x :: xs=>!xs.contains x && nodupB xs
theorem nodupB_ok:∀ {l:List Nat},nodupB l = true → l.Nodup
 | [],_=>List.nodup_nil
 | x :: xs,h=>by
  simp only [nodupB,Bool.and_eq_true,Bool.not_eq_true',List.contains_eq_mem,decide_eq_false_iff_not] at h
  exact List.nodup_cons.2 ⟨h.1,nodupB_ok h.2⟩
def opB (ops:Array Oper) (pre:List Nat) (i:Nat) (k:Nat):Bool :=
 match ops[i]? with
 | none=>false
 | some o=>((bdeps o).all fun j=>pre.contains j && Nat.blt j i) &&
  ((Nat.blt k 2 || k == 4) || (List.range ops.size).all fun j=>pre.contains j || j == i || (match ops[j]? with
   | some oj=>(bdeps oj).any fun x=>!pre.contains x
   | none=>true))
def pendB (ops:Array Oper) (info:List DI) (pre:List Nat) (i k:Nat) (p:List Nat):Bool :=
 Nat.blt k 2 || pre.all fun x=>!(rdF info x) || !(ldF info x) || p.contains x || ((i :: pre).any fun e=>!(rdF info e) && (reachOf ops e).contains x)
def goB (ops:Array Oper) (info:List DI):List Nat → List DI → Bool
 | _,[]=>true
 | pre,(i,k,p) :: rest=>opB ops pre i k && pendB ops info pre i k p && goB ops info (pre ++ [i]) rest
def pairB (ops:Array Oper) (info:List DI) (i j:Nat):Bool :=
 match ops[i]?,ops[j]? with
 | some oi,some oj=>(match oi.dst with
  | none=>true
  | some d=>let lk:=(oj.looksAt ops).contains d
   if rdF info i then (i == j || oj.dst != some d) && (!lk || (bdeps oj).contains i) else !lk || i == j || (bdeps oj).contains i || (bdeps oi).contains j)
 | _,_=>true
def canB (ops:Array Oper) (info:List DI):Bool :=
 nodupB (info.map (·.1)) && (info.all fun x=>Nat.blt x.1 ops.size) && ((List.range ops.size).all fun j=>(info.map (·.1)).contains j) && (ops.all fun o=>notSel o.op) &&
 ((List.range ops.size).all fun i=>(List.range ops.size).all fun j=>pairB ops info i j) && goB ops info [] info && info.all fun x=>x.2.1 != 3
theorem goB_at {ops:Array Oper} {info:List DI}:∀ (rest:List DI) (pre:List Nat),goB ops info pre rest = true → ∀ (p:Nat) (x:DI),rest[p]? = some x →
  opB ops (pre ++ (rest.map (·.1)).take p) x.1 x.2.1 = true ∧ pendB ops info (pre ++ (rest.map (·.1)).take p) x.1 x.2.1 x.2.2 = true
 | [],_,_,p,x,h=>by simp at h
 | (i,k,q) :: rest,pre,h,p,x,hx=>by
  simp only [goB,Bool.and_eq_true] at h
  rcases p with _|p
  ·simp only [List.getElem?_cons_zero,Option.some.injEq] at hx
   subst hx
   simpa using h.1
  ·have:=goB_at rest (pre ++ [i]) h.2 p x (by simpa using hx)
   simpa using this
section
variable {ops:Array Oper} {info:List DI}
theorem canB_parts (h:canB ops info = true):(info.map (·.1)).Nodup ∧ (∀ x ∈ info,x.1 < ops.size) ∧ (∀ j,j < ops.size → j ∈ info.map (·.1)) ∧ (∀ (i:Nat) (o:Oper),ops[i]? = some o → notSel o.op = true) ∧
  (∀ i j,i < ops.size → j < ops.size → pairB ops info i j = true) ∧ goB ops info [] info = true ∧ ∀ x ∈ info,x.2.1 ≠ 3:=by
 simp only [canB,Bool.and_eq_true,List.all_eq_true,List.mem_range,List.contains_eq_mem,decide_eq_true_eq] at h
 obtain ⟨⟨⟨⟨⟨⟨h1,h2⟩,h3⟩,h4⟩,h5⟩,h6⟩,h7⟩:=h
 refine ⟨nodupB_ok h1,fun x hx=>by simpa [Nat.blt_eq] using h2 x hx,h3,fun i o ho=>?_,fun i j hi hj=>h5 i hi j hj,h6,fun x hx=>by simpa using h7 x hx⟩
 rw [Array.all_eq_true] at h4
 obtain ⟨hi,he⟩:=Array.getElem?_eq_some_iff.1 ho
 rw [← he];exact h4 i hi
theorem rdF_at (hn:(info.map (·.1)).Nodup) {p:Nat} {x:DI} (h:info[p]? = some x):rdF info x.1 = Nat.blt x.2.1 2 ∧ ldF info x.1 = (x.2.1 == 1) ∧ fkF info x.1 = (x.2.1 == 4):=by
 have hx:=List.mem_of_getElem? h
 have huniq:∀ y ∈ info,y.1 = x.1 → y = x:=by
  intro y hy e
  obtain ⟨q,hq⟩:=List.getElem?_of_mem hy
  obtain ⟨h1,h2⟩:=List.getElem?_eq_some_iff.1 hq
  obtain ⟨h3,h4⟩:=List.getElem?_eq_some_iff.1 h
  rcases Nat.lt_trichotomy q p with hlt|rfl|hlt
  ·exact absurd (by rw [List.getElem_map,List.getElem_map,h2,h4,e]) (List.pairwise_iff_getElem.1 hn q p (by rw [List.length_map];exact h1) (by rw [List.length_map];exact h3) hlt)
  ·exact h2.symm.trans h4
  ·exact absurd (by rw [List.getElem_map,List.getElem_map,h2,h4,e]) (List.pairwise_iff_getElem.1 hn p q (by rw [List.length_map];exact h3) (by rw [List.length_map];exact h1) hlt)
 refine ⟨?_,?_,?_⟩
 ·unfold rdF
  rw [Bool.eq_iff_iff]
  simp only [List.any_eq_true,Bool.and_eq_true,beq_iff_eq]
  constructor
  ·rintro ⟨y,hy,e,hk⟩
   rw [← huniq y hy e];exact hk
  ·intro hk;exact ⟨x,hx,rfl,hk⟩
 ·unfold ldF
  rw [Bool.eq_iff_iff]
  simp only [List.any_eq_true,Bool.and_eq_true,beq_iff_eq]
  constructor
  ·rintro ⟨y,hy,e,hk⟩
   rw [← huniq y hy e];exact hk
  ·intro hk;exact ⟨x,hx,rfl,hk⟩
 ·unfold fkF
  rw [Bool.eq_iff_iff]
  simp only [List.any_eq_true,Bool.and_eq_true,beq_iff_eq]
  constructor
  ·rintro ⟨y,hy,e,hk⟩
   rw [← huniq y hy e];exact hk
  ·intro hk;exact ⟨x,hx,rfl,hk⟩
theorem canB_ok (h:canB ops info = true):CanO ops (info.map (·.1)) (rdF info) (fkF info):=by
 obtain ⟨h1,h2,h3,h4,h5,h6,_⟩:=canB_parts h
 have at_:∀ (p i:Nat),(info.map (·.1))[p]? = some i → ∃ x:DI,info[p]? = some x ∧ x.1 = i:=fun p i hp=>by
  rw [List.getElem?_map] at hp
  cases hx:info[p]? with
  | none=>rw [hx] at hp;cases hp
  | some x=>rw [hx] at hp;exact ⟨x,rfl,Option.some.inj hp⟩
 have lt_:∀ (i:Nat) (o:Oper),ops[i]? = some o → i < ops.size:=fun i o ho=>(Array.getElem?_eq_some_iff.1 ho).1
 refine ⟨fun j=>⟨fun hj=>?_,h3 j⟩,h1,fun p i o hp ho j hj=>?_,fun p i hp hr hfk j oj hoj hjt hji=>?_,h4,fun i j oi oj d hi hj hr hd hne=>?_,fun i j oi oj d hi hj hr hd hl=>?_,fun i j oi oj d hi hj hr hd hl=>?_⟩
 ·obtain ⟨x,hx,rfl⟩:=List.mem_map.1 hj
  exact h2 x hx
 ·obtain ⟨x,hx,rfl⟩:=at_ p i hp
  have h7:=(goB_at info [] h6 p x hx).1
  unfold opB at h7
  rw [ho] at h7
  simp only [List.nil_append,Bool.and_eq_true,List.all_eq_true,List.contains_eq_mem,decide_eq_true_eq,Nat.blt_eq] at h7
  exact h7.1 j hj
 ·obtain ⟨x,hx,rfl⟩:=at_ p i hp
  have h7:=(goB_at info [] h6 p x hx).1
  have hk:(Nat.blt x.2.1 2 || x.2.1 == 4) = false:=by
   rw [(rdF_at h1 hx).1] at hr
   rw [(rdF_at h1 hx).2.2] at hfk
   rw [hr,hfk];rfl
  unfold opB at h7
  split at h7
  ·cases h7
  ·simp only [hk,List.nil_append,Bool.and_eq_true,List.all_eq_true,Bool.or_eq_true,List.mem_range,List.contains_eq_mem,decide_eq_true_eq,beq_iff_eq] at h7
   rcases h7.2 with h8|h8
   ·simp at h8
   ·rcases h8 j (lt_ j oj hoj) with (h9|h9)|h9
    ·exact absurd h9 hjt
    ·exact absurd h9 hji
    ·rw [hoj] at h9
     simp only [List.any_eq_true,Bool.not_eq_true',decide_eq_false_iff_not] at h9
     exact h9
 ·have h7:=h5 i j (lt_ i oi hi) (lt_ j oj hj)
  simp only [pairB,hi,hj,hd,hr,if_true,Bool.and_eq_true,Bool.or_eq_true,beq_iff_eq,bne_iff_ne] at h7
  rcases h7.1 with h8|h8
  ·exact absurd h8 hne
  ·exact h8
 ·have h7:=h5 i j (lt_ i oi hi) (lt_ j oj hj)
  simp only [pairB,hi,hj,hd,hr,if_true,Bool.and_eq_true,Bool.or_eq_true,Bool.not_eq_true',List.contains_eq_mem,decide_eq_false_iff_not,decide_eq_true_eq] at h7
  rcases h7.2 with h8|h8
  ·exact absurd hl h8
  ·exact h8
 ·have h7:=h5 i j (lt_ i oi hi) (lt_ j oj hj)
  simp only [pairB,hi,hj,hd,hr,Bool.false_eq_true,if_false,Bool.or_eq_true,Bool.not_eq_true',List.contains_eq_mem,decide_eq_false_iff_not,decide_eq_true_eq,beq_iff_eq] at h7
  rcases h7 with ((h8|h8)|h8)|h8
  ·exact absurd hl h8
  ·exact .inl h8
  ·exact .inr (.inl h8)
  ·exact .inr (.inr h8)
theorem canB_pend (h:canB ops info = true) {p:Nat} {x:DI} (hx:info[p]? = some x) (hk:Nat.blt x.2.1 2 = false) :
  ∀ i,i ∈ (info.map (·.1)).take p → rdF info i = true → ldF info i = true → i ∈ x.2.2 ∨ ∃ e,e ∈ (info.map (·.1)).take (p + 1) ∧ rdF info e = false ∧ Anc ops e i:=by
 obtain ⟨h1,h2,h3,h4,h5,h6,_⟩:=canB_parts h
 have h7:=(goB_at info [] h6 p x hx).2
 have hp:(info.map (·.1))[p]? = some x.1:=by rw [List.getElem?_map,hx];rfl
 intro i hi hr hl
 simp only [pendB,hk,List.nil_append,Bool.or_eq_true,List.all_eq_true] at h7
 rcases h7 with h8|h8
 ·simp at h8
 ·rcases h8 i hi with ((h9|h9)|h9)|h9
  ·rw [hr] at h9;simp at h9
  ·rw [hl] at h9;simp at h9
  ·exact .inl (by simpa using h9)
  ·simp only [List.any_eq_true,Bool.and_eq_true,Bool.not_eq_true',List.contains_eq_mem,decide_eq_true_eq] at h9
   obtain ⟨e,he,he1,he2⟩:=h9
   refine .inr ⟨e,(take_succ_mem hp).2 ?_,he1,reachOf_anc he2⟩
   rcases List.mem_cons.1 he with rfl|he
   ·exact .inr rfl
   ·exact .inl he
end
abbrev Md:=Option (List DI × List DI)
def Md.tl:Md → Md
 | none=>none
 | some (info,r)=>some (info,r.tail)
def Md.rd (p:Bool):Md → Bool
 | none=>true
 | some (_,(_,k,_) :: _)=>if p then Nat.blt k 2 else k == 1
 | some (_,[])=>false
def Md.eff:Md → Bool
 | none=>true
 | some (_,(_,k,_) :: _)=>k == 2 || k == 3
 | some (_,[])=>false
def Md.pend:Md → List Nat
 | none=>[]
 | some (_,(_,_,p) :: _)=>p
 | some (_,[])=>[]
def fixR:List DI → List DI
 | (i,3,p) :: r=>(i,4,p) :: r
 | r=>r
def isStep:List DI → Bool
 | (_,3,_) :: _=>true
 | _=>false
theorem fixR_of {i k:Nat} {p:List Nat} {r:List DI} (h:k ≠ 3):fixR ((i,k,p) :: r) = (i,k,p) :: r ∧ isStep ((i,k,p) :: r) = false:=by
 constructor
 ·unfold fixR;split
  ·rename_i e;simp only [List.cons.injEq,Prod.mk.injEq] at e;exact absurd e.1.2.1 h
  ·rfl
 ·unfold isStep;split
  ·rename_i e;simp only [List.cons.injEq,Prod.mk.injEq] at e;exact absurd e.1.2.1 h
  ·rfl
section
variable (P:Program) (N:Fi) (B:Base) (Q:Exit → Act → World → Prop) (ops:Array Oper)
def Ops (m:Md) (l:List Oper) (T:Tm) (A:List Blk):Prop :=
 match m with
 | none=>∀ a w,Fr N T a → Sat B A w → wpListIn (fen B) 0 P ops Q l a w
 | some (info,rest)=>canB ops info = true → rest.length = l.length → fixR rest = info.drop (info.length - rest.length) → rest.length ≤ info.length →
  if isStep rest then DStep P N B Q ops (info.map (·.1)) (rdF info) (ldF info) l T A else DSem P N B Q ops (info.map (·.1)) (rdF info) (ldF info) l T A
def Still (T:Tm) (A:List Blk) (i:Nat):Prop :=
 ∃ oi d u,ops[i]? = some oi ∧ oi.dst = some d ∧ look T d = some u ∧ ∀ a w,Fr N T a → Sat B A w → Steps1 P ops oi a w u
end
def gst (ops:Array Oper) (T:Tm):Option (Nat × Bool) → Option Bool
 | none=>some true
 | some (j,want)=>match (ops[j]?).bind (·.dst) with
  | none=>none
  | some dj=>match look T dj with
   | some (.bool b)=>some (b == want)
   | _=>none
section
variable {P:Program} {N:Fi} {B:Base} {Q:Exit → Act → World → Prop} {T:Tm} {A:List Blk} {ops:Array Oper} {l:List Oper} {m:Md} {o:Oper}
theorem gst_wanted {b:Bool} {a:Act} (hF:Fr N T a) (h:gst ops T o.guard = some b):Region.wanted o (yielded ops a.tmps) = b:=by
 unfold Region.wanted
 cases hg:o.guard with
 | none=>rw [hg] at h;simpa [gst] using h
 | some p =>
  obtain ⟨j,want⟩:=p
  rw [hg] at h
  simp only [gst] at h
  split at h
  ·cases h
  ·rename_i dj hdj
   split at h
   ·rename_i c hc
    simp only [Option.some.injEq] at h
    have:yielded ops a.tmps j = some c:=by
     unfold yielded
     rw [hdj]
     simp [hF.get _ _ hc]
    simp [this,← h]
   ·cases h
theorem info_at {info rest:List DI} {x:DI} (h1:rest.length + 1 ≤ info.length) (h:x :: rest = info.drop (info.length - (rest.length + 1))) :
  info[info.length - (rest.length + 1)]? = some x ∧ rest = info.drop (info.length - rest.length):=by
 have hlt:info.length - (rest.length + 1) < info.length:=by omega
 rw [List.drop_eq_getElem_cons hlt] at h
 injection h with h2 h3
 refine ⟨by rw [List.getElem?_eq_getElem hlt,h2],?_⟩
 rw [h3]
 congr 1
 simp
 omega
theorem suffix_ok {info rest:List DI} {n:Nat} (hc:canB ops info = true) (h:rest = info.drop n):isStep rest = false ∧ fixR rest = rest:=by
 cases rest with
 | nil=>exact ⟨rfl,rfl⟩
 | cons x r =>
  obtain ⟨i,k,p⟩:=x
  have hm:(i,k,p) ∈ info:=by
   have:(i,k,p) ∈ info.drop n:=by rw [← h];exact List.mem_cons_self ..
   exact List.mem_of_mem_drop this
  have h3:=(canB_parts hc).2.2.2.2.2.2 _ hm
  exact ⟨(fixR_of h3).2,(fixR_of h3).1⟩
theorem Ops.rdG (p:Bool) (hm:m.rd p = true) {d:Nat} {v:Value} (hd:o.dst = some d) (hN:Nat.blt d N.n = true)
  (hst:∀ a w,Fr N T a → (p = true ∨ Sat B A w) → Steps1 P ops o a w v) (k:Ops P N B Q ops m.tl l ((d,v) :: T) A):Ops P N B Q ops m (o :: l) T A:=by
 match m,hm,k with
 | none,_,k =>
  intro a w hF hS
  unfold wpListIn
  rcases hst a w hF (.inr hS) with ⟨hw,hr⟩|⟨hw,hv⟩
  ·rw [if_pos hw]
   unfold Oper.wpIn
   refine ⟨fun _ _=>trivial,?_⟩
   rw [semAt_of_value hr,hr,Oper.uponIn_value,hd]
   exact k _ _ (hF.put hN v) hS
  ·rw [if_neg (by rw [hw];simp),hd,← hv]
   exact ⟨fun _ _=>trivial,k _ _ (hF.put hN v) hS⟩
 | some (info,(i,kd,pd) :: rest),hm,k =>
  intro hc hlen hdr hle
  have h3:kd ≠ 3:=fun e=>by
   subst e
   simp only [Md.rd] at hm
   cases p <;> simp at hm
  rw [(fixR_of h3).2,if_neg (by simp)]
  rw [(fixR_of h3).1] at hdr
  simp only [List.length_cons,Nat.add_right_cancel_iff] at hlen hdr hle
  obtain ⟨hx,hdr'⟩:=info_at hle hdr
  obtain ⟨hs1,hs2⟩:=suffix_ok hc hdr'
  have k':if isStep rest then DStep P N B Q ops (info.map (·.1)) (rdF info) (ldF info) l ((d,v) :: T) A else DSem P N B Q ops (info.map (·.1)) (rdF info) (ldF info) l ((d,v) :: T) A:=k hc hlen (by show fixR rest = _;rw [hs2];exact hdr') (by show rest.length ≤ _;omega)
  rw [hs1,if_neg (by simp)] at k'
  refine DSem.read (canB_ok hc) p (fun i' hi=>?_) hd hN hst k'
  rw [List.getElem?_map,List.length_map,← hlen,hx] at hi
  obtain rfl:i = i':=Option.some.inj hi
  obtain ⟨h1,h2,_⟩:=rdF_at (canB_parts hc).1 hx
  rw [h1,h2]
  simp only [Md.rd] at hm
  cases p with
  | true=>exact ⟨by simpa using hm,.inl rfl⟩
  | false =>
   simp only [Bool.false_eq_true,if_false,beq_iff_eq] at hm
   subst hm
   exact ⟨rfl,.inr rfl⟩
theorem Ops.effE {EP:Result Next → Prop} (hm:m.eff = true) (hN:∀ d,o.dst = some d → Nat.blt d N.n = true) {R:Value → List Blk → Prop}
  (hEP:∀ (a:Act) (w:World) (K:Act → World → Prop),Fr N [] a → EP ((execOp a.eval o).run P w) → (∀ v A' w',R v A' → Sat B A' w' → K (a.put o.dst v) w') → o.wpIn (fen B) 0 P a w K Q)
  (he:∀ a w,Fr N T a → Sat B A w → (Region.wanted o (yielded ops a.tmps) = true ∧ EP ((execOp a.eval o).run P w)) ∨ (Region.wanted o (yielded ops a.tmps) = false ∧ ∃ A',R undef A' ∧ Sat B A' w))
  (hs:∀ v A',R v A' → ∀ i ∈ m.pend,Still P N B ops (putT o.dst v T) A' i) (k:∀ v A',R v A' → Ops P N B Q ops m.tl l (putT o.dst v T) A'):Ops P N B Q ops m (o :: l) T A:=by
 match m,hm,hs,k with
 | none,_,_,k =>
  intro a w hF hS
  unfold wpListIn
  rcases he a w hF hS with ⟨hw,hp⟩|⟨hw,A',hR,hS'⟩
  ·rw [if_pos hw]
   exact hEP a w _ ⟨hF.size,hF.dfr,fun i v h=>by cases h⟩ hp fun v A' w' hR hS'=>k v A' hR _ _ (hF.putT hN v) hS'
  ·rw [if_neg (by rw [hw];simp)]
   exact ⟨fun _ _=>trivial,k _ A' hR _ _ (hF.putT hN undef) hS'⟩
 | some (info,(i,kd,pd) :: rest),hm,hs,k =>
  intro hc hlen hdr hle
  simp only [List.length_cons,Nat.add_right_cancel_iff] at hlen hle
  simp only [Md.eff,Bool.or_eq_true,beq_iff_eq] at hm
  obtain ⟨kd',hx,hk2,hdr'⟩:∃ kd',info[info.length - (rest.length + 1)]? = some (i,kd',pd) ∧ Nat.blt kd' 2 = false ∧ rest = info.drop (info.length - rest.length):=by
   rcases hm with rfl|rfl
   ·rw [(fixR_of (by decide)).1] at hdr
    simp only [List.length_cons] at hdr
    obtain ⟨h1,h2⟩:=info_at hle hdr
    exact ⟨2,h1,rfl,h2⟩
   ·simp only [fixR,List.length_cons] at hdr
    obtain ⟨h1,h2⟩:=info_at hle hdr
    exact ⟨4,h1,rfl,h2⟩
  obtain ⟨hs1,hs2⟩:=suffix_ok hc hdr'
  have hrd:∀ i',(info.map (·.1))[(info.map (·.1)).length - (l.length + 1)]? = some i' → rdF info i' = false ∧ fkF info i' = (kd' == 4):=fun i' hi=>by
   rw [List.getElem?_map,List.length_map,← hlen,hx] at hi
   obtain rfl:=Option.some.inj hi
   obtain ⟨h1,_,h2⟩:=rdF_at (canB_parts hc).1 hx
   rw [h1,h2]
   exact ⟨hk2,rfl⟩
  have step:DStep P N B Q ops (info.map (·.1)) (rdF info) (ldF info) (o :: l) T A:=by
   refine DStep.effE (canB_ok hc) (pend:=pd) hEP (fun i hi=>(hrd i hi).1) hN ?_ he (fun v A' hR=>⟨hs v A' hR,?_⟩)
   ·have:=canB_pend hc hx hk2
    rw [List.length_map,← hlen,show info.length - rest.length = info.length - (rest.length + 1) + 1 from by omega]
    exact this
   ·have k':if isStep rest then DStep P N B Q ops (info.map (·.1)) (rdF info) (ldF info) l (putT o.dst v T) A' else DSem P N B Q ops (info.map (·.1)) (rdF info) (ldF info) l (putT o.dst v T) A':=k v A' hR hc hlen (by show fixR rest = _;rw [hs2];exact hdr') (by show rest.length ≤ _;omega)
    rw [hs1,if_neg (by simp)] at k'
    exact k'
  rcases hm with rfl|rfl
  ·rw [(fixR_of (by decide)).2,if_neg (by simp)]
   rw [(fixR_of (by decide)).1] at hdr
   simp only [List.length_cons] at hdr
   have hx2:=(info_at hle hdr).1
   rw [hx] at hx2
   injection hx2 with hx2
   injection hx2 with _ hx2
   injection hx2 with hx2
   subst hx2
   exact DSem.of_step (canB_ok hc) hrd step
  ·exact step
theorem Ops.effG (hm:m.eff = true) (hN:∀ d,o.dst = some d → Nat.blt d N.n = true) {R:Value → List Blk → Prop}
  (he:∀ a w,Fr N T a → Sat B A w → (Region.wanted o (yielded ops a.tmps) = true ∧ effPost P B R ((execOp a.eval o).run P w)) ∨ (Region.wanted o (yielded ops a.tmps) = false ∧ ∃ A',R undef A' ∧ Sat B A' w))
  (hs:∀ v A',R v A' → ∀ i ∈ m.pend,Still P N B ops (putT o.dst v T) A' i) (k:∀ v A',R v A' → Ops P N B Q ops m.tl l (putT o.dst v T) A'):Ops P N B Q ops m (o :: l) T A :=
 Ops.effE (EP:=effPost P B R) hm hN (fun a w K _ hp hK=>wp_of_effPost hp hK) he hs k
theorem Ops.nilN (h:∀ a w,Fr N T a → Sat B A w → Q .normal a w):Ops P N B Q ops m [] T A:=by
 match m with
 | none=>exact fun a w hF hS=>wpListIn_nil (h a w hF hS)
 | some (info,[])=>exact fun hc _ _ _=>DSem.nil (canB_ok hc) h
 | some (info,_ :: _)=>exact fun _ hl _ _=>by cases hl
theorem Ops.nil {y:Code} {Q':Exit → Act → World → Prop} (h:Cd P N B Q y T A):Ops P N B (Exit.then (fun a w=>y.wpIn (fen B) 0 P Q a w) Q') ops m [] T A:=Ops.nilN h
theorem Cd.reg {id:Nat} {l:List Oper} (h:Ops P N B Q l.toArray none l T A):Cd P N B Q (.region id l.toArray false) T A :=
 fun a w hF hS=>wpIn_region_lit (h a w hF hS)
def nth:List Oper → Nat → Option Oper
 | [],_=>none
 | x :: _,0=>some x
 | _ :: xs,n + 1=>nth xs n
theorem nth_eq:∀ (l:List Oper) (n:Nat),nth l n = l[n]?
 | [],n=>by simp [nth]
 | x :: xs,0=>by simp [nth]
 | x :: xs,n + 1=>by simp [nth,nth_eq xs n]
def picked (l:List Oper):List DI → List Oper
 | []=>[]
 | x :: r=>match nth l x.1 with
  | some o=>o :: picked l r
  | none=>picked l r
theorem picked_map {l:List Oper}:∀ {r:List DI},(∀ x ∈ r,x.1 < l.length) → (picked l r).map some = (r.map (·.1)).map (l.toArray[·]?) ∧ (picked l r).length = r.length
 | [],_=>by simp [picked]
 | x :: r,h=>by
  have hx:=h x (List.mem_cons_self ..)
  obtain ⟨h1,h2⟩:=picked_map (l:=l) (r:=r) fun y hy=>h y (List.mem_cons_of_mem _ hy)
  simp only [picked,nth_eq,List.getElem?_eq_getElem hx,List.map_cons,List.length_cons,h1,h2]
  simp [hx]
theorem getD_repl (m j:Nat):(Array.replicate m false).getD j false = false:=by
 rcases Nat.lt_or_ge j m with h|h
 ·simp [h]
 ·simp [h]
theorem Cd.draw {id:Nat} {l:List Oper} (info:List DI) (hmix:P.follows .mixedOrders = true) (hc:canB l.toArray info = true) {l':List Oper} (hl:picked l info = l')
  (h:Ops P N B Q l.toArray (some (info,info)) l' T A):Cd P N B Q (.region id l.toArray true) T A:=by
 intro a w hF hS
 refine wpIn_region_any hmix ?_
 obtain ⟨h1,h2,h3,h4,h5,h6,h73⟩:=canB_parts hc
 obtain ⟨e1,e2⟩:=picked_map (l:=l) (r:=info) fun x hx=>by simpa using h2 x hx
 rw [hl] at e1 e2
 have hlen:info.length = l.length:=by
  have hsub:∀ x ∈ info.map (·.1),x ∈ List.range l.length:=fun x hx=>by
   obtain ⟨y,hy,rfl⟩:=List.mem_map.1 hx
   simpa using h2 y hy
  have hsup:∀ x ∈ List.range l.length,x ∈ info.map (·.1):=fun x hx=>h3 x (by simpa using hx)
  have:=((List.perm_ext_iff_of_nodup h1 List.nodup_range).2 fun x=>⟨hsub x,hsup x⟩).length_eq
  simpa using this
 obtain ⟨hs1,hs2⟩:=suffix_ok (rest:=info) (n:=0) hc rfl
 have h':if isStep info then DStep P N B Q l.toArray (info.map (·.1)) (rdF info) (ldF info) l' T A else DSem P N B Q l.toArray (info.map (·.1)) (rdF info) (ldF info) l' T A:=h hc e2.symm (by rw [hs2];simp) (Nat.le_refl _)
 rw [hs1,if_neg (by simp)] at h'
 have key:=h' (by simp [e2]) (by rw [List.length_map,e2];simpa using e1) [] a { w with drawn:=w.drawn + 1 } (Array.replicate l.toArray.size false) (by simp) (by simp) (by simp) hF (hS.drewAt _)
  (by simp) (by simp) (fun j hj=>by rw [getD_repl];simp [e2]) (fun j o _ hj=>by rw [getD_repl] at hj;cases hj)
 rw [show l.toArray.size = l'.length + ([]:List Lg).length from by simp [e2,hlen]]
 rw [show l.toArray.size = l'.length + ([]:List Lg).length from by simp [e2,hlen]] at key
 exact key
end
def alikeB (x y:DI):Bool:=y.1 == x.1 && (Nat.blt y.2.1 2 == Nat.blt x.2.1 2) && ((y.2.1 == 1) == (x.2.1 == 1))
def forkB (ops:Array Oper) (info info2:List DI) (n:Nat):Bool :=
 canB ops info2 && info2.length == info.length && (info2.map (·.1)).take n == (info.map (·.1)).take n &&
 (info.all fun x=>info2.any fun y=>alikeB x y) && (info2.all fun x=>info.any fun y=>alikeB x y) &&
 (match info[n]?,info2[n]? with
 | some x,some y=>(List.range ops.size).all fun j=>((info.map (·.1)).take n).contains j || j == x.1 || j == y.1 || (match ops[j]? with
  | some oj=>(bdeps oj).any fun z=>!((info.map (·.1)).take n).contains z
  | none=>true)
 | _,_=>false)
theorem alike_le {info info2:List DI} (h:(info.all fun x=>info2.any fun y=>alikeB x y) = true) (j:Nat):(rdF info j = true → rdF info2 j = true) ∧ (ldF info j = true → ldF info2 j = true):=by
 simp only [List.all_eq_true,List.any_eq_true,alikeB,Bool.and_eq_true,beq_iff_eq] at h
 constructor
 ·intro hr
  unfold rdF at hr ⊢
  simp only [List.any_eq_true,Bool.and_eq_true,beq_iff_eq] at hr ⊢
  obtain ⟨x,hx,e,hk⟩:=hr
  obtain ⟨y,hy,⟨h1,h2⟩,h3⟩:=h x hx
  exact ⟨y,hy,h1.trans e,by rw [h2];exact hk⟩
 ·intro hr
  unfold ldF at hr ⊢
  simp only [List.any_eq_true,Bool.and_eq_true,beq_iff_eq] at hr ⊢
  obtain ⟨x,hx,e,hk⟩:=hr
  obtain ⟨y,hy,⟨h1,h2⟩,h3⟩:=h x hx
  have:(x.2.1 == 1) = true:=by simpa using hk
  rw [this] at h3
  exact ⟨y,hy,h1.trans e,by simpa using h3⟩
section
variable {P:Program} {N:Fi} {B:Base} {Q:Exit → Act → World → Prop} {T:Tm} {A:List Blk} {ops:Array Oper}
theorem Ops.fork {info info2:List DI} {i i2:Nat} {pd pd2:List Nat} {r r2:List DI} {o o2:Oper} {l l2:List Oper} (hf:forkB ops info info2 (info.length - (r.length + 1)) = true) (hd2:(i2,4,pd2) :: r2 = info2.drop (info.length - (r.length + 1)))
  (hl2:(o2 :: l2).map some = (((i2,4,pd2) :: r2).map (·.1)).map (ops[·]?))
  (h1:Ops P N B Q ops (some (info,(i,3,pd) :: r)) (o :: l) T A) (h2:Ops P N B Q ops (some (info2,(i2,3,pd2) :: r2)) (o2 :: l2) T A):Ops P N B Q ops (some (info,(i,4,pd) :: r)) (o :: l) T A:=by
 intro hc hlen hdr hle
 rw [(fixR_of (by decide)).2,if_neg (by simp)]
 rw [(fixR_of (by decide)).1] at hdr
 simp only [List.length_cons,Nat.add_right_cancel_iff] at hlen hdr hle
 obtain ⟨hx,hdr'⟩:=info_at hle hdr
 unfold forkB at hf
 simp only [Bool.and_eq_true,beq_iff_eq] at hf
 obtain ⟨⟨⟨⟨⟨hc2,hlen2⟩,htk⟩,ha1⟩,ha2⟩,hrd⟩:=hf
 obtain ⟨n,hn⟩:∃ n,n = info.length - (r.length + 1):=⟨_,rfl⟩
 rw [← hn] at hx hdr htk hrd hd2
 have erd:rdF info2 = rdF info:=funext fun j=>Bool.eq_iff_iff.2 ⟨(alike_le ha2 j).1,(alike_le ha1 j).1⟩
 have eld:ldF info2 = ldF info:=funext fun j=>Bool.eq_iff_iff.2 ⟨(alike_le ha2 j).2,(alike_le ha1 j).2⟩
 have hr2:r2.length + 1 = info2.length - n:=by have:=congrArg List.length hd2;simpa using this
 have hll2:l2.length = r2.length:=by have:=congrArg List.length hl2;simpa using this
 have hlt:n < info.length:=by omega
 have hx2:info2[n]? = some (i2,4,pd2):=by
  rw [List.drop_eq_getElem_cons (by omega)] at hd2
  injection hd2 with e1 e2
  rw [List.getElem?_eq_getElem (by omega),e1]
 have hi:(info.map (·.1))[n]? = some i:=by rw [List.getElem?_map,hx];rfl
 have hi2:(info2.map (·.1))[n]? = some i2:=by rw [List.getElem?_map,hx2];rfl
 rw [hx,hx2] at hrd
 simp only [List.all_eq_true,List.mem_range,Bool.or_eq_true,List.contains_eq_mem,decide_eq_true_eq,beq_iff_eq] at hrd
 have s1:DStep P N B Q ops (info.map (·.1)) (rdF info) (ldF info) (o :: l) T A:=h1 hc (by simp [hlen]) (by show (i,4,pd) :: r = _;rw [List.length_cons,← hn];exact hdr) (by simp only [List.length_cons];omega)
 have s2:DStep P N B Q ops (info2.map (·.1)) (rdF info2) (ldF info2) (o2 :: l2) T A:=h2 hc2 (by simp [hll2]) (by show (i2,4,pd2) :: r2 = _;rw [List.length_cons,show info2.length - (r2.length + 1) = n from by omega];exact hd2) (by simp only [List.length_cons];omega)
 rw [erd,eld] at s2
 have hkn:n = (info.map (·.1)).length - (l.length + 1):=by rw [List.length_map];omega
 refine DSem.of_fork (canB_ok hc) hkn hi (by rw [(rdF_at (canB_parts hc).1 hx).1];rfl) (j2:=fun j=>j = i2) (fun j oj hoj hjt hji hj2=>?_) s1 (fun j hj hji U a w listed hpl hU hnd hF hS hlag hsz hl hcl hjr=>?_)
 ·rcases hrd j (Array.getElem?_eq_some_iff.1 hoj).1 with ((h|h)|h)|h
  ·exact absurd h hjt
  ·exact absurd h hji
  ·exact absurd h hj2
  ·rw [hoj] at h
   simp only [List.any_eq_true,Bool.not_eq_true',decide_eq_false_iff_not] at h
   exact h
 ·subst hj
  have hk2:(info2.map (·.1)).length - (o2 :: l2).length = n:=by rw [List.length_map,List.length_cons];omega
  have key:=s2 (by rw [List.length_map,List.length_cons];omega) (by
    rw [hk2,hl2,hd2,List.map_drop]) U a w listed j (by rw [hk2];exact hi2) hpl (by rw [hk2,htk];exact hU) hnd hF hS hlag hsz (by rw [hk2,htk];exact hl) hcl hjr
  rw [List.length_cons,Nat.add_sub_cancel,show l2.length = l.length from by omega] at key
  exact key
theorem Ops.fork' {l0:List Oper} {info:List DI} (info2:List DI) {i i2:Nat} {pd pd2:List Nat} {r r2:List DI} {o o2:Oper} {l l2:List Oper} (hf:forkB l0.toArray info info2 (info.length - (r.length + 1)) = true) (hd2:(i2,4,pd2) :: r2 = info2.drop (info.length - (r.length + 1)))
  (hl2:picked l0 ((i2,4,pd2) :: r2) = o2 :: l2)
  (h1:Ops P N B Q l0.toArray (some (info,(i,3,pd) :: r)) (o :: l) T A) (h2:Ops P N B Q l0.toArray (some (info2,(i2,3,pd2) :: r2)) (o2 :: l2) T A):Ops P N B Q l0.toArray (some (info,(i,4,pd) :: r)) (o :: l) T A:=by
 refine Ops.fork hf hd2 ?_ h1 h2
 unfold forkB at hf
 simp only [Bool.and_eq_true] at hf
 have hc2:=hf.1.1.1.1.1
 have:=(picked_map (l:=l0) (r:=(i2,4,pd2) :: r2) fun x hx=>by
  have h3:x ∈ info2:=by rw [hd2] at hx;exact List.mem_of_mem_drop hx
  simpa using (canB_parts hc2).2.1 x h3).1
 rw [hl2] at this
 exact this
end
end Go.Sep
