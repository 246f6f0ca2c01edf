import Derived.Test.YtaecdnfkcebbeaaGreatA02
set_option linter.unusedVariables false
set_option linter.unusedSimpArgs false
namespace Go.Sep
open Go
def bdeps (o:Oper):List Nat:=(o.after.toList.filter fun e=>Region.binds .any e).map (·.on)
theorem mem_bdeps {o:Oper} {j:Nat}:j ∈ bdeps o ↔ ∃ e ∈ o.after,Region.binds .any e = true ∧ e.on = j:=by
 simp [bdeps,and_assoc]
def notSel:Op → Bool
 | .select ..|.go _|.defer _=>false
 | _=>true
theorem notSel_ne {op:Op} (h:notSel op = true):∀ cs b,op ≠ .select cs b:=by
 rintro cs b rfl;cases h
section
variable {P:Program} {ops:Array Oper} {o:Oper} {a a':Act} {w:World}
def Agree (ops:Array Oper) (o:Oper) (a a':Act):Prop:=∀ t ∈ o.looksAt ops,a.tmps[t]? = a'.tmps[t]?
theorem Agree.exec (h:Agree ops o a a') (hs:notSel o.op = true):execOp a.eval o = execOp a'.eval o:=by
 refine execOp_congr o (notSel_ne hs) fun x hx=>?_
 cases x with
 | tmp t =>
  have:t ∈ o.looksAt ops:=by
   unfold Oper.looksAt
   refine List.mem_append_left _ (List.mem_filterMap.2 ⟨.tmp t,by simpa using hx,rfl⟩)
  simp [Act.eval,Array.getD_eq_getD_getElem?,h t this]
 | _=>rfl
theorem Agree.wanted (h:Agree ops o a a'):Region.wanted o (yielded ops a.tmps) = Region.wanted o (yielded ops a'.tmps):=by
 unfold Region.wanted
 cases hg:o.guard with
 | none=>rfl
 | some p =>
  obtain ⟨g,b⟩:=p
  have:yielded ops a.tmps g = yielded ops a'.tmps g:=by
   unfold yielded
   cases hd:(ops[g]?).bind (·.dst) with
   | none=>rfl
   | some d =>
    have hm:d ∈ o.looksAt ops:=by
     unfold Oper.looksAt
     refine List.mem_append_right _ ?_
     simp [hg,hd]
    simp [h d hm]
  simp [this]
theorem Agree.symm (h:Agree ops o a a'):Agree ops o a' a:=fun t ht=>(h t ht).symm
def Steps1 (P:Program) (ops:Array Oper) (o:Oper) (a:Act) (w:World) (v:Value):Prop :=
 (Region.wanted o (yielded ops a.tmps) = true ∧ (execOp a.eval o).run P w = .ok (.value v) w) ∨ (Region.wanted o (yielded ops a.tmps) = false ∧ v = undef)
theorem Steps1.agree {v:Value} (h:Steps1 P ops o a w v) (ha:Agree ops o a' a) (hs:notSel o.op = true):Steps1 P ops o a' w v:=by
 unfold Steps1 at *
 rw [ha.exec hs,ha.wanted]
 exact h
end
theorem semAt_of_value {P:Program} {o:Oper} {ρ:Operand → Value} {ro:Option Nat} {w w':World} {v:Value} (h:(execOp ρ o).run P w = .ok (.value v) w'):o.semAt ro ρ = execOp ρ o :=
 Oper.semAt_eq ro ρ o fun c hc=>by
  unfold execOp at h
  rw [hc] at h
  simp only [Sem.run_bind] at h
  generalize (resolve ρ c o.type).run P w = r at h
  cases r <;> simp at h
structure Lg where
 i:Nat
 d:Nat
 v:Value
 p:Bool
def puts (a:Act):List Lg → Act
 | []=>a
 | u :: U=>(puts a U).put (some u.d) u.v
theorem puts_put {a:Act} {d:Option Tmp} {v:Value}:∀ {U:List Lg},(∀ u ∈ U,d ≠ some u.d) → puts (a.put d v) U = (puts a U).put d v
 | [],_=>rfl
 | u :: U,h=>by
  simp only [puts]
  rw [puts_put (U:=U) fun x hx=>h x (List.mem_cons_of_mem _ hx)]
  exact Act.put_comm _ _ _ fun d' hd' e=>h u (List.mem_cons_self ..) (by rw [hd'];exact e.symm)
theorem puts_mid {a:Act} {u:Lg}:∀ {U1 U2:List Lg},(∀ x ∈ U1 ++ U2,x.d ≠ u.d) → puts a (U1 ++ u :: U2) = puts (a.put (some u.d) u.v) (U1 ++ U2)
 | [],U2,h=>by
  simp only [List.nil_append,puts]
  exact (puts_put fun x hx e=>h x (by simpa using hx) (by injection e with e;exact e.symm)).symm
 | x :: U1,U2,h=>by
  simp only [List.cons_append,puts]
  rw [puts_mid (U1:=U1) (U2:=U2) fun y hy=>h y (List.mem_cons_of_mem _ hy)]
theorem puts_tmps {a:Act} {t:Nat}:∀ {U:List Lg},(∀ u ∈ U,u.d ≠ t) → (puts a U).tmps[t]? = a.tmps[t]?
 | [],_=>rfl
 | u :: U,h=>by
  simp only [puts,Act.put]
  rw [Array.getElem?_setIfInBounds_ne (h u (List.mem_cons_self ..))]
  exact puts_tmps fun x hx=>h x (List.mem_cons_of_mem _ hx)
theorem puts_size {a:Act}:∀ {U:List Lg},(puts a U).tmps.size = a.tmps.size
 | []=>rfl
 | u :: U=>by simp [puts,Act.put,puts_size (U:=U)]
theorem puts_defers {a:Act}:∀ {U:List Lg},(puts a U).defers = a.defers
 | []=>rfl
 | u :: U=>by simp [puts,Act.put,puts_defers (U:=U)]
theorem puts_get {a:Act} {u:Lg} (hd:u.d < a.tmps.size):∀ {U:List Lg},u ∈ U → (∀ x ∈ U,x.d = u.d → x.v = u.v) → (puts a U).tmps[u.d]? = some u.v
 | x :: U,hm,hv=>by
  simp only [puts,Act.put]
  by_cases e:x.d = u.d
  ·rw [e,hv x (List.mem_cons_self ..) e]
   simp [puts_size,hd]
  ·rw [Array.getElem?_setIfInBounds_ne e]
   rcases List.mem_cons.1 hm with rfl|hm
   ·exact absurd rfl e
   ·exact puts_get hd hm fun y hy=>hv y (List.mem_cons_of_mem _ hy)
def Lag (P:Program) (ops:Array Oper) (B:Base) (A:List Blk) (s:Act) (u:Lg):Prop :=
 ∃ o,ops[u.i]? = some o ∧ o.dst = some u.d ∧ notSel o.op = true ∧ ∀ a0,Agree ops o a0 s → ∀ w,(u.p = true ∨ Sat B A w) → Steps1 P ops o a0 w u.v
structure CanO (ops:Array Oper) (can:List Nat) (rd fk:Nat → Bool):Prop where
 mem:∀ j,j ∈ can ↔ j < ops.size
 nodup:can.Nodup
 deps:∀ (p i:Nat) (o:Oper),can[p]? = some i → ops[i]? = some o → ∀ j ∈ bdeps o,j ∈ can.take p ∧ j < i
 ready:∀ (p i:Nat),can[p]? = some i → rd i = false → fk i = false → ∀ (j:Nat) (o:Oper),ops[j]? = some o → j ∉ can.take p → j ≠ i → ∃ k ∈ bdeps o,k ∉ can.take p
 sel:∀ (i:Nat) (o:Oper),ops[i]? = some o → notSel o.op = true
 dst:∀ (i j:Nat) (oi oj:Oper) (d:Tmp),ops[i]? = some oi → ops[j]? = some oj → rd i = true → oi.dst = some d → i ≠ j → oj.dst ≠ some d
 looks:∀ (i j:Nat) (oi oj:Oper) (d:Tmp),ops[i]? = some oi → ops[j]? = some oj → rd i = true → oi.dst = some d → d ∈ oj.looksAt ops → i ∈ bdeps oj
 effs:∀ (i j:Nat) (oi oj:Oper) (d:Tmp),ops[i]? = some oi → ops[j]? = some oj → rd i = false → oi.dst = some d → d ∈ oj.looksAt ops → i = j ∨ i ∈ bdeps oj ∨ j ∈ bdeps oi
def Closed (ops:Array Oper) (listed:Array Bool):Prop:=∀ (j:Nat) (o:Oper),ops[j]? = some o → listed.getD j false = true → ∀ x ∈ bdeps o,listed.getD x false = true
inductive Anc (ops:Array Oper) (e:Nat):Nat → Prop
 | one {o:Oper} {x:Nat}:ops[e]? = some o → x ∈ bdeps o → Anc ops e x
 | step {o:Oper} {x y:Nat}:Anc ops e y → ops[y]? = some o → x ∈ bdeps o → Anc ops e x
theorem Anc.listed {ops:Array Oper} {e x:Nat} {listed:Array Bool} (h:Anc ops e x) (hc:Closed ops listed) (h0:∀ o,ops[e]? = some o → ∀ x ∈ bdeps o,listed.getD x false = true):listed.getD x false = true:=by
 induction h with
 | one ho hx=>exact h0 _ ho _ hx
 | step _ ho hx ih=>exact hc _ _ ho ih _ hx
section
variable (P:Program) (N:Fi) (B:Base) (Q:Exit → Act → World → Prop) (ops:Array Oper) (can:List Nat) (rd ld:Nat → Bool)
def DSem (l:List Oper) (T:Tm) (A:List Blk):Prop :=
 l.length ≤ can.length → l.map some = (can.drop (can.length - l.length)).map (ops[·]?) →
 ∀ (U:List Lg) (a:Act) (w:World) (listed:Array Bool),
  (∀ u ∈ U,u.p = true ∨ ld u.i = true) → (∀ u ∈ U,u.i ∈ can.take (can.length - l.length) ∧ rd u.i = true) → (U.map Lg.i).Nodup →
  Fr N T (puts a U) → Sat B A w → (∀ u ∈ U,Lag P ops B A (puts a U) u) →
  listed.size = ops.size → (∀ j,j < ops.size → (listed.getD j false = true ↔ j ∈ can.take (can.length - l.length) ∧ j ∉ U.map Lg.i)) → Closed ops listed →
  wpAnyIn (fen B) 0 P .any ops Q (l.length + U.length) listed a w
def DStep (l:List Oper) (T:Tm) (A:List Blk):Prop :=
 l.length ≤ can.length → l.map some = (can.drop (can.length - l.length)).map (ops[·]?) →
 ∀ (U:List Lg) (a:Act) (w:World) (listed:Array Bool) (i:Nat),can[can.length - l.length]? = some i →
  (∀ u ∈ U,u.p = true ∨ ld u.i = true) → (∀ u ∈ U,u.i ∈ can.take (can.length - l.length) ∧ rd u.i = true) → (U.map Lg.i).Nodup →
  Fr N T (puts a U) → Sat B A w → (∀ u ∈ U,Lag P ops B A (puts a U) u) →
  listed.size = ops.size → (∀ j,j < ops.size → (listed.getD j false = true ↔ j ∈ can.take (can.length - l.length) ∧ j ∉ U.map Lg.i)) → Closed ops listed →
  i ∈ Region.ready .any ops listed → wpOpIn (fen B) 0 P ops Q i (wpAnyIn (fen B) 0 P .any ops Q (l.length - 1 + U.length) (listed.setIfInBounds i true)) a w
end
section
variable {P:Program} {N:Fi} {B:Base} {Q:Exit → Act → World → Prop} {ops:Array Oper} {can:List Nat} {rd ld fk:Nat → Bool} {T:Tm} {A:List Blk}
theorem getD_false_iff {listed:Array Bool} {j:Nat} (hj:j < listed.size):listed.getD j true = false ↔ ¬ listed.getD j false = true:=by
 simp [hj]
theorem setD {listed:Array Bool} {i j:Nat} (hi:i < listed.size):(listed.setIfInBounds i true).getD j false = true ↔ j = i ∨ listed.getD j false = true:=by
 by_cases e:j = i
 ·subst e;simp [hi]
 ·simp only [Array.getD_eq_getD_getElem?]
  rw [Array.getElem?_setIfInBounds_ne (Ne.symm e)]
  simp [e]
theorem take_mono {l:List Nat} {p q j:Nat} (h:p ≤ q) (hm:j ∈ l.take p):j ∈ l.take q:=by
 rw [show p = min p q from by omega,← List.take_take] at hm
 exact List.mem_of_mem_take hm
theorem pos_of_take {l:List Nat} {p j:Nat} (h:j ∈ l.take p):∃ q,q < p ∧ l[q]? = some j:=by
 obtain ⟨q,hq⟩:=List.getElem?_of_mem h
 have hlt:q < p:=by
  have:=(List.getElem?_eq_some_iff.1 hq).1
  simp at this;omega
 rw [List.getElem?_take_of_lt hlt] at hq
 exact ⟨q,hlt,hq⟩
theorem not_in_take {l:List Nat} (hn:l.Nodup) {p i:Nat} (h:l[p]? = some i):i ∉ l.take p:=by
 intro hm
 obtain ⟨q,hq,he⟩:=pos_of_take hm
 have hp:=(List.getElem?_eq_some_iff.1 h)
 have hq':=(List.getElem?_eq_some_iff.1 he)
 obtain ⟨h1,h2⟩:=hp
 obtain ⟨h3,h4⟩:=hq'
 exact List.pairwise_iff_getElem.1 hn q p h3 h1 hq (h4.trans h2.symm)
theorem take_succ_mem {l:List Nat} {p i j:Nat} (h:l[p]? = some i):j ∈ l.take (p + 1) ↔ j ∈ l.take p ∨ j = i:=by
 rw [List.take_add_one,h]
 simp
theorem some_ready (hc:CanO ops can rd fk) {k:Nat} {U:List Lg} {listed:Array Bool} (hsz:listed.size = ops.size) (hU:∀ u ∈ U,u.i ∈ can.take k)
  (hl:∀ j,j < ops.size → (listed.getD j false = true ↔ j ∈ can.take k ∧ j ∉ U.map Lg.i)) :
  ∀ (m:Nat),m ∈ U.map Lg.i → ∃ j,j ∈ Region.ready .any ops listed:=by
 intro m
 induction m using Nat.strongRecOn with
 | _ m ih =>
  intro hm
  obtain ⟨u,hu,rfl⟩:=List.mem_map.1 hm
  obtain ⟨q,hq,he⟩:=pos_of_take (hU u hu)
  have hlt:u.i < ops.size:=(hc.mem _).1 (List.mem_of_getElem? he)
  have ho:ops[u.i]? = some ops[u.i]:=Array.getElem?_eq_getElem hlt
  by_cases hall:∀ j ∈ bdeps ops[u.i],listed.getD j false = true
  ·refine ⟨u.i,mem_ready.2 ⟨(getD_false_iff (by omega)).2 fun h=>((hl _ hlt).1 h).2 hm,_,ho,fun e hem hb=>hall e.on (mem_bdeps.2 ⟨e,hem,hb,rfl⟩)⟩⟩
  ·obtain ⟨j,hj,hn⟩:∃ j,j ∈ bdeps ops[u.i] ∧ ¬ listed.getD j false = true:=Classical.byContradiction fun hh=>hall fun j hj=>Classical.byContradiction fun hn=>hh ⟨j,hj,hn⟩
   obtain ⟨h1,h2⟩:=hc.deps _ _ _ he ho j hj
   have h3:j ∈ can.take k:=take_mono (by omega) h1
   have hjn:j < ops.size:=by omega
   have h4:j ∈ U.map Lg.i:=Decidable.byContradiction fun h=>hn ((hl j hjn).2 ⟨h3,h⟩)
   exact ih j h2 h4
theorem pay (hc:CanO ops can rd fk) {k:Nat} {U1 U2:List Lg} {u:Lg} {a:Act} {w:World} {listed:Array Bool} {K:Act → World → Prop}
  (hU:∀ x ∈ U1 ++ u :: U2,x.i ∈ can.take k ∧ rd x.i = true) (hnd:((U1 ++ u :: U2).map Lg.i).Nodup) (hS:Sat B A w) (hlag:∀ x ∈ U1 ++ u :: U2,Lag P ops B A (puts a (U1 ++ u :: U2)) x)
  (hsz:listed.size = ops.size) (hl:∀ j,j < ops.size → (listed.getD j false = true ↔ j ∈ can.take k ∧ j ∉ (U1 ++ u :: U2).map Lg.i)) (hr:u.i ∈ Region.ready .any ops listed)
  (hK:puts a (U1 ++ u :: U2) = puts (a.put (some u.d) u.v) (U1 ++ U2) →
   (∀ j,j < ops.size → ((listed.setIfInBounds u.i true).getD j false = true ↔ j ∈ can.take k ∧ j ∉ (U1 ++ U2).map Lg.i)) → K (a.put (some u.d) u.v) w) :
  wpOpIn (fen B) 0 P ops Q u.i K a w:=by
 have hum:u ∈ U1 ++ u :: U2:=by simp
 obtain ⟨o,ho,hd,hsel,hst⟩:=hlag u hum
 have hlt:u.i < ops.size:=(Array.getElem?_eq_some_iff.1 ho).1
 obtain ⟨_,o',ho',hdeps⟩:=mem_ready.1 hr
 have:o' = o:=Option.some.inj (ho'.symm.trans ho)
 subst this
 have hothers:∀ x ∈ U1 ++ U2,x ∈ U1 ++ u :: U2 ∧ x.i ≠ u.i:=by
  intro x hx
  have hx':x ∈ U1 ++ u :: U2:=by
   rcases List.mem_append.1 hx with h|h <;> simp [h]
  refine ⟨hx',fun e=>?_⟩
  rw [List.map_append,List.map_cons,List.nodup_append] at hnd
  obtain ⟨_,h2,h3⟩:=hnd
  rcases List.mem_append.1 hx with h|h
  ·exact h3 x.i (List.mem_map_of_mem h) u.i (List.mem_cons_self ..) e
  ·exact (List.nodup_cons.1 h2).1 (e ▸ List.mem_map_of_mem h)
 have hdd:∀ x ∈ U1 ++ U2,x.d ≠ u.d:=by
  intro x hx e
  obtain ⟨hx',hne⟩:=hothers x hx
  obtain ⟨ox,hox,hdx,_⟩:=hlag x hx'
  exact hc.dst u.i x.i _ _ u.d ho hox (hU u hum).2 hd (Ne.symm hne) (by rw [hdx,e])
 have hag:Agree ops o' a (puts a (U1 ++ u :: U2)):=by
  intro t ht
  refine (puts_tmps fun x hx e=>?_).symm
  obtain ⟨ox,hox,hdx,_⟩:=hlag x hx
  have h1:=hc.looks x.i u.i _ _ t hox ho (hU x hx).2 (by rw [hdx,e]) ht
  obtain ⟨ed,hed,hb,hon⟩:=mem_bdeps.1 h1
  have h2:=hdeps ed hed hb
  rw [hon] at h2
  have hxl:x.i < ops.size:=(Array.getElem?_eq_some_iff.1 hox).1
  exact ((hl _ hxl).1 h2).2 (List.mem_map_of_mem hx)
 have hput:K (a.put (some u.d) u.v) w:=hK (puts_mid hdd) fun j hj=>by
  rw [setD (by omega),hl j hj]
  simp only [List.map_append,List.map_cons,List.mem_append,List.mem_cons,not_or]
  have hui:u.i ∉ U1.map Lg.i ∧ u.i ∉ U2.map Lg.i:=by
   constructor
   ·intro h
    obtain ⟨x,hx,e⟩:=List.mem_map.1 h
    exact (hothers x (List.mem_append_left _ hx)).2 e
   ·intro h
    obtain ⟨x,hx,e⟩:=List.mem_map.1 h
    exact (hothers x (List.mem_append_right _ hx)).2 e
  constructor
  ·rintro (rfl|⟨h1,h2,h3,h4⟩)
   ·exact ⟨(hU u hum).1,hui.1,hui.2⟩
   ·exact ⟨h1,h2,h4⟩
  ·rintro ⟨h1,h2,h3⟩
   by_cases e:j = u.i
   ·exact .inl e
   ·exact .inr ⟨h1,h2,e,h3⟩
 have h1:=hst a hag w (.inr hS)
 unfold wpOpIn
 simp only [ho]
 rcases h1 with ⟨hw,hrun⟩|⟨hw,hv⟩
 ·rw [if_pos hw]
  unfold Oper.wpIn
  refine ⟨fun _ _=>trivial,?_⟩
  rw [semAt_of_value hrun,hrun,Oper.uponIn_value,hd]
  exact hput
 ·rw [if_neg (by rw [hw];simp),hd]
  rw [hv] at hput
  exact ⟨fun _ _=>trivial,hput⟩
theorem nodup_mid {U1 U2:List Lg} {u:Lg} (h:((U1 ++ u :: U2).map Lg.i).Nodup):((U1 ++ U2).map Lg.i).Nodup:=by
 rw [List.map_append,List.map_cons,List.nodup_append] at h
 rw [List.map_append,List.nodup_append]
 exact ⟨h.1,(List.nodup_cons.1 h.2.1).2,fun a ha b hb=>h.2.2 a ha b (List.mem_cons_of_mem _ hb)⟩
theorem closed_set {listed:Array Bool} {j:Nat} (hcl:Closed ops listed) (hsz:listed.size = ops.size) (hr:j ∈ Region.ready .any ops listed):Closed ops (listed.setIfInBounds j true):=by
 obtain ⟨_,o,ho,hdeps⟩:=mem_ready.1 hr
 have hlt:j < ops.size:=(Array.getElem?_eq_some_iff.1 ho).1
 intro i oi hoi hi x hx
 rw [setD (by omega)] at hi ⊢
 right
 rcases hi with rfl|hi
 ·have:oi = o:=Option.some.inj (hoi.symm.trans ho)
  subst this
  obtain ⟨e,he,hb,hon⟩:=mem_bdeps.1 hx
  rw [← hon];exact hdeps e he hb
 ·exact hcl i oi hoi hi x hx
theorem DSem.nil (hc:CanO ops can rd fk) (h:∀ a w,Fr N T a → Sat B A w → Q .normal a w):DSem P N B Q ops can rd ld [] T A:=by
 intro _ _ U
 simp only [List.length_nil,Nat.sub_zero,Nat.zero_add,List.take_length]
 induction hn:U.length generalizing U with
 | zero =>
  intro a w listed _ hU hnd hF hS hlag hsz hl hcl
  obtain rfl:U = []:=List.eq_nil_of_length_eq_zero hn
  refine ⟨?_,h a w hF hS⟩
  refine List.eq_nil_iff_forall_not_mem.2 fun j hj=>?_
  obtain ⟨h1,o,ho,_⟩:=mem_ready.1 hj
  have hlt:j < ops.size:=(Array.getElem?_eq_some_iff.1 ho).1
  exact (getD_false_iff (by omega)).1 h1 ((hl j hlt).2 ⟨(hc.mem j).2 hlt,by simp⟩)
 | succ n ih =>
  intro a w listed hpl hU hnd hF hS hlag hsz hl hcl
  have hU':∀ u ∈ U,u.i ∈ can.take can.length:=fun u hu=>by rw [List.take_length];exact (hU u hu).1
  have hl':∀ j,j < ops.size → (listed.getD j false = true ↔ j ∈ can.take can.length ∧ j ∉ U.map Lg.i):=fun j hj=>by rw [List.take_length];exact hl j hj
  refine ⟨fun h0=>?_,fun j hj=>?_⟩
  ·obtain ⟨u,hu⟩:∃ u,u ∈ U:=List.exists_mem_of_length_pos (by omega)
   obtain ⟨j,hj⟩:=some_ready hc hsz hU' hl' u.i (List.mem_map_of_mem hu)
   rw [h0] at hj;cases hj
  ·obtain ⟨h1,o,ho,_⟩:=mem_ready.1 hj
   have hlt:j < ops.size:=(Array.getElem?_eq_some_iff.1 ho).1
   have hjU:j ∈ U.map Lg.i:=Decidable.byContradiction fun hh=>(getD_false_iff (by omega)).1 h1 ((hl j hlt).2 ⟨(hc.mem j).2 hlt,hh⟩)
   obtain ⟨u,hu,rfl⟩:=List.mem_map.1 hjU
   obtain ⟨U1,U2,rfl⟩:=List.append_of_mem hu
   refine pay hc (k:=can.length) (fun x hx=>⟨hU' x hx,(hU x hx).2⟩) hnd hS hlag hsz hl' hj fun hp hl2=>?_
   have hsub:∀ x ∈ U1 ++ U2,x ∈ U1 ++ u :: U2:=fun x hx=>by rcases List.mem_append.1 hx with h|h <;> simp [h]
   refine ih (U1 ++ U2) (by simp at hn ⊢;omega) _ _ _ (fun x hx=>hpl x (hsub x hx)) (fun x hx=>hU x (hsub x hx)) ?_ (hp ▸ hF) hS (fun x hx=>hp ▸ hlag x (hsub x hx)) (by simpa using hsz)
    (fun j hj=>by have:=hl2 j hj;rwa [List.take_length] at this) (closed_set hcl hsz hj)
   exact nodup_mid hnd
theorem DSem.read (hc:CanO ops can rd fk) {o:Oper} {l:List Oper} {d:Nat} {v:Value} (p:Bool) (hrd:∀ i,can[can.length - (l.length + 1)]? = some i → rd i = true ∧ (p = true ∨ ld i = true)) (hd:o.dst = some d) (hN:Nat.blt d N.n = true)
  (hst:∀ a w,Fr N T a → (p = true ∨ Sat B A w) → Steps1 P ops o a w v) (hk:DSem P N B Q ops can rd ld l ((d,v) :: T) A):DSem P N B Q ops can rd ld (o :: l) T A:=by
 intro hle hmap U a w listed hpl hU hnd hF hS hlag hsz hl hcl
 simp only [List.length_cons] at hle hmap hU hl ⊢
 obtain ⟨k,hkk⟩:∃ k,k = can.length - (l.length + 1):=⟨_,rfl⟩
 have hk1:can.length - l.length = k + 1:=by omega
 rw [← hkk] at hmap hU hl hrd
 have hlt:k < can.length:=by omega
 obtain ⟨i,hi⟩:∃ i,can[k]? = some i:=⟨can[k],List.getElem?_eq_getElem hlt⟩
 rw [List.drop_eq_getElem_cons hlt] at hmap
 simp only [List.map_cons,List.cons.injEq] at hmap
 obtain ⟨ho',hmap'⟩:=hmap
 have hik:can[k] = i:=by rw [List.getElem?_eq_getElem hlt] at hi;exact Option.some.inj hi
 rw [hik] at ho'
 have ho:ops[i]? = some o:=ho'.symm
 obtain ⟨hri,hldi⟩:=hrd i hi
 have hnt:=not_in_take hc.nodup hi
 have hself:d ∉ o.looksAt ops:=fun hm=>by
  have h1:=hc.looks i i o o d ho ho hri hd hm
  exact absurd (hc.deps k i o hi ho i h1).2 (Nat.lt_irrefl i)
 have hiU:i ∉ U.map Lg.i:=fun hm=>by
  obtain ⟨u,hu,rfl⟩:=List.mem_map.1 hm
  exact hnt (hU u hu).1
 have hag:∀ (ox:Oper) (a0:Act),d ∉ ox.looksAt ops → Agree ops ox a0 ((puts a U).put (some d) v) → Agree ops ox a0 (puts a U):=by
  intro ox a0 hdx h t ht
  rw [h t ht]
  have hne:d ≠ t:=fun e=>hdx (e ▸ ht)
  simp [Act.put,Array.getElem?_setIfInBounds_ne hne]
 have key:=hk (by omega) (by rw [hk1];exact hmap') (⟨i,d,v,p⟩ :: U) a w listed ?_ ?_ ?_ ?_ hS ?_ hsz ?_ hcl
 ·rw [show l.length + 1 + U.length = l.length + (⟨i,d,v,p⟩ :: U:List Lg).length from by simp;omega]
  exact key
 ·intro u hu
  rcases List.mem_cons.1 hu with rfl|hu
  ·exact hldi
  ·exact hpl u hu
 ·intro u hu
  rw [hk1]
  rcases List.mem_cons.1 hu with rfl|hu
  ·exact ⟨(take_succ_mem hi).2 (.inr rfl),hri⟩
  ·exact ⟨take_mono (by omega) (hU u hu).1,(hU u hu).2⟩
 ·simp only [List.map_cons,List.nodup_cons]
  exact ⟨hiU,hnd⟩
 ·exact hF.put hN v
 ·intro u hu
  rcases List.mem_cons.1 hu with rfl|hu
  ·refine ⟨o,ho,hd,hc.sel i o ho,fun a0 h0 w0 hw0=>?_⟩
   exact (hst _ w0 hF hw0).agree (hag o a0 hself h0) (hc.sel i o ho)
  ·obtain ⟨ou,hou,hdu,hsel,hstu⟩:=hlag u hu
   refine ⟨ou,hou,hdu,hsel,fun a0 h0 w0 hw0=>hstu a0 (hag ou a0 (fun hm=>?_) h0) w0 hw0⟩
   have h1:=hc.looks i u.i o ou d ho hou hri hd hm
   obtain ⟨q,hq,he⟩:=pos_of_take (hU u hu).1
   exact hnt (take_mono (by omega) (hc.deps q u.i ou he hou i h1).1)
 ·intro j hj
  rw [hk1,hl j hj,take_succ_mem hi]
  simp only [List.map_cons,List.mem_cons,not_or]
  constructor
  ·rintro ⟨h1,h2⟩
   exact ⟨.inl h1,fun e=>hnt (e ▸ h1),h2⟩
  ·rintro ⟨h1|h1,h2,h3⟩
   ·exact ⟨h1,h3⟩
   ·exact absurd h1 h2
def effPost (P:Program) (B:Base) (R:Value → List Blk → Prop):Result Next → Prop
 | .ok (.value v) w=>∃ A',R v A' ∧ Sat B A' w
 | .ok .skip w=>∃ A',R undef A' ∧ Sat B A' w
 | .ok (.enter f args) w=>Calls P f args w fun e w'=>∃ v A',e = .returned v ∧ R v A' ∧ Sat B A' w'
 | .ok (.round l f tmps assign body) w=>RoundIn Fence.wide 0 P l f tmps assign body w fun e w'=>∃ v A',e = .returned v ∧ R v A' ∧ Sat B A' w'
 | _=>False
theorem semAt_of_effPost {P:Program} {B:Base} {R:Value → List Blk → Prop} {o:Oper} {ρ:Operand → Value} {ro:Option Nat} {w:World} (h:effPost P B R ((execOp ρ o).run P w)):o.semAt ro ρ = execOp ρ o :=
 Oper.semAt_eq ro ρ o fun c hc=>by
  unfold execOp at h
  rw [hc] at h
  simp only [Sem.run_bind] at h
  generalize (resolve ρ c o.type).run P w = r at h
  cases r <;> simp [effPost] at h
theorem callsIn_fen (B:Base) {P:Program} {n:Nat} {f:FuncId} {args:Array Value} {w:World} {R:Ending → World → Prop}:CallsIn (fen B) n P f args w R ↔ Calls P f args w R :=
 callsIn_wide (n:=n) (P:=P) (f:=f) (args:=args) (w:=w) (R:=R)
theorem roundIn_fen (B:Base) {P:Program} {n l:Nat} {f:FuncId} {tmps:Array Value} {assign body:Code} {w:World} {R:Ending → World → Prop} (h:RoundIn Fence.wide 0 P l f tmps assign body w R):RoundIn (fen B) n P l f tmps assign body w R :=
 ⟨trivial,fun c cs _=>h.2 c cs (room_wide _)⟩
def putT (d:Option Nat) (v:Value) (T:Tm):Tm:=match d with
 | some d=>(d,v) :: T
 | none=>T
theorem wp_of_effPost {o:Oper} {a:Act} {w:World} {R:Value → List Blk → Prop} {K:Act → World → Prop} {Q:Exit → Act → World → Prop} (h:effPost P B R ((execOp a.eval o).run P w))
  (hK:∀ v A' w',R v A' → Sat B A' w' → K (a.put o.dst v) w'):o.wpIn (fen B) 0 P a w K Q:=by
 unfold Oper.wpIn
 refine ⟨fun _ _=>trivial,?_⟩
 rw [semAt_of_effPost h]
 generalize (execOp a.eval o).run P w = r at *
 cases r with
 | ok n w' =>
  cases n <;> simp only [effPost] at h <;> simp only [Oper.uponIn]
  case value v=>obtain ⟨A',hR,hS⟩:=h;exact hK v A' w' hR hS
  case skip=>obtain ⟨A',hR,hS⟩:=h;exact hK _ A' w' hR hS
  case enter f args=>exact ⟨fun hn=>by simp [fen] at hn,(callsIn_fen B).2 (h.mono fun e w'' ⟨v,A',he,hR,hS⟩=>by subst he;exact hK v A' w'' hR hS)⟩
  case round l f tmps assign body=>exact ⟨fun hn=>by simp [fen] at hn,roundIn_fen B (h.mono fun e w'' ⟨v,A',he,hR,hS⟩=>by subst he;exact hK v A' w'' hR hS)⟩
 | halt x w'=>simp only [effPost] at h
theorem Fr.putT {o:Oper} {s:Act} (h:Fr N T s) (hN:∀ d,o.dst = some d → Nat.blt d N.n = true) (v:Value):Fr N (putT o.dst v T) (s.put o.dst v):=by
 cases hd:o.dst with
 | none=>exact h
 | some d=>exact h.put (hN d hd) v
theorem DStep.effE (hc:CanO ops can rd fk) {o:Oper} {l:List Oper} {R:Value → List Blk → Prop} {pend:List Nat} {EP:Result Next → Prop}
  (hEP:∀ (a:Act) (w:World) (K:Act → World → Prop),Fr N [] a → EP ((execOp a.eval o).run P w) → (∀ v A' w',R v A' → Sat B A' w' → K (a.put o.dst v) w') → o.wpIn (fen B) 0 P a w K Q)
  (hrd:∀ i,can[can.length - (l.length + 1)]? = some i → rd i = false) (hN:∀ d,o.dst = some d → Nat.blt d N.n = true)
  (hpend:∀ i,i ∈ can.take (can.length - (l.length + 1)) → rd i = true → ld i = true → i ∈ pend ∨ ∃ e,e ∈ can.take (can.length - l.length) ∧ rd e = false ∧ Anc ops e i)
  (he:∀ a w,Fr N T a → Sat B A w → (Region.wanted o (yielded ops a.tmps) = true ∧ EP ((execOp a.eval o).run P w)) ∨ (Region.wanted o (yielded ops a.tmps) = false ∧ ∃ A',R undef A' ∧ Sat B A' w))
  (hk:∀ v A',R v A' → (∀ i ∈ pend,∃ oi d u,ops[i]? = some oi ∧ oi.dst = some d ∧ look (putT o.dst v T) d = some u ∧ ∀ a w,Fr N (putT o.dst v T) a → Sat B A' w → Steps1 P ops oi a w u) ∧ DSem P N B Q ops can rd ld l (putT o.dst v T) A') :
  DStep P N B Q ops can rd ld (o :: l) T A:=by
 intro hle hmap U a w listed j hjj
 simp only [List.length_cons] at hle hmap hjj ⊢
 obtain ⟨k,hkk⟩:∃ k,k = can.length - (l.length + 1):=⟨_,rfl⟩
 have hk1:can.length - l.length = k + 1:=by omega
 rw [← hkk] at hmap hrd hpend hjj ⊢
 rw [hk1] at hpend
 have hlt:k < can.length:=by omega
 obtain ⟨i,hi⟩:∃ i,can[k]? = some i:=⟨can[k],List.getElem?_eq_getElem hlt⟩
 rw [List.drop_eq_getElem_cons hlt] at hmap
 simp only [List.map_cons,List.cons.injEq] at hmap
 obtain ⟨ho',hmap'⟩:=hmap
 have hik:can[k] = i:=by rw [List.getElem?_eq_getElem hlt] at hi;exact Option.some.inj hi
 rw [hik] at ho'
 have ho:ops[i]? = some o:=ho'.symm
 have hri:=hrd i hi
 have hnt:=not_in_take hc.nodup hi
 have hilt:i < ops.size:=(Array.getElem?_eq_some_iff.1 ho).1
 obtain rfl:i = j:=Option.some.inj (hi.symm.trans hjj)
 intro hpl hU hnd hF hS hlag hsz hl hcl hj
 obtain ⟨h1,oj,hoj,hdj⟩:=mem_ready.1 hj
 have hjlt:i < ops.size:=(Array.getElem?_eq_some_iff.1 hoj).1
 rw [Nat.add_sub_cancel]
 have:oj = o:=Option.some.inj (hoj.symm.trans ho)
 subst this
 have hdl:∀ x ∈ bdeps oj,listed.getD x false = true:=fun x hx=>by
  obtain ⟨e,hem,hb,hon⟩:=mem_bdeps.1 hx
  rw [← hon];exact hdj e hem hb
 have hUl:∀ u ∈ U,¬ listed.getD u.i false = true:=fun u hu h=>by
  obtain ⟨ou,hou,_⟩:=hlag u hu
  exact ((hl _ ((Array.getElem?_eq_some_iff.1 hou).1)).1 h).2 (List.mem_map_of_mem hu)
 have hag:Agree ops oj a (puts a U):=by
  intro t ht
  refine (puts_tmps fun x hx e=>?_).symm
  obtain ⟨ox,hox,hdx,_⟩:=hlag x hx
  exact hUl x hx (hdl _ (hc.looks x.i i _ _ t hox ho (hU x hx).2 (by rw [hdx,e]) ht))
 have hdd:∀ u ∈ U,oj.dst ≠ some u.d:=fun u hu e=>by
  obtain ⟨ou,hou,hdu,_⟩:=hlag u hu
  exact hc.dst u.i i _ _ u.d hou ho (hU u hu).2 hdu (fun e'=>hnt (e' ▸ (hU u hu).1)) e
 have go:∀ v A' w',R v A' → Sat B A' w' → wpAnyIn (fen B) 0 P .any ops Q (l.length + U.length) (listed.setIfInBounds i true) (a.put oj.dst v) w':=by
  intro v A' w' hR hS'
  obtain ⟨hst,hD⟩:=hk v A' hR
  have hF':Fr N (putT oj.dst v T) (puts (a.put oj.dst v) U):=by
   rw [puts_put hdd]
   exact hF.putT hN v
  refine hD (by omega) (by rw [hk1];exact hmap') U _ w' _ hpl ?_ hnd hF' hS' ?_ (by simpa using hsz) ?_ (closed_set hcl hsz hj)
  ·intro u hu
   rw [hk1]
   exact ⟨take_mono (by omega) (hU u hu).1,(hU u hu).2⟩
  ·intro u hu
   obtain ⟨ou,hou,hdu,hsel,hstu⟩:=hlag u hu
   rcases hpl u hu with hpu|hldu
   ·refine ⟨ou,hou,hdu,hsel,fun a0 h0 w0 _=>hstu a0 (fun t ht=>?_) w0 (.inl hpu)⟩
    rw [h0 t ht,puts_put hdd]
    cases hdo:oj.dst with
    | none=>rfl
    | some de =>
     have hne:de ≠ t:=fun e=>by
      rcases hc.effs i u.i oj ou de ho hou hri hdo (e ▸ ht) with e1|h2|h2
      ·exact hnt (e1 ▸ (hU u hu).1)
      ·obtain ⟨q,hq,he⟩:=pos_of_take (hU u hu).1
       exact hnt (take_mono (by omega) (hc.deps q u.i ou he hou i h2).1)
      ·exact hUl u hu (hdl _ h2)
     simp [Act.put,Array.getElem?_setIfInBounds_ne hne]
   ·rcases hpend u.i (hU u hu).1 (hU u hu).2 hldu with hp|⟨e,he1,he2,he3⟩
    ·obtain ⟨oi,d,x,hoi,hdi,hlk,hss⟩:=hst u.i hp
     have:oi = ou:=Option.some.inj (hoi.symm.trans hou)
     subst this
     have hdd':d = u.d:=Option.some.inj (hdi.symm.trans hdu)
     subst hdd'
     have hsz':u.d < (a.put oj.dst v).tmps.size:=by
      have h5:=hF'.get _ _ hlk
      have h6:=(Array.getElem?_eq_some_iff.1 h5).1
      rwa [puts_size] at h6
     have hxv:x = u.v:=by
      have h5:=hF'.get _ _ hlk
      rw [puts_get hsz' hu ?_] at h5
      ·exact (Option.some.inj h5).symm
      ·intro y hy hyd
       by_cases hyi:y.i = u.i
       ·obtain ⟨U1,U2,rfl⟩:=List.append_of_mem hu
        rw [List.map_append,List.map_cons,List.nodup_append] at hnd
        obtain ⟨_,h2,h3⟩:=hnd
        rcases List.mem_append.1 hy with h|h
        ·exact absurd hyi (h3 y.i (List.mem_map_of_mem h) u.i (List.mem_cons_self ..))
        ·rcases List.mem_cons.1 h with rfl|h
         ·rfl
         ·exact absurd (hyi ▸ List.mem_map_of_mem h) (List.nodup_cons.1 h2).1
       ·obtain ⟨oy,hoy,hdy,_⟩:=hlag y hy
        exact absurd (by rw [hdi,← hyd]) (hc.dst y.i u.i oy oi y.d hoy hoi (hU y hy).2 hdy hyi)
     subst hxv
     refine ⟨oi,hoi,hdi,hsel,fun a0 h0 w0 hw0=>?_⟩
     rcases hw0 with hw0|hw0
     ·exact hstu a0 (fun t ht=>by
       rw [h0 t ht,puts_put hdd]
       cases hdo:oj.dst with
       | none=>rfl
       | some de =>
        have hne:de ≠ t:=fun e=>by
         rcases hc.effs i u.i oj oi de ho hoi hri hdo (e ▸ ht) with e1|h2|h2
         ·exact hnt (e1 ▸ (hU u hu).1)
         ·obtain ⟨q,hq,he⟩:=pos_of_take (hU u hu).1
          exact hnt (take_mono (by omega) (hc.deps q u.i oi he hoi i h2).1)
         ·exact hUl u hu (hdl _ h2)
        simp [Act.put,Array.getElem?_setIfInBounds_ne hne]) w0 (.inl hw0)
     ·exact (hss _ w0 hF' hw0).agree h0 hsel
    ·exfalso
     rw [take_succ_mem hi] at he1
     refine hUl u hu (he3.listed hcl fun oe hoe x hx=>?_)
     rcases he1 with he1|rfl
     ·have hel:listed.getD e false = true:=by
       refine (hl e ((Array.getElem?_eq_some_iff.1 hoe).1)).2 ⟨he1,fun hm=>?_⟩
       obtain ⟨y,hy,hye⟩:=List.mem_map.1 hm
       have:=(hU y hy).2
       rw [hye,he2] at this
       cases this
      exact hcl e oe hoe hel x hx
     ·have:oe = oj:=Option.some.inj (hoe.symm.trans ho)
      subst this
      exact hdl x hx
  ·intro j' hj'
   rw [hk1,setD (by omega),hl j' hj',take_succ_mem hi]
   constructor
   ·rintro (rfl|⟨h1,h2⟩)
    ·refine ⟨.inr rfl,fun hm=>?_⟩
     obtain ⟨y,hy,hye⟩:=List.mem_map.1 hm
     exact hnt (hye ▸ (hU y hy).1)
    ·exact ⟨.inl h1,h2⟩
   ·rintro ⟨h1|h1,h2⟩
    ·exact .inr ⟨h1,h2⟩
    ·exact .inl h1
 unfold wpOpIn
 simp only [ho]
 have h3:=he _ w hF hS
 rw [← hag.wanted,← hag.exec (hc.sel i oj ho)] at h3
 rcases h3 with ⟨hw,hp⟩|⟨hw,A',hR,hS'⟩
 ·rw [if_pos hw]
  exact hEP a w _ ⟨by rw [← hF.size,puts_size],by rw [← hF.dfr,puts_defers],fun i v h=>by cases h⟩ hp fun v A' w' hR hS'=>go v A' w' hR hS'
 ·rw [if_neg (by rw [hw];simp)]
  exact ⟨fun _ _=>trivial,go undef A' w hR hS'⟩
theorem DStep.eff (hc:CanO ops can rd fk) {o:Oper} {l:List Oper} {R:Value → List Blk → Prop} {pend:List Nat}
  (hrd:∀ i,can[can.length - (l.length + 1)]? = some i → rd i = false) (hN:∀ d,o.dst = some d → Nat.blt d N.n = true)
  (hpend:∀ i,i ∈ can.take (can.length - (l.length + 1)) → rd i = true → ld i = true → i ∈ pend ∨ ∃ e,e ∈ can.take (can.length - l.length) ∧ rd e = false ∧ Anc ops e i)
  (he:∀ a w,Fr N T a → Sat B A w → (Region.wanted o (yielded ops a.tmps) = true ∧ effPost P B R ((execOp a.eval o).run P w)) ∨ (Region.wanted o (yielded ops a.tmps) = false ∧ ∃ A',R undef A' ∧ Sat B A' w))
  (hk:∀ v A',R v A' → (∀ i ∈ pend,∃ oi d u,ops[i]? = some oi ∧ oi.dst = some d ∧ look (putT o.dst v T) d = some u ∧ ∀ a w,Fr N (putT o.dst v T) a → Sat B A' w → Steps1 P ops oi a w u) ∧ DSem P N B Q ops can rd ld l (putT o.dst v T) A') :
  DStep P N B Q ops can rd ld (o :: l) T A :=
 DStep.effE hc (EP:=effPost P B R) (fun a w K _ hp hK=>wp_of_effPost hp hK) hrd hN hpend he hk
theorem DSem.of_fork (hc:CanO ops can rd fk) {o:Oper} {l:List Oper} {k i:Nat} (hk:k = can.length - (l.length + 1)) (hi:can[k]? = some i) (hri:rd i = false) {j2:Nat → Prop}
  (hready:∀ (j:Nat) (oj:Oper),ops[j]? = some oj → j ∉ can.take k → j ≠ i → ¬ j2 j → ∃ x ∈ bdeps oj,x ∉ can.take k)
  (h:DStep P N B Q ops can rd ld (o :: l) T A)
  (h2:∀ j,j2 j → j ≠ i → ∀ (U:List Lg) (a:Act) (w:World) (listed:Array Bool),(∀ u ∈ U,u.p = true ∨ ld u.i = true) → (∀ u ∈ U,u.i ∈ can.take k ∧ rd u.i = true) → (U.map Lg.i).Nodup →
   Fr N T (puts a U) → Sat B A w → (∀ u ∈ U,Lag P ops B A (puts a U) u) →
   listed.size = ops.size → (∀ j,j < ops.size → (listed.getD j false = true ↔ j ∈ can.take k ∧ j ∉ U.map Lg.i)) → Closed ops listed →
   j ∈ Region.ready .any ops listed → wpOpIn (fen B) 0 P ops Q j (wpAnyIn (fen B) 0 P .any ops Q (l.length + U.length) (listed.setIfInBounds j true)) a w):DSem P N B Q ops can rd ld (o :: l) T A:=by
 intro hle hmap U
 have hle0:=hle
 have hmap0:=hmap
 simp only [List.length_cons] at hle hmap ⊢
 rw [← hk] at hmap ⊢
 have hlt:k < can.length:=by omega
 rw [List.drop_eq_getElem_cons hlt] at hmap
 simp only [List.map_cons,List.cons.injEq] at hmap
 obtain ⟨ho',hmap'⟩:=hmap
 have hik:can[k] = i:=by rw [List.getElem?_eq_getElem hlt] at hi;exact Option.some.inj hi
 rw [hik] at ho'
 have ho:ops[i]? = some o:=ho'.symm
 have hnt:=not_in_take hc.nodup hi
 have hilt:i < ops.size:=(Array.getElem?_eq_some_iff.1 ho).1
 obtain ⟨n,hn⟩:∃ n,n = U.length:=⟨_,rfl⟩
 induction n using Nat.strongRecOn generalizing U with
 | _ n ih =>
 intro a w listed hpl hU hnd hF hS hlag hsz hl hcl
 rw [show l.length + 1 + U.length = (l.length + U.length) + 1 from by omega]
 refine ⟨fun h0=>?_,fun j hj=>?_⟩
 ·exfalso
  rcases U with _|⟨u,U⟩
  ·have:i ∈ Region.ready .any ops listed:=by
    refine mem_ready.2 ⟨(getD_false_iff (by omega)).2 fun h=>hnt ((hl i hilt).1 h).1,o,ho,fun e hem hb=>?_⟩
    obtain ⟨h1,h2⟩:=hc.deps k i o hi ho e.on (mem_bdeps.2 ⟨e,hem,hb,rfl⟩)
    exact (hl _ (by omega)).2 ⟨h1,by simp⟩
   rw [h0] at this;cases this
  ·obtain ⟨j,hj⟩:=some_ready hc hsz (fun x hx=>(hU x hx).1) hl u.i (by simp)
   rw [h0] at hj;cases hj
 ·obtain ⟨h1,oj,hoj,hdj⟩:=mem_ready.1 hj
  have hjlt:j < ops.size:=(Array.getElem?_eq_some_iff.1 hoj).1
  have hjn:=(getD_false_iff (by omega)).1 h1
  by_cases hjt:j ∈ can.take k
  ·have hjU:j ∈ U.map Lg.i:=Decidable.byContradiction fun hh=>hjn ((hl j hjlt).2 ⟨hjt,hh⟩)
   obtain ⟨u,hu,rfl⟩:=List.mem_map.1 hjU
   obtain ⟨U1,U2,rfl⟩:=List.append_of_mem hu
   refine pay hc hU hnd hS hlag hsz hl hj fun hp hl2=>?_
   have hsub:∀ x ∈ U1 ++ U2,x ∈ U1 ++ u :: U2:=fun x hx=>by rcases List.mem_append.1 hx with h|h <;> simp [h]
   have key:=ih (U1 ++ U2).length (by simp at hn ⊢;omega) (U1 ++ U2) rfl (a.put (some u.d) u.v) w (listed.setIfInBounds u.i true) (fun x hx=>hpl x (hsub x hx)) (fun x hx=>hU x (hsub x hx)) (nodup_mid hnd)
    (hp ▸ hF) hS (fun x hx=>hp ▸ hlag x (hsub x hx)) (by simpa using hsz) hl2 (closed_set hcl hsz hj)
   rw [show l.length + (U1 ++ u :: U2).length = l.length + 1 + (U1 ++ U2).length from by simp;omega]
   exact key
  ·by_cases hji:j = i
   ·subst hji
    have:=h hle0 hmap0 U a w listed j (by rw [List.length_cons,← hk];exact hi) hpl (by rw [List.length_cons,← hk];exact hU) hnd hF hS hlag hsz (by rw [List.length_cons,← hk];exact hl) hcl hj
    rw [List.length_cons,Nat.add_sub_cancel] at this
    exact this
   ·by_cases hj2:j2 j
    ·exact h2 j hj2 hji U a w listed hpl hU hnd hF hS hlag hsz hl hcl hj
    ·exfalso
     obtain ⟨x,hx,hxn⟩:=hready j oj hoj hjt hji hj2
     obtain ⟨e,hem,hb,hon⟩:=mem_bdeps.1 hx
     have h2:=hdj e hem hb
     rw [hon] at h2
     have hxl:x < ops.size:=by
      rcases Nat.lt_or_ge x listed.size with h|h
      ·omega
      ·simp [Array.getElem?_eq_none h] at h2
     exact hxn ((hl x hxl).1 h2).1
theorem DSem.of_step (hc:CanO ops can rd fk) {o:Oper} {l:List Oper} (hrd:∀ i,can[can.length - (l.length + 1)]? = some i → rd i = false ∧ fk i = false) (h:DStep P N B Q ops can rd ld (o :: l) T A):DSem P N B Q ops can rd ld (o :: l) T A:=by
 intro hle hmap
 have hlt:can.length - (l.length + 1) < can.length:=by simp only [List.length_cons] at hle;omega
 obtain ⟨i,hi⟩:∃ i,can[can.length - (l.length + 1)]? = some i:=⟨_,List.getElem?_eq_getElem hlt⟩
 exact DSem.of_fork hc rfl hi (hrd i hi).1 (j2:=fun _=>False) (fun j oj hoj hjt hji _=>hc.ready _ i hi (hrd i hi).1 (hrd i hi).2 j oj hoj hjt hji) h (fun j hj=>hj.elim) hle hmap
end
end Go.Sep
