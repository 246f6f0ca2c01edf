import Derived.Test.YtaecdnfkcebbeaaGreatA03
set_option linter.unusedVariables false
set_option linter.unusedSimpArgs false
namespace Go.Sep
open Go
abbrev DI:=Nat × Nat × List Nat
def rdF (info:List DI) (j:Nat):Bool:=info.any fun x=>x.1 == j && Nat.blt x.2.1 2
def ldF (info:List DI) (j:Nat):Bool:=info.any fun x=>x.1 == j && x.2.1 == 1
def fkF (info:List DI) (j:Nat):Bool:=info.any fun x=>x.1 == j && x.2.1 == 4
def reach (ops:Array Oper):Nat → List Nat → List Nat → List Nat
 | 0,_,vis=>vis
 | _ + 1,[],vis=>vis
 | f + 1,x :: fr,vis=>if vis.contains x then reach ops f fr vis else match ops[x]? with
  | some o=>reach ops f (bdeps o ++ fr) (x :: vis)
  | none=>reach ops f fr (x :: vis)
def reachOf (ops:Array Oper) (e:Nat):List Nat:=match ops[e]? with
 | some o=>reach ops (ops.size * ops.size + ops.size + 1) (bdeps o) []
 | none=>[]
theorem reach_anc {ops:Array Oper} {e:Nat}:∀ (f:Nat) (fr vis:List Nat),(∀ x ∈ fr,Anc ops e x) → (∀ x ∈ vis,Anc ops e x) → ∀ x ∈ reach ops f fr vis,Anc ops e x
 | 0,_,_,_,h,x,hx=>h x hx
 | _ + 1,[],_,_,h,x,hx=>h x hx
 | f + 1,y :: fr,vis,h1,h2,x,hx=>by
  simp only [reach] at hx
  split at hx
  ·exact reach_anc f fr vis (fun z hz=>h1 z (List.mem_cons_of_mem _ hz)) h2 x hx
  ·have hy:=h1 y (List.mem_cons_self ..)
   have h2':∀ z ∈ y :: vis,Anc ops e z:=fun z hz=>by
    rcases List.mem_cons.1 hz with rfl|hz
    ·exact hy
    ·exact h2 z hz
   split at hx
   ·rename_i o ho
    refine reach_anc f _ _ (fun z hz=>?_) h2' x hx
    rcases List.mem_append.1 hz with hz|hz
    ·exact .step hy ho hz
    ·exact h1 z (List.mem_cons_of_mem _ hz)
   ·exact reach_anc f fr _ (fun z hz=>h1 z (List.mem_cons_of_mem _ hz)) h2' x hx
theorem reachOf_anc {ops:Array Oper} {e x:Nat} (h:x ∈ reachOf ops e):Anc ops e x:=by
 unfold reachOf at h
 split at h
 ·rename_i o ho
  exact reach_anc _ _ _ (fun z hz=>.one ho hz) (fun z hz=>by cases hz) x h
 ·cases h
def nodupB:List Nat → Bool
 | []=>true
 | x :: xs=>!xs.contains x && nodupB xs
theorem nodupB_ok:∀ {l:List Nat},nodupB l = true → l.Nodup
 | [],_=>List.nodup_nil
 | x :: xs,h=>by
  simp only [nodupB,Bool.and_eq_true,Bool.not_eq_true',List.contains_eq_mem,decide_eq_false_iff_not] at h
  exact List.nodup_cons.2 ⟨h.1,nodupB_ok h.2⟩
def opB (ops:Array Oper) (pre:List Nat) (i:Nat) (k:Nat):Bool :=
 match ops[i]? with
 | none=>false
 | some o=>((bdeps o).all fun j=>pre.contains j && Nat.blt j i) &&
  ((Nat.blt k 2 || k == 4) || (List.range ops.size).all fun j=>pre.contains j || j == i || (match ops[j]? with
   | some oj=>(bdeps oj).any fun x=>!pre.contains x
   | none=>true))
def pendB (ops:Array Oper) (info:List DI) (pre:List Nat) (i k:Nat) (p:List Nat):Bool :=
 Nat.blt k 2 || pre.all fun x=>!(rdF info x) || !(ldF info x) || p.contains x || ((i :: pre).any fun e=>!(rdF info e) && (reachOf ops e).contains x)
def goB (ops:Array Oper) (info:List DI):List Nat → List DI → Bool
 | _,[]=>true
 | pre,(i,k,p) :: rest=>opB ops pre i k && pendB ops info pre i k p && goB ops info (pre ++ [i]) rest
def pairB (ops:Array Oper) (info:List DI) (i j:Nat):Bool :=
 match ops[i]?,ops[j]? with
 | some oi,some oj=>(match oi.dst with
  | none=>true
  | some d=>let lk:=(oj.looksAt ops).contains d
   if rdF info i then (i == j || oj.dst != some d) && (!lk || (bdeps oj).contains i) else !lk || i == j || (bdeps oj).contains i || (bdeps oi).contains j)
 | _,_=>true
def canB (ops:Array Oper) (info:List DI):Bool :=
 nodupB (info.map (·.1)) && (info.all fun x=>Nat.blt x.1 ops.size) && ((List.range ops.size).all fun j=>(info.map (·.1)).contains j) && (ops.all fun o=>notSel o.op) &&
 ((List.range ops.size).all fun i=>(List.range ops.size).all fun j=>pairB ops info i j) && goB ops info [] info && info.all fun x=>x.2.1 != 3
theorem goB_at {ops:Array Oper} {info:List DI}:∀ (rest:List DI) (pre:List Nat),goB ops info pre rest = true → ∀ (p:Nat) (x:DI),rest[p]? = some x →
  opB ops (pre ++ (rest.map (·.1)).take p) x.1 x.2.1 = true ∧ pendB ops info (pre ++ (rest.map (·.1)).take p) x.1 x.2.1 x.2.2 = true
 | [],_,_,p,x,h=>by simp at h
 | (i,k,q) :: rest,pre,h,p,x,hx=>by
  simp only [goB,Bool.and_eq_true] at h
  rcases p with _|p
  ·simp only [List.getElem?_cons_zero,Option.some.injEq] at hx
   subst hx
   simpa using h.1
  ·have:=goB_at rest (pre ++ [i]) h.2 p x (by simpa using hx)
   simpa using this
section
variable {ops:Array Oper} {info:List DI}
theorem canB_parts (h:canB ops info = true):(info.map (·.1)).Nodup ∧ (∀ x ∈ info,x.1 < ops.size) ∧ (∀ j,j < ops.size → j ∈ info.map (·.1)) ∧ (∀ (i:Nat) (o:Oper),ops[i]? = some o → notSel o.op = true) ∧
  (∀ i j,i < ops.size → j < ops.size → pairB ops info i j = true) ∧ goB ops info [] info = true ∧ ∀ x ∈ info,x.2.1 ≠ 3:=by
 simp only [canB,Bool.and_eq_true,List.all_eq_true,List.mem_range,List.contains_eq_mem,decide_eq_true_eq] at h
 obtain ⟨⟨⟨⟨⟨⟨h1,h2⟩,h3⟩,h4⟩,h5⟩,h6⟩,h7⟩:=h
 refine ⟨nodupB_ok h1,fun x hx=>by simpa [Nat.blt_eq] using h2 x hx,h3,fun i o ho=>?_,fun i j hi hj=>h5 i hi j hj,h6,fun x hx=>by simpa using h7 x hx⟩
 rw [Array.all_eq_true] at h4
 obtain ⟨hi,he⟩:=Array.getElem?_eq_some_iff.1 ho
 rw [← he];exact h4 i hi
theorem rdF_at (hn:(info.map (·.1)).Nodup) {p:Nat} {x:DI} (h:info[p]? = some x):rdF info x.1 = Nat.blt x.2.1 2 ∧ ldF info x.1 = (x.2.1 == 1) ∧ fkF info x.1 = (x.2.1 == 4):=by
 have hx:=List.mem_of_getElem? h
 have huniq:∀ y ∈ info,y.1 = x.1 → y = x:=by
  intro y hy e
  obtain ⟨q,hq⟩:=List.getElem?_of_mem hy
  obtain ⟨h1,h2⟩:=List.getElem?_eq_some_iff.1 hq
  obtain ⟨h3,h4⟩:=List.getElem?_eq_some_iff.1 h
  rcases Nat.lt_trichotomy q p with hlt|rfl|hlt
  ·exact absurd (by rw [List.getElem_map,List.getElem_map,h2,h4,e]) (List.pairwise_iff_getElem.1 hn q p (by rw [List.length_map];exact h1) (by rw [List.length_map];exact h3) hlt)
  ·exact h2.symm.trans h4
  ·exact absurd (by rw [List.getElem_map,List.getElem_map,h2,h4,e]) (List.pairwise_iff_getElem.1 hn p q (by rw [List.length_map];exact h3) (by rw [List.length_map];exact h1) hlt)
 refine ⟨?_,?_,?_⟩
 ·unfold rdF
  rw [Bool.eq_iff_iff]
  simp only [List.any_eq_true,Bool.and_eq_true,beq_iff_eq]
  constructor
  ·rintro ⟨y,hy,e,hk⟩
   rw [← huniq y hy e];exact hk
  ·intro hk;exact ⟨x,hx,rfl,hk⟩
 ·unfold ldF
  rw [Bool.eq_iff_iff]
  simp only [List.any_eq_true,Bool.and_eq_true,beq_iff_eq]
  constructor
  ·rintro ⟨y,hy,e,hk⟩
   rw [← huniq y hy e];exact hk
  ·intro hk;exact ⟨x,hx,rfl,hk⟩
 ·unfold fkF
  rw [Bool.eq_iff_iff]
  simp only [List.any_eq_true,Bool.and_eq_true,beq_iff_eq]
  constructor
  ·rintro ⟨y,hy,e,hk⟩
   rw [← huniq y hy e];exact hk
  ·intro hk;exact ⟨x,hx,rfl,hk⟩
theorem canB_ok (h:canB ops info = true):CanO ops (info.map (·.1)) (rdF info) (fkF info):=by
 obtain ⟨h1,h2,h3,h4,h5,h6,_⟩:=canB_parts h
 have at_:∀ (p i:Nat),(info.map (·.1))[p]? = some i → ∃ x:DI,info[p]? = some x ∧ x.1 = i:=fun p i hp=>by
  rw [List.getElem?_map] at hp
  cases hx:info[p]? with
  | none=>rw [hx] at hp;cases hp
  | some x=>rw [hx] at hp;exact ⟨x,rfl,Option.some.inj hp⟩
 have lt_:∀ (i:Nat) (o:Oper),ops[i]? = some o → i < ops.size:=fun i o ho=>(Array.getElem?_eq_some_iff.1 ho).1
 refine ⟨fun j=>⟨fun hj=>?_,h3 j⟩,h1,fun p i o hp ho j hj=>?_,fun p i hp hr hfk j oj hoj hjt hji=>?_,h4,fun i j oi oj d hi hj hr hd hne=>?_,fun i j oi oj d hi hj hr hd hl=>?_,fun i j oi oj d hi hj hr hd hl=>?_⟩
 ·obtain ⟨x,hx,rfl⟩:=List.mem_map.1 hj
  exact h2 x hx
 ·obtain ⟨x,hx,rfl⟩:=at_ p i hp
  have h7:=(goB_at info [] h6 p x hx).1
  unfold opB at h7
  rw [ho] at h7
  simp only [List.nil_append,Bool.and_eq_true,List.all_eq_true,List.contains_eq_mem,decide_eq_true_eq,Nat.blt_eq] at h7
  exact h7.1 j hj
 ·obtain ⟨x,hx,rfl⟩:=at_ p i hp
  have h7:=(goB_at info [] h6 p x hx).1
  have hk:(Nat.blt x.2.1 2 || x.2.1 == 4) = false:=by
   rw [(rdF_at h1 hx).1] at hr
   rw [(rdF_at h1 hx).2.2] at hfk
   rw [hr,hfk];rfl
  unfold opB at h7
  split at h7
  ·cases h7
  ·simp only [hk,List.nil_append,Bool.and_eq_true,List.all_eq_true,Bool.or_eq_true,List.mem_range,List.contains_eq_mem,decide_eq_true_eq,beq_iff_eq] at h7
   rcases h7.2 with h8|h8
   ·simp at h8
   ·rcases h8 j (lt_ j oj hoj) with (h9|h9)|h9
    ·exact absurd h9 hjt
    ·exact absurd h9 hji
    ·rw [hoj] at h9
     simp only [List.any_eq_true,Bool.not_eq_true',decide_eq_false_iff_not] at h9
     exact h9
 ·have h7:=h5 i j (lt_ i oi hi) (lt_ j oj hj)
  simp only [pairB,hi,hj,hd,hr,if_true,Bool.and_eq_true,Bool.or_eq_true,beq_iff_eq,bne_iff_ne] at h7
  rcases h7.1 with h8|h8
  ·exact absurd h8 hne
  ·exact h8
 ·have h7:=h5 i j (lt_ i oi hi) (lt_ j oj hj)
  simp only [pairB,hi,hj,hd,hr,if_true,Bool.and_eq_true,Bool.or_eq_true,Bool.not_eq_true',List.contains_eq_mem,decide_eq_false_iff_not,decide_eq_true_eq] at h7
  rcases h7.2 with h8|h8
  ·exact absurd hl h8
  ·exact h8
 ·have h7:=h5 i j (lt_ i oi hi) (lt_ j oj hj)
  simp only [pairB,hi,hj,hd,hr,Bool.false_eq_true,if_false,Bool.or_eq_true,Bool.not_eq_true',List.contains_eq_mem,decide_eq_false_iff_not,decide_eq_true_eq,beq_iff_eq] at h7
  rcases h7 with ((h8|h8)|h8)|h8
  ·exact absurd hl h8
  ·exact .inl h8
  ·exact .inr (.inl h8)
  ·exact .inr (.inr h8)
theorem canB_pend (h:canB ops info = true) {p:Nat} {x:DI} (hx:info[p]? = some x) (hk:Nat.blt x.2.1 2 = false) :
  ∀ i,i ∈ (info.map (·.1)).take p → rdF info i = true → ldF info i = true → i ∈ x.2.2 ∨ ∃ e,e ∈ (info.map (·.1)).take (p + 1) ∧ rdF info e = false ∧ Anc ops e i:=by
 obtain ⟨h1,h2,h3,h4,h5,h6,_⟩:=canB_parts h
 have h7:=(goB_at info [] h6 p x hx).2
 have hp:(info.map (·.1))[p]? = some x.1:=by rw [List.getElem?_map,hx];rfl
 intro i hi hr hl
 simp only [pendB,hk,List.nil_append,Bool.or_eq_true,List.all_eq_true] at h7
 rcases h7 with h8|h8
 ·simp at h8
 ·rcases h8 i hi with ((h9|h9)|h9)|h9
  ·rw [hr] at h9;simp at h9
  ·rw [hl] at h9;simp at h9
  ·exact .inl (by simpa using h9)
  ·simp only [List.any_eq_true,Bool.and_eq_true,Bool.not_eq_true',List.contains_eq_mem,decide_eq_true_eq] at h9
   obtain ⟨e,he,he1,he2⟩:=h9
   refine .inr ⟨e,(take_succ_mem hp).2 ?_,he1,reachOf_anc he2⟩
   rcases List.mem_cons.1 he with rfl|he
   ·exact .inr rfl
   ·exact .inl he
end
abbrev Md:=Option (List DI × List DI)
def Md.tl:Md → Md
 | none=>none
 | some (info,r)=>some (info,r.tail)
def Md.rd (p:Bool):Md → Bool
 | none=>true
 | some (_,(_,k,_) :: _)=>if p then Nat.blt k 2 else k == 1
 | some (_,[])=>false
def Md.eff:Md → Bool
 | none=>true
 | some (_,(_,k,_) :: _)=>k == 2 || k == 3
 | some (_,[])=>false
def Md.pend:Md → List Nat
 | none=>[]
 | some (_,(_,_,p) :: _)=>p
 | some (_,[])=>[]
def fixR:List DI → List DI
 | (i,3,p) :: r=>(i,4,p) :: r
 | r=>r
def isStep:List DI → Bool
 | (_,3,_) :: _=>true
 | _=>false
theorem fixR_of {i k:Nat} {p:List Nat} {r:List DI} (h:k ≠ 3):fixR ((i,k,p) :: r) = (i,k,p) :: r ∧ isStep ((i,k,p) :: r) = false:=by
 constructor
 ·unfold fixR;split
  ·rename_i e;simp only [List.cons.injEq,Prod.mk.injEq] at e;exact absurd e.1.2.1 h
  ·rfl
 ·unfold isStep;split
  ·rename_i e;simp only [List.cons.injEq,Prod.mk.injEq] at e;exact absurd e.1.2.1 h
  ·rfl
section
variable (P:Program) (N:Fi) (B:Base) (Q:Exit → Act → World → Prop) (ops:Array Oper)
def Ops (m:Md) (l:List Oper) (T:Tm) (A:List Blk):Prop :=
 match m with
 | none=>∀ a w,Fr N T a → Sat B A w → wpListIn (fen B) 0 P ops Q l a w
 | some (info,rest)=>canB ops info = true → rest.length = l.length → fixR rest = info.drop (info.length - rest.length) → rest.length ≤ info.length →
  if isStep rest then DStep P N B Q ops (info.map (·.1)) (rdF info) (ldF info) l T A else DSem P N B Q ops (info.map (·.1)) (rdF info) (ldF info) l T A
def Still (T:Tm) (A:List Blk) (i:Nat):Prop :=
 ∃ oi d u,ops[i]? = some oi ∧ oi.dst = some d ∧ look T d = some u ∧ ∀ a w,Fr N T a → Sat B A w → Steps1 P ops oi a w u
end
def gst (ops:Array Oper) (T:Tm):Option (Nat × Bool) → Option Bool
 | none=>some true
 | some (j,want)=>match (ops[j]?).bind (·.dst) with
  | none=>none
  | some dj=>match look T dj with
   | some (.bool b)=>some (b == want)
   | _=>none
section
variable {P:Program} {N:Fi} {B:Base} {Q:Exit → Act → World → Prop} {T:Tm} {A:List Blk} {ops:Array Oper} {l:List Oper} {m:Md} {o:Oper}
theorem gst_wanted {b:Bool} {a:Act} (hF:Fr N T a) (h:gst ops T o.guard = some b):Region.wanted o (yielded ops a.tmps) = b:=by
 unfold Region.wanted
 cases hg:o.guard with
 | none=>rw [hg] at h;simpa [gst] using h
 | some p =>
  obtain ⟨j,want⟩:=p
  rw [hg] at h
  simp only [gst] at h
  split at h
  ·cases h
  ·rename_i dj hdj
   split at h
   ·rename_i c hc
    simp only [Option.some.injEq] at h
    have:yielded ops a.tmps j = some c:=by
     unfold yielded
     rw [hdj]
     simp [hF.get _ _ hc]
    simp [this,← h]
   ·cases h
theorem info_at {info rest:List DI} {x:DI} (h1:rest.length + 1 ≤ info.length) (h:x :: rest = info.drop (info.length - (rest.length + 1))) :
  info[info.length - (rest.length + 1)]? = some x ∧ rest = info.drop (info.length - rest.length):=by
 have hlt:info.length - (rest.length + 1) < info.length:=by omega
 rw [List.drop_eq_getElem_cons hlt] at h
 injection h with h2 h3
 refine ⟨by rw [List.getElem?_eq_getElem hlt,h2],?_⟩
 rw [h3]
 congr 1
 simp
 omega
theorem suffix_ok {info rest:List DI} {n:Nat} (hc:canB ops info = true) (h:rest = info.drop n):isStep rest = false ∧ fixR rest = rest:=by
 cases rest with
 | nil=>exact ⟨rfl,rfl⟩
 | cons x r =>
  obtain ⟨i,k,p⟩:=x
  have hm:(i,k,p) ∈ info:=by
   have:(i,k,p) ∈ info.drop n:=by rw [← h];exact List.mem_cons_self ..
   exact List.mem_of_mem_drop this
  have h3:=(canB_parts hc).2.2.2.2.2.2 _ hm
  exact ⟨(fixR_of h3).2,(fixR_of h3).1⟩
theorem Ops.rdG (p:Bool) (hm:m.rd p = true) {d:Nat} {v:Value} (hd:o.dst = some d) (hN:Nat.blt d N.n = true)
  (hst:∀ a w,Fr N T a → (p = true ∨ Sat B A w) → Steps1 P ops o a w v) (k:Ops P N B Q ops m.tl l ((d,v) :: T) A):Ops P N B Q ops m (o :: l) T A:=by
 match m,hm,k with
 | none,_,k =>
  intro a w hF hS
  unfold wpListIn
  rcases hst a w hF (.inr hS) with ⟨hw,hr⟩|⟨hw,hv⟩
  ·rw [if_pos hw]
   unfold Oper.wpIn
   refine ⟨fun _ _=>trivial,?_⟩
   rw [semAt_of_value hr,hr,Oper.uponIn_value,hd]
   exact k _ _ (hF.put hN v) hS
  ·rw [if_neg (by rw [hw];simp),hd,← hv]
   exact ⟨fun _ _=>trivial,k _ _ (hF.put hN v) hS⟩
 | some (info,(i,kd,pd) :: rest),hm,k =>
  intro hc hlen hdr hle
  have h3:kd ≠ 3:=fun e=>by
   subst e
   simp only [Md.rd] at hm
   cases p <;> simp at hm
  rw [(fixR_of h3).2,if_neg (by simp)]
  rw [(fixR_of h3).1] at hdr
  simp only [List.length_cons,Nat.add_right_cancel_iff] at hlen hdr hle
  obtain ⟨hx,hdr'⟩:=info_at hle hdr
  obtain ⟨hs1,hs2⟩:=suffix_ok hc hdr'
  have k':if isStep rest then DStep P N B Q ops (info.map (·.1)) (rdF info) (ldF info) l ((d,v) :: T) A else DSem P N B Q ops (info.map (·.1)) (rdF info) (ldF info) l ((d,v) :: T) A:=k hc hlen (by show fixR rest = _;rw [hs2];exact hdr') (by show rest.length ≤ _;omega)
  rw [hs1,if_neg (by simp)] at k'
  refine DSem.read (canB_ok hc) p (fun i' hi=>?_) hd hN hst k'
  rw [List.getElem?_map,List.length_map,← hlen,hx] at hi
  obtain rfl:i = i':=Option.some.inj hi
  obtain ⟨h1,h2,_⟩:=rdF_at (canB_parts hc).1 hx
  rw [h1,h2]
  simp only [Md.rd] at hm
  cases p with
  | true=>exact ⟨by simpa using hm,.inl rfl⟩
  | false =>
   simp only [Bool.false_eq_true,if_false,beq_iff_eq] at hm
   subst hm
   exact ⟨rfl,.inr rfl⟩
theorem Ops.effE {EP:Result Next → Prop} (hm:m.eff = true) (hN:∀ d,o.dst = some d → Nat.blt d N.n = true) {R:Value → List Blk → Prop}
  (hEP:∀ (a:Act) (w:World) (K:Act → World → Prop),Fr N [] a → EP ((execOp a.eval o).run P w) → (∀ v A' w',R v A' → Sat B A' w' → K (a.put o.dst v) w') → o.wpIn (fen B) 0 P a w K Q)
  (he:∀ a w,Fr N T a → Sat B A w → (Region.wanted o (yielded ops a.tmps) = true ∧ EP ((execOp a.eval o).run P w)) ∨ (Region.wanted o (yielded ops a.tmps) = false ∧ ∃ A',R undef A' ∧ Sat B A' w))
  (hs:∀ v A',R v A' → ∀ i ∈ m.pend,Still P N B ops (putT o.dst v T) A' i) (k:∀ v A',R v A' → Ops P N B Q ops m.tl l (putT o.dst v T) A'):Ops P N B Q ops m (o :: l) T A:=by
 match m,hm,hs,k with
 | none,_,_,k =>
  intro a w hF hS
  unfold wpListIn
  rcases he a w hF hS with ⟨hw,hp⟩|⟨hw,A',hR,hS'⟩
  ·rw [if_pos hw]
   exact hEP a w _ ⟨hF.size,hF.dfr,fun i v h=>by cases h⟩ hp fun v A' w' hR hS'=>k v A' hR _ _ (hF.putT hN v) hS'
  ·rw [if_neg (by rw [hw];simp)]
   exact ⟨fun _ _=>trivial,k _ A' hR _ _ (hF.putT hN undef) hS'⟩
 | some (info,(i,kd,pd) :: rest),hm,hs,k =>
  intro hc hlen hdr hle
  simp only [List.length_cons,Nat.add_right_cancel_iff] at hlen hle
  simp only [Md.eff,Bool.or_eq_true,beq_iff_eq] at hm
  obtain ⟨kd',hx,hk2,hdr'⟩:∃ kd',info[info.length - (rest.length + 1)]? = some (i,kd',pd) ∧ Nat.blt kd' 2 = false ∧ rest = info.drop (info.length - rest.length):=by
   rcases hm with rfl|rfl
   ·rw [(fixR_of (by decide)).1] at hdr
    simp only [List.length_cons] at hdr
    obtain ⟨h1,h2⟩:=info_at hle hdr
    exact ⟨2,h1,rfl,h2⟩
   ·simp only [fixR,List.length_cons] at hdr
    obtain ⟨h1,h2⟩:=info_at hle hdr
    exact ⟨4,h1,rfl,h2⟩
  obtain ⟨hs1,hs2⟩:=suffix_ok hc hdr'
  have hrd:∀ i',(info.map (·.1))[(info.map (·.1)).length - (l.length + 1)]? = some i' → rdF info i' = false ∧ fkF info i' = (kd' == 4):=fun i' hi=>by
   rw [List.getElem?_map,List.length_map,← hlen,hx] at hi
   obtain rfl:=Option.some.inj hi
   obtain ⟨h1,_,h2⟩:=rdF_at (canB_parts hc).1 hx
   rw [h1,h2]
   exact ⟨hk2,rfl⟩
  have step:DStep P N B Q ops (info.map (·.1)) (rdF info) (ldF info) (o :: l) T A:=by
   refine DStep.effE (canB_ok hc) (pend:=pd) hEP (fun i hi=>(hrd i hi).1) hN ?_ he (fun v A' hR=>⟨hs v A' hR,?_⟩)
   ·have:=canB_pend hc hx hk2
    rw [List.length_map,← hlen,show info.length - rest.length = info.length - (rest.length + 1) + 1 from by omega]
    exact this
   ·have k':if isStep rest then DStep P N B Q ops (info.map (·.1)) (rdF info) (ldF info) l (putT o.dst v T) A' else DSem P N B Q ops (info.map (·.1)) (rdF info) (ldF info) l (putT o.dst v T) A':=k v A' hR hc hlen (by show fixR rest = _;rw [hs2];exact hdr') (by show rest.length ≤ _;omega)
    rw [hs1,if_neg (by simp)] at k'
    exact k'
  rcases hm with rfl|rfl
  ·rw [(fixR_of (by decide)).2,if_neg (by simp)]
   rw [(fixR_of (by decide)).1] at hdr
   simp only [List.length_cons] at hdr
   have hx2:=(info_at hle hdr).1
   rw [hx] at hx2
   injection hx2 with hx2
   injection hx2 with _ hx2
   injection hx2 with hx2
   subst hx2
   exact DSem.of_step (canB_ok hc) hrd step
  ·exact step
theorem Ops.effG (hm:m.eff = true) (hN:∀ d,o.dst = some d → Nat.blt d N.n = true) {R:Value → List Blk → Prop}
  (he:∀ a w,Fr N T a → Sat B A w → (Region.wanted o (yielded ops a.tmps) = true ∧ effPost P B R ((execOp a.eval o).run P w)) ∨ (Region.wanted o (yielded ops a.tmps) = false ∧ ∃ A',R undef A' ∧ Sat B A' w))
  (hs:∀ v A',R v A' → ∀ i ∈ m.pend,Still P N B ops (putT o.dst v T) A' i) (k:∀ v A',R v A' → Ops P N B Q ops m.tl l (putT o.dst v T) A'):Ops P N B Q ops m (o :: l) T A :=
 Ops.effE (EP:=effPost P B R) hm hN (fun a w K _ hp hK=>wp_of_effPost hp hK) he hs k
theorem Ops.nilN (h:∀ a w,Fr N T a → Sat B A w → Q .normal a w):Ops P N B Q ops m [] T A:=by
 match m with
 | none=>exact fun a w hF hS=>wpListIn_nil (h a w hF hS)
 | some (info,[])=>exact fun hc _ _ _=>DSem.nil (canB_ok hc) h
 | some (info,_ :: _)=>exact fun _ hl _ _=>by cases hl
theorem Ops.nil {y:Code} {Q':Exit → Act → World → Prop} (h:Cd P N B Q y T A):Ops P N B (Exit.then (fun a w=>y.wpIn (fen B) 0 P Q a w) Q') ops m [] T A:=Ops.nilN h
theorem Cd.reg {id:Nat} {l:List Oper} (h:Ops P N B Q l.toArray none l T A):Cd P N B Q (.region id l.toArray false) T A :=
 fun a w hF hS=>wpIn_region_lit (h a w hF hS)
def nth:List Oper → Nat → Option Oper
 | [],_=>none
 | x :: _,0=>some x
 | _ :: xs,n + 1=>nth xs n
theorem nth_eq:∀ (l:List Oper) (n:Nat),nth l n = l[n]?
 | [],n=>by simp [nth]
 | x :: xs,0=>by simp [nth]
 | x :: xs,n + 1=>by simp [nth,nth_eq xs n]
def picked (l:List Oper):List DI → List Oper
 | []=>[]
 | x :: r=>match nth l x.1 with
  | some o=>o :: picked l r
  | none=>picked l r
theorem picked_map {l:List Oper}:∀ {r:List DI},(∀ x ∈ r,x.1 < l.length) → (picked l r).map some = (r.map (·.1)).map (l.toArray[·]?) ∧ (picked l r).length = r.length
 | [],_=>by simp [picked]
 | x :: r,h=>by
  have hx:=h x (List.mem_cons_self ..)
  obtain ⟨h1,h2⟩:=picked_map (l:=l) (r:=r) fun y hy=>h y (List.mem_cons_of_mem _ hy)
  simp only [picked,nth_eq,List.getElem?_eq_getElem hx,List.map_cons,List.length_cons,h1,h2]
  simp [hx]
theorem getD_repl (m j:Nat):(Array.replicate m false).getD j false = false:=by
 rcases Nat.lt_or_ge j m with h|h
 ·simp [h]
 ·simp [h]
theorem Cd.draw {id:Nat} {l:List Oper} (info:List DI) (hmix:P.follows .mixedOrders = true) (hc:canB l.toArray info = true) {l':List Oper} (hl:picked l info = l')
  (h:Ops P N B Q l.toArray (some (info,info)) l' T A):Cd P N B Q (.region id l.toArray true) T A:=by
 intro a w hF hS
 refine wpIn_region_any hmix ?_
 obtain ⟨h1,h2,h3,h4,h5,h6,h73⟩:=canB_parts hc
 obtain ⟨e1,e2⟩:=picked_map (l:=l) (r:=info) fun x hx=>by simpa using h2 x hx
 rw [hl] at e1 e2
 have hlen:info.length = l.length:=by
  have hsub:∀ x ∈ info.map (·.1),x ∈ List.range l.length:=fun x hx=>by
   obtain ⟨y,hy,rfl⟩:=List.mem_map.1 hx
   simpa using h2 y hy
  have hsup:∀ x ∈ List.range l.length,x ∈ info.map (·.1):=fun x hx=>h3 x (by simpa using hx)
  have:=((List.perm_ext_iff_of_nodup h1 List.nodup_range).2 fun x=>⟨hsub x,hsup x⟩).length_eq
  simpa using this
 obtain ⟨hs1,hs2⟩:=suffix_ok (rest:=info) (n:=0) hc rfl
 have h':if isStep info then DStep P N B Q l.toArray (info.map (·.1)) (rdF info) (ldF info) l' T A else DSem P N B Q l.toArray (info.map (·.1)) (rdF info) (ldF info) l' T A:=h hc e2.symm (by rw [hs2];simp) (Nat.le_refl _)
 rw [hs1,if_neg (by simp)] at h'
 have key:=h' (by simp [e2]) (by rw [List.length_map,e2];simpa using e1) [] a { w with drawn:=w.drawn + 1 } (Array.replicate l.toArray.size false) (by simp) (by simp) (by simp) hF (hS.drewAt _)
  (by simp) (by simp) (fun j hj=>by rw [getD_repl];simp [e2]) (fun j o _ hj=>by rw [getD_repl] at hj;cases hj)
 rw [show l.toArray.size = l'.length + ([]:List Lg).length from by simp [e2,hlen]]
 rw [show l.toArray.size = l'.length + ([]:List Lg).length from by simp [e2,hlen]] at key
 exact key
end
def alikeB (x y:DI):Bool:=y.1 == x.1 && (Nat.blt y.2.1 2 == Nat.blt x.2.1 2) && ((y.2.1 == 1) == (x.2.1 == 1))
def forkB (ops:Array Oper) (info info2:List DI) (n:Nat):Bool :=
 canB ops info2 && info2.length == info.length && (info2.map (·.1)).take n == (info.map (·.1)).take n &&
 (info.all fun x=>info2.any fun y=>alikeB x y) && (info2.all fun x=>info.any fun y=>alikeB x y) &&
 (match info[n]?,info2[n]? with
 | some x,some y=>(List.range ops.size).all fun j=>((info.map (·.1)).take n).contains j || j == x.1 || j == y.1 || (match ops[j]? with
  | some oj=>(bdeps oj).any fun z=>!((info.map (·.1)).take n).contains z
  | none=>true)
 | _,_=>false)
theorem alike_le {info info2:List DI} (h:(info.all fun x=>info2.any fun y=>alikeB x y) = true) (j:Nat):(rdF info j = true → rdF info2 j = true) ∧ (ldF info j = true → ldF info2 j = true):=by
 simp only [List.all_eq_true,List.any_eq_true,alikeB,Bool.and_eq_true,beq_iff_eq] at h
 constructor
 ·intro hr
  unfold rdF at hr ⊢
  simp only [List.any_eq_true,Bool.and_eq_true,beq_iff_eq] at hr ⊢
  obtain ⟨x,hx,e,hk⟩:=hr
  obtain ⟨y,hy,⟨h1,h2⟩,h3⟩:=h x hx
  exact ⟨y,hy,h1.trans e,by rw [h2];exact hk⟩
 ·intro hr
  unfold ldF at hr ⊢
  simp only [List.any_eq_true,Bool.and_eq_true,beq_iff_eq] at hr ⊢
  obtain ⟨x,hx,e,hk⟩:=hr
  obtain ⟨y,hy,⟨h1,h2⟩,h3⟩:=h x hx
  have:(x.2.1 == 1) = true:=by simpa using hk
  rw [this] at h3
  exact ⟨y,hy,h1.trans e,by simpa using h3⟩
section
variable {P:Program} {N:Fi} {B:Base} {Q:Exit → Act → World → Prop} {T:Tm} {A:List Blk} {ops:Array Oper}
theorem Ops.fork {info info2:List DI} {i i2:Nat} {pd pd2:List Nat} {r r2:List DI} {o o2:Oper} {l l2:List Oper} (hf:forkB ops info info2 (info.length - (r.length + 1)) = true) (hd2:(i2,4,pd2) :: r2 = info2.drop (info.length - (r.length + 1)))
  (hl2:(o2 :: l2).map some = (((i2,4,pd2) :: r2).map (·.1)).map (ops[·]?))
  (h1:Ops P N B Q ops (some (info,(i,3,pd) :: r)) (o :: l) T A) (h2:Ops P N B Q ops (some (info2,(i2,3,pd2) :: r2)) (o2 :: l2) T A):Ops P N B Q ops (some (info,(i,4,pd) :: r)) (o :: l) T A:=by
 intro hc hlen hdr hle
 rw [(fixR_of (by decide)).2,if_neg (by simp)]
 rw [(fixR_of (by decide)).1] at hdr
 simp only [List.length_cons,Nat.add_right_cancel_iff] at hlen hdr hle
 obtain ⟨hx,hdr'⟩:=info_at hle hdr
 unfold forkB at hf
 simp only [Bool.and_eq_true,beq_iff_eq] at hf
 obtain ⟨⟨⟨⟨⟨hc2,hlen2⟩,htk⟩,ha1⟩,ha2⟩,hrd⟩:=hf
 obtain ⟨n,hn⟩:∃ n,n = info.length - (r.length + 1):=⟨_,rfl⟩
 rw [← hn] at hx hdr htk hrd hd2
 have erd:rdF info2 = rdF info:=funext fun j=>Bool.eq_iff_iff.2 ⟨(alike_le ha2 j).1,(alike_le ha1 j).1⟩
 have eld:ldF info2 = ldF info:=funext fun j=>Bool.eq_iff_iff.2 ⟨(alike_le ha2 j).2,(alike_le ha1 j).2⟩
 have hr2:r2.length + 1 = info2.length - n:=by have:=congrArg List.length hd2;simpa using this
 have hll2:l2.length = r2.length:=by have:=congrArg List.length hl2;simpa using this
 have hlt:n < info.length:=by omega
 have hx2:info2[n]? = some (i2,4,pd2):=by
  rw [List.drop_eq_getElem_cons (by omega)] at hd2
  injection hd2 with e1 e2
  rw [List.getElem?_eq_getElem (by omega),e1]
 have hi:(info.map (·.1))[n]? = some i:=by rw [List.getElem?_map,hx];rfl
 have hi2:(info2.map (·.1))[n]? = some i2:=by rw [List.getElem?_map,hx2];rfl
 rw [hx,hx2] at hrd
 simp only [List.all_eq_true,List.mem_range,Bool.or_eq_true,List.contains_eq_mem,decide_eq_true_eq,beq_iff_eq] at hrd
 have s1:DStep P N B Q ops (info.map (·.1)) (rdF info) (ldF info) (o :: l) T A:=h1 hc (by simp [hlen]) (by show (i,4,pd) :: r = _;rw [List.length_cons,← hn];exact hdr) (by simp only [List.length_cons];omega)
 have s2:DStep P N B Q ops (info2.map (·.1)) (rdF info2) (ldF info2) (o2 :: l2) T A:=h2 hc2 (by simp [hll2]) (by show (i2,4,pd2) :: r2 = _;rw [List.length_cons,show info2.length - (r2.length + 1) = n from by omega];exact hd2) (by simp only [List.length_cons];omega)
 rw [erd,eld] at s2
 have hkn:n = (info.map (·.1)).length - (l.length + 1):=by rw [List.length_map];omega
 refine DSem.of_fork (canB_ok hc) hkn hi (by rw [(rdF_at (canB_parts hc).1 hx).1];rfl) (j2:=fun j=>j = i2) (fun j oj hoj hjt hji hj2=>?_) s1 (fun j hj hji U a w listed hpl hU hnd hF hS hlag hsz hl hcl hjr=>?_)
 ·rcases hrd j (Array.getElem?_eq_some_iff.1 hoj).1 with ((h|h)|h)|h
  ·exact absurd h hjt
  ·exact absurd h hji
  ·exact absurd h hj2
  ·rw [hoj] at h
   simp only [List.any_eq_true,Bool.not_eq_true',decide_eq_false_iff_not] at h
   exact h
 ·subst hj
  have hk2:(info2.map (·.1)).length - (o2 :: l2).length = n:=by rw [List.length_map,List.length_cons];omega
  have key:=s2 (by rw [List.length_map,List.length_cons];omega) (by
    rw [hk2,hl2,hd2,List.map_drop]) U a w listed j (by rw [hk2];exact hi2) hpl (by rw [hk2,htk];exact hU) hnd hF hS hlag hsz (by rw [hk2,htk];exact hl) hcl hjr
  rw [List.length_cons,Nat.add_sub_cancel,show l2.length = l.length from by omega] at key
  exact key
theorem Ops.fork' {l0:List Oper} {info:List DI} (info2:List DI) {i i2:Nat} {pd pd2:List Nat} {r r2:List DI} {o o2:Oper} {l l2:List Oper} (hf:forkB l0.toArray info info2 (info.length - (r.length + 1)) = true) (hd2:(i2,4,pd2) :: r2 = info2.drop (info.length - (r.length + 1)))
  (hl2:picked l0 ((i2,4,pd2) :: r2) = o2 :: l2)
  (h1:Ops P N B Q l0.toArray (some (info,(i,3,pd) :: r)) (o :: l) T A) (h2:Ops P N B Q l0.toArray (some (info2,(i2,3,pd2) :: r2)) (o2 :: l2) T A):Ops P N B Q l0.toArray (some (info,(i,4,pd) :: r)) (o :: l) T A:=by
 refine Ops.fork hf hd2 ?_ h1 h2
 unfold forkB at hf
 simp only [Bool.and_eq_true] at hf
 have hc2:=hf.1.1.1.1.1
 have:=(picked_map (l:=l0) (r:=(i2,4,pd2) :: r2) fun x hx=>by
  have h3:x ∈ info2:=by rw [hd2] at hx;exact List.mem_of_mem_drop hx
  simpa using (canB_parts hc2).2.1 x h3).1
 rw [hl2] at this
 exact this
end
end Go.Sep
