import Derived.Test.YtaecdnfkcebbeaaGreatA05
set_option linter.unusedVariables false
set_option linter.unusedSimpArgs false
namespace Go.Sep
open Go
theorem Sat.split {B:Base} {A A1:List Blk} {F:List Blk} [h:Split A A1 F] {w:World} (hS:Sat B A w):Sat B A1 w:=(hS.perm h.perm).left
def RowsOk (sz:Nat) (rows:List (List Value)):Prop:=∀ r ∈ rows,r.length = sz ∧ oneAll r = true
theorem RowsOk.len {sz:Nat}:∀ {rows:List (List Value)},RowsOk sz rows → rows.flatten.length = rows.length * sz
 | [],_=>by simp
 | r :: rows,h=>by
  have h1:=(h r (List.mem_cons_self ..)).1
  have h2:=RowsOk.len (rows:=rows) fun x hx=>h x (List.mem_cons_of_mem _ hx)
  simp [h1,h2,Nat.add_mul,Nat.add_comm]
theorem RowsOk.at_ {sz:Nat}:∀ {rows:List (List Value)},RowsOk sz rows → ∀ {i k:Nat} {r:List Value},rows[i]? = some r → k < sz → rows.flatten[i * sz + k]? = r[k]?
 | [],_,i,k,r,hi,_=>by simp at hi
 | x :: rows,h,0,k,r,hi,hk=>by
  simp only [List.getElem?_cons_zero,Option.some.injEq] at hi
  subst hi
  have:=(h x (List.mem_cons_self ..)).1
  simp only [List.flatten_cons,Nat.zero_mul,Nat.zero_add]
  rw [List.getElem?_append_left (by omega)]
 | x :: rows,h,i + 1,k,r,hi,hk=>by
  have h1:=(h x (List.mem_cons_self ..)).1
  have ih:=RowsOk.at_ (rows:=rows) (fun y hy=>h y (List.mem_cons_of_mem _ hy)) (i:=i) (k:=k) (r:=r) (by simpa using hi) hk
  simp only [List.flatten_cons]
  rw [List.getElem?_append_right (by rw [h1,Nat.add_mul];omega),h1,show (i + 1) * sz + k - sz = i * sz + k from by rw [Nat.add_mul];omega]
  exact ih
theorem RowsOk.app {sz:Nat} {a b:List (List Value)} (ha:RowsOk sz a) (hb:RowsOk sz b):RowsOk sz (a ++ b):=fun r hr=>by
 rcases List.mem_append.1 hr with h|h
 ·exact ha r h
 ·exact hb r h
theorem RowsOk.one {sz:Nat} {r:List Value} (h:r.length = sz) (h1:oneAll r = true):RowsOk sz [r]:=fun x hx=>by
 rw [List.mem_singleton.1 hx];exact ⟨h,h1⟩
theorem RowsOk.nil {sz:Nat}:RowsOk sz []:=fun _ h=>by cases h
def Own (E sz:Nat) (sv:Value) (rows:List (List Value)) (G:List Blk):Prop :=
 RowsOk sz rows ∧ ((sv = .slice none 0 0 ∧ rows = [] ∧ G = []) ∨
  ∃ g c spare,sv = .slice (some ⟨g,0,none⟩) rows.length c ∧ G = [(g,cl (rows.flatten ++ spare) E)] ∧ rows.flatten.length + spare.length = c * sz ∧ rows.length ≤ c)
theorem Own.none {E sz:Nat}:Own E sz (.slice none 0 0) [] []:=⟨RowsOk.nil,.inl ⟨rfl,rfl,rfl⟩⟩
theorem Own.form {E sz:Nat} {sv:Value} {rows:List (List Value)} {G:List Blk} (h:Own E sz sv rows G):∃ a c,sv = .slice a rows.length c:=by
 rcases h.2 with ⟨rfl,rfl,_⟩|⟨g,c,_,rfl,_⟩
 ·exact ⟨_,_,rfl⟩
 ·exact ⟨_,_,rfl⟩
theorem Own.some_ {E sz:Nat} {sv:Value} {rows:List (List Value)} {G:List Blk} (h:Own E sz sv rows G) (hn:0 < rows.length) :
  ∃ g c spare,sv = .slice (some ⟨g,0,.none⟩) rows.length c ∧ G = [(g,cl (rows.flatten ++ spare) E)] ∧ rows.flatten.length + spare.length = c * sz ∧ rows.length ≤ c:=by
 rcases h.2 with ⟨_,rfl,_⟩|h
 ·simp at hn
 ·exact h
section
variable {P:Program} {N:Fi} {B:Base} {Q:Exit → Act → World → Prop} {T:Tm} {A:List Blk} {ops:Array Oper} {l:List Oper}
variable {d:Nat} {ty:TypeId} {pos:String} {af:Array Edge} {m:Md} {gd:Option (Nat × Bool)}
theorem Ops.ldRow {t:TypeId} {x:Operand} {b i:Nat} {sz bs:Nat} {zc r:List Value} {rows:List (List Value)} {spare:List Value} {E:TypeId} (hm:m.rd false = true) (hg:gst ops T gd = some true) [ht:Ty P t true sz bs zc]
  (hx:ev T x = some (.pointer (some ⟨b,i * sz,none⟩))) [hb:Has A b (cl (rows.flatten ++ spare) E)] (hr:RowsOk sz rows) (hi:rows[i]? = some r) (hd:Nat.blt d N.n = true)
  (k:Ops P N B Q ops m.tl l ((d,.agg r.toArray) :: T) A):Ops P N B Q ops m (⟨some d,.load t x,ty,pos,af,gd⟩ :: l) T A :=
 Ops.readV hm hg hd (fun a w hF hS=>by
  have hl:=(hr r (List.mem_of_getElem? hi)).1
  simp [execOp,hF.eval hx,run_loadAtN ht hl (fun j u hu=>by
   have hj:j < sz:=by rw [← hl];exact (List.getElem?_eq_some_iff.1 hu).1
   have h1:=hr.at_ hi hj
   rw [cell_of (hS.here _ hb.mem),List.getElem?_append_left (List.getElem?_eq_some_iff.1 (h1.trans hu)).1,h1,hu])]) k
theorem Ops.ldRow1 {t:TypeId} {x:Operand} {b i o:Nat} {sz sz' bs:Nat} {zc r:List Value} {rows:List (List Value)} {spare:List Value} {E:TypeId} {v:Value} (hm:m.rd false = true) (hg:gst ops T gd = some true) [ht:Ty P t false sz' bs zc]
  (hx:ev T x = some (.pointer (some ⟨b,i * sz + o,none⟩))) [hb:Has A b (cl (rows.flatten ++ spare) E)] (hr:RowsOk sz rows) (hi:rows[i]? = some r) (hv:r[o]? = some v) (hd:Nat.blt d N.n = true)
  (k:Ops P N B Q ops m.tl l ((d,v) :: T) A):Ops P N B Q ops m (⟨some d,.load t x,ty,pos,af,gd⟩ :: l) T A :=
 Ops.readV hm hg hd (fun a w hF hS=>by
  have hl:=(hr r (List.mem_of_getElem? hi)).1
  have ho:o < sz:=by rw [← hl];exact (List.getElem?_eq_some_iff.1 hv).1
  have h1:=hr.at_ hi ho
  have hc:w.cell? ⟨b,i * sz + o,none⟩ = some v:=by
   rw [cell_of (hS.here _ hb.mem),List.getElem?_append_left (List.getElem?_eq_some_iff.1 (h1.trans hv)).1,h1,hv]
  simp [execOp,hF.eval hx,run_loadAt1 ht hc]) k
end
theorem ins_app (a s n:List Value):ins (a ++ s) a.length n = a ++ n ++ s.drop n.length:=by
 simp [ins,List.drop_append]
section
variable {P:Program} {B:Base}
theorem run_firstCells {w:World} {g size n:Nat} {l:List Value} {E:TypeId} {a:Value} {len cap:Nat} (ha:a = .slice (some ⟨g,0,none⟩) len cap) (hb:w.heap[g]? = some (cl l E)) (hn:n * size ≤ l.length) :
  (Builtin.firstCells size n a).run P w = .ok (l.take (n * size)).toArray w:=by
 subst ha
 simp only [Builtin.firstCells]
 exact run_loadCells (by simp;omega) fun j u hu=>by
  have hj:j < n * size:=by
   have:=(List.getElem?_eq_some_iff.1 hu).1
   simp at this;omega
  rw [List.getElem?_take_of_lt hj] at hu
  rw [cell_of hb]
  simpa using hu
theorem nextcap_le {need c:Nat} (h:c < need):Builtin.nextslicecap need c ≤ need + need / 4 + 512:=by
 unfold Builtin.nextslicecap
 split
 ·omega
 ·split
  ·omega
  ·have hg:∀ (r c:Nat),c ≤ need + (need + 768) / 4 → Builtin.growBy need r c ≤ need + (need + 768) / 4:=by
    intro r
    induction r with
    | zero=>intro c hc;simpa [Builtin.growBy] using hc
    | succ r ih =>
     intro c hc
     simp only [Builtin.growBy]
     split
     ·exact hc
     ·rename_i hlt
      exact ih _ (by omega)
   have:=hg 4 c (by omega)
   omega
theorem effPost_mono {R R':Value → List Blk → Prop} {r:Result Next} (h:effPost P B R r) (hr:∀ v A',R v A' → ∃ A'',R' v A'' ∧ ∀ w,Sat B A' w → Sat B A'' w):effPost P B R' r:=by
 cases r with
 | ok n w =>
  cases n <;> simp only [effPost] at h ⊢
  case value v=>obtain ⟨A',h1,h2⟩:=h;obtain ⟨A'',h3,h4⟩:=hr _ _ h1;exact ⟨A'',h3,h4 _ h2⟩
  case skip=>obtain ⟨A',h1,h2⟩:=h;obtain ⟨A'',h3,h4⟩:=hr _ _ h1;exact ⟨A'',h3,h4 _ h2⟩
  case enter f args=>exact h.mono fun e w' ⟨v,A',he,h1,h2⟩=>by obtain ⟨A'',h3,h4⟩:=hr _ _ h1;exact ⟨v,A'',he,h3,h4 _ h2⟩
  case round l f tmps assign body=>exact h.mono fun e w' ⟨v,A',he,h1,h2⟩=>by obtain ⟨A'',h3,h4⟩:=hr _ _ h1;exact ⟨v,A'',he,h3,h4 _ h2⟩
 | halt x w=>simp only [effPost] at h
theorem _root_.Go.Sep.Sat.tail {p:Blk} {A:List Blk} {w:World} (h:Sat B (p :: A) w):Sat B A w:=Sat.right (A:=[p]) h
def AppR (E sz:Nat) (rows news:List (List Value)) (F:List Blk):Value → List Blk → Prop :=
 fun v X=>∃ G,Own E sz v (rows ++ news) G ∧ X = G ++ F
theorem run_append {w:World} {t ty e sz bs:Nat} {ge:Bool} {zc:List Value} (ht:TyD P t (.slice e)) (he:Ty P e ge sz bs zc) (hzc:zc.length = sz)
  {sv xv:Value} {rows news:List (List Value)} {G F:List Blk} (hS:Sat B (G ++ F) w) (hown:Own e sz sv rows G) (hnew:RowsOk sz news)
  (hlen:(Builtin.lenOf xv).run P w = .ok news.length w) (hx:(Builtin.firstCells sz news.length xv).run P w = .ok news.flatten.toArray w) (hx':∀ w',Sat B (G ++ F) w' → (Builtin.firstCells sz news.length xv).run P w' = .ok news.flatten.toArray w')
  (hbytes:(rows.length + news.length + (rows.length + news.length) / 4 + 512) * bs ≤ 281474976710656) (hmax:rows.length + news.length ≤ 9223372036854775807) :
  effPost P B (AppR e sz rows news F) ((do pure (Next.value (← Builtin.append_ #[t,t] ty #[sv,xv])):Sem Next).run P w):=by
 obtain ⟨a,c,hsv⟩:=hown.form
 obtain ⟨i,hi,his,hib⟩:=he.run_info (w:=w)
 have hone:∀ u ∈ news.flatten,u.oneCell' = true:=fun u hu=>by
  obtain ⟨r,hr,hu⟩:=List.mem_flatten.1 hu
  exact oneAll_mem (hnew r hr).2 u hu
 have hnl:=hnew.len
 have hrl:=hown.1.len
 by_cases hcap:rows.length + news.length ≤ c
 ·rcases hown.2 with ⟨h1,h2,h3⟩|⟨g,c',spare,h1,h2,h3,h4⟩
  ·subst h2;subst h3
   rw [hsv] at h1
   injection h1 with h1 h1' h1''
   subst h1
   have hn0:news = []:=List.eq_nil_of_length_eq_zero (by simp at hcap;omega)
   subst hn0
   have hx0:(Builtin.firstCells sz 0 xv).run P w = .ok #[] w:=by simpa using hx
   have:(Builtin.append_ #[t,t] ty #[sv,xv]).run P w = .ok sv w:=by
    simp [Builtin.append_,ht.run_und,he.run_size,hsv,h1'',hlen,hx0]
   simp only [Sem.run_bind,this,Result.andThen_ok,Sem.run_pure,effPost]
   exact ⟨F,⟨[],by rw [hsv];simpa [h1''] using (Own.none (E:=e) (sz:=sz)),rfl⟩,by simpa using hS⟩
  ·rw [hsv] at h1
   injection h1 with h1 h1' h1''
   subst h1;subst h1'';subst h2
   have hfit:rows.flatten.length + news.flatten.length ≤ (rows.flatten ++ spare).length:=by
    rw [List.length_append,h3,hrl,hnl,← Nat.add_mul]
    exact Nat.mul_le_mul_right _ hcap
   obtain ⟨w',hr,hS'⟩:=run_storeCells (P:=P) (A1:=[]) (A2:=F) (b:=g) (E:=e) (off:=rows.length * sz) news.flatten 0 (rows.flatten ++ spare) w (by simpa using hS) hone (by rw [← hrl];omega)
   have:(Builtin.append_ #[t,t] ty #[sv,xv]).run P w = .ok (.slice (some ⟨g,0,none⟩) (rows.length + news.length) c) w':=by
    simp [Builtin.append_,ht.run_und,he.run_size,hsv,hlen,hcap,hx,add_none,hr]
   simp only [Sem.run_bind,this,Result.andThen_ok,Sem.run_pure,effPost]
   refine ⟨_,⟨[(g,cl (ins (rows.flatten ++ spare) (rows.length * sz + 0) news.flatten) e)],⟨hown.1.app hnew,.inr ⟨g,c,spare.drop news.flatten.length,by simp,?_,?_,by simpa using hcap⟩⟩,rfl⟩,by simpa using hS'⟩
   ·rw [Nat.add_zero,← hrl,ins_app,List.flatten_append]
   ·simp only [List.length_append] at hfit
    simp only [List.flatten_append,List.length_append,List.length_drop]
    omega
 ·have hle:=nextcap_le (need:=rows.length + news.length) (c:=c) (by omega)
  have hb2:¬ (Builtin.nextslicecap (rows.length + news.length) c * bs > 2 ^ 48):=by
   have:=Nat.mul_le_mul_right bs hle
   rw [show (2:Nat) ^ 48 = 281474976710656 from rfl]
   omega
  have hm2:¬ (IntKind.i64.max < (rows.length:Int) + (news.length:Int)):=by
   rw [show IntKind.i64.max = 9223372036854775807 from rfl]
   omega
  obtain ⟨z,hz,hzcell⟩:=he.run_zero (w:=w.drew)
  have hold:∀ w',Sat B (G ++ F) w' → (Builtin.firstCells sz rows.length sv).run P w' = .ok rows.flatten.toArray w':=by
   intro w' hS'
   rcases hown.2 with ⟨h1,h2,h3⟩|⟨g,c',spare,h1,h2,h3,h4⟩
   ·subst h1;subst h2
    simp [Builtin.firstCells]
   ·subst h2
    have:=run_firstCells (P:=P) (size:=sz) (n:=rows.length) h1 (hS'.here (g,cl (rows.flatten ++ spare) e) (by simp)) (by rw [List.length_append,hrl];omega)
    rw [this,← hrl]
    simp
  generalize hq:Question.appendCap (rows.length + news.length) c e = q
  have hfo:q.forced = false:=by subst hq;rfl
  have hcut:rows.length + news.length ≤ q.cut (w.tape w.drawn q):=by
   subst hq
   simp only [Question.cut]
   omega
  have hS2:Sat B (G ++ F) w.drew:=hS.drew
  obtain ⟨i3,hi3,his3,hib3⟩:=he.run_info (w:=w.drew)
  generalize hnce:q.cut (w.tape w.drawn q) = nc at hcut
  have hrest:(Builtin.zeroCells zc.toArray (nc - (rows.length + news.length))).size = (nc - (rows.length + news.length)) * sz:=by
   simp [Builtin.zeroCells,hzc]
  have:(Builtin.append_ #[t,t] ty #[sv,xv]).run P w =
    .ok (.slice (some ⟨w.heap.size,0,none⟩) (rows.length + news.length) nc) (w.drew.alloc (.cells (rows.flatten.toArray ++ news.flatten.toArray ++ Builtin.zeroCells zc.toArray (nc - (rows.length + news.length))) e)):=by
   unfold Builtin.append_
   clear hle hbytes hmax
   generalize (2:Nat) ^ 48 = M at hb2 ⊢
   generalize IntKind.i64.max = M2 at hm2 ⊢
   have hold2:=hold _ hS2
   have hx2:=hx' _ hS2
   rw [hsv] at hold2
   simp [ht.run_und,he.run_size,hsv,hlen,hcap,hi,hib,hm2,hb2,hq,hfo,hnce,hi3,hold2,hx2,hz,hzcell,newRow]
   simp only [← List.append_toArray,Array.append_assoc]
  simp only [Sem.run_bind,this,Result.andThen_ok,Sem.run_pure,effPost]
  refine ⟨_,⟨[(w.heap.size,cl ((rows ++ news).flatten ++ (Builtin.zeroCells zc.toArray (nc - (rows.length + news.length))).toList) e)],⟨hown.1.app hnew,.inr ⟨w.heap.size,nc,_,by simp,rfl,?_,by simpa using hcut⟩⟩,rfl⟩,?_⟩
  ·have h8:=(hown.1.app hnew).len
   rw [List.length_append] at h8
   have h7:(Builtin.zeroCells zc.toArray (nc - (rows.length + news.length))).toList.length = _:=Array.length_toList
   rw [h8,h7,hrest,← Nat.add_mul]
   congr 1
   omega
  ·have h9:=hS2.right.alloc (.cells (rows.flatten.toArray ++ news.flatten.toArray ++ Builtin.zeroCells zc.toArray (nc - (rows.length + news.length))) e)
   have e9:(Obj.cells (rows.flatten.toArray ++ news.flatten.toArray ++ Builtin.zeroCells zc.toArray (nc - (rows.length + news.length))) e) = cl ((rows ++ news).flatten ++ (Builtin.zeroCells zc.toArray (nc - (rows.length + news.length))).toList) e:=by
    simp [cl]
   rw [e9] at h9 ⊢
   exact h9
end
section
variable {P:Program} {N:Fi} {B:Base} {Q:Exit → Act → World → Prop} {T:Tm} {A:List Blk} {ops:Array Oper} {l:List Oper}
variable {d:Nat} {ty:TypeId} {pos:String} {af:Array Edge} {m:Md} {gd:Option (Nat × Bool)}
theorem Ops.app1 {t e sz bs g0 c0:Nat} {ge:Bool} {zc r:List Value} {x y:Operand} {sv:Value} {rows:List (List Value)} {G A1 F:List Blk} (hown:Own e sz sv rows G) (hbytes:(rows.length + 1 + (rows.length + 1) / 4 + 512) * bs ≤ 281474976710656) (hmax:rows.length + 1 ≤ 9223372036854775807)
  (hm:m.eff = true) (hg:gst ops T gd = some true) [ht:TyD P t (.slice e)] [he:Ty P e ge sz bs zc] (hx:ev T x = some sv) (hy:ev T y = some (.slice (some ⟨g0,0,none⟩) 1 c0)) [h0:Pop A g0 (cl r e) A1] [hs:Split A1 G F]
  (hr:r.length = sz) (hone:oneAll r = true) (hzc:zc.length = sz) (hp:Pd P N B ops m T (some d) (AppR e sz rows [r] F)) (hd:Nat.blt d N.n = true)
  (k:∀ v G',Own e sz v (rows ++ [r]) G' → Ops P N B Q ops m.tl l ((d,v) :: T) (G' ++ F)) :
  Ops P N B Q ops m (⟨some d,.call { callee:=.builtin .append,args:=#[x,y],argTypes:=#[t,t] },ty,pos,af,gd⟩ :: l) T A:=by
 have hperm:A.Perm (G ++ (g0,cl r e) :: F):=h0.perm.trans ((hs.perm.cons _).trans List.perm_middle.symm)
 have hread:∀ w,Sat B (G ++ (g0,cl r e) :: F) w → (Builtin.firstCells sz 1 (.slice (some ⟨g0,0,none⟩) 1 c0)).run P w = .ok r.toArray w:=fun w hS=>by
  have:=run_firstCells (P:=P) (size:=sz) (n:=1) (a:=.slice (some ⟨g0,0,none⟩) 1 c0) rfl (hS.here (g0,cl r e) (by simp)) (by omega)
  rw [this,Nat.one_mul,← hr,List.take_length]
 refine Ops.effV (R:=AppR e sz rows [r] F) hm hp hg hd (fun a w hF hS=>?_) fun v X ⟨G',hG',hX⟩=>?_
 ·have hS':=hS.perm hperm
  have:=run_append (P:=P) (w:=w) (ty:=ty) (sv:=sv) (xv:=.slice (some ⟨g0,0,none⟩) 1 c0) (news:=[r]) ht he hzc hS' hown (RowsOk.one hr hone) (by simp [Builtin.lenOf]) (by simpa using hread w hS') (fun w' h'=>by simpa using hread w' h') (by simpa using hbytes) (by simpa using hmax)
  simp only [execOp,resolve,invoke,builtin,Sem.run_bind,Sem.run_pure,Result.andThen_ok,List.map_toArray,List.map_cons,List.map_nil,hF.eval hx,hF.eval hy] at this ⊢
  exact effPost_mono this fun v A' ⟨G',h1,h2⟩=>⟨G' ++ F,⟨G',h1,rfl⟩,fun w hS=>by
   subst h2
   exact (hS.perm List.perm_middle).tail⟩
 ·rw [hX]
  exact k v G' hG'
end
end Go.Sep
namespace Go.Sep
open Go
theorem run_bound {P:Program} {w:World} {k:IntKind} {i:Int} {y:Nat} {code:BoundsCode} (h0:0 ≤ i) (h1:i ≤ y):(Instr.sliceBound (.int k i) y code).run P w = .ok i.toNat w:=by
 simp [Instr.sliceBound,asIntOf,h0,h1]
section
variable {P:Program} {N:Fi} {B:Base} {Q:Exit → Act → World → Prop} {T:Tm} {A:List Blk} {ops:Array Oper} {l:List Oper}
variable {d:Nat} {ty:TypeId} {pos:String} {af:Array Edge} {m:Md} {gd:Option (Nat × Bool)}
theorem Ops.slHi {t e:TypeId} {ge:Bool} {x y:Operand} {sz bs n c:Nat} {a0:Option Addr} {zc:List Value} {k':IntKind} {i:Int} (hm:m.rd true = true) (hg:gst ops T gd = some true) [ht:TyD P t (.slice e)] [he:Ty P e ge sz bs zc]
  (hx:ev T x = some (.slice a0 n c)) (hy:ev T y = some (.int k' i)) (h0:0 ≤ i) (h1:i ≤ c) (hd:Nat.blt d N.n = true)
  (k:Ops P N B Q ops m.tl l ((d,.slice a0 i.toNat c) :: T) A):Ops P N B Q ops m (⟨some d,.slice t x none (some y) none,ty,pos,af,gd⟩ :: l) T A :=
 Ops.pureV hm hg hd (fun a w hF=>by
  have e0:(if c = 0 then a0 else a0.map (·.add (0 * sz))) = a0:=by
   split
   ·rfl
   ·cases a0 <;> simp [Addr.add]
  simp only [execOp,hF.eval hx,hF.eval hy,Option.map_some,Option.map_none,Instr.sliceAt,Instr.slice,ht.run_und,Instr.sliceBounds,if_true,run_bound h0 h1,he.run_size,Sem.run_bind,Sem.run_pure,Result.andThen_ok,e0,Nat.sub_zero]) k
theorem Ops.sl3 {t e:TypeId} {ge:Bool} {x y z u:Operand} {sz bs n c:Nat} {a0:Option Addr} {zc:List Value} {k1 k2 k3:IntKind} {i j q:Int} (hm:m.rd true = true) (hg:gst ops T gd = some true) [ht:TyD P t (.slice e)] [he:Ty P e ge sz bs zc]
  (hx:ev T x = some (.slice a0 n c)) (hy:ev T y = some (.int k1 i)) (hz:ev T z = some (.int k2 j)) (hu:ev T u = some (.int k3 q)) (h0:0 ≤ i) (h1:i ≤ j) (h2:j ≤ q) (h3:q ≤ c) (hd:Nat.blt d N.n = true)
  (k:Ops P N B Q ops m.tl l ((d,.slice (if q.toNat = i.toNat then a0 else a0.map (·.add (i.toNat * sz))) (j.toNat - i.toNat) (q.toNat - i.toNat)) :: T) A):Ops P N B Q ops m (⟨some d,.slice t x (some y) (some z) (some u),ty,pos,af,gd⟩ :: l) T A :=
 Ops.pureV hm hg hd (fun a w hF=>by
  simp only [execOp,hF.eval hx,hF.eval hy,hF.eval hz,hF.eval hu,Option.map_some,Instr.sliceAt,Instr.slice,ht.run_und,Instr.sliceBounds,run_bound (show 0 ≤ q by omega) h3,run_bound (show 0 ≤ j by omega) (show j ≤ (q.toNat:Int) by omega),run_bound h0 (show i ≤ (j.toNat:Int) by omega),if_true,Option.isSome_some,he.run_size,Sem.run_bind,Sem.run_pure,Result.andThen_ok]) k
theorem run_eqGuard_slice {P:Program} {op:BinOp} {t:TypeId} {xo yo:Operand} {a b:Option Addr} {n c n' c':Nat} {w:World}:(eqGuard op t xo yo (.slice a n c) (.slice b n' c')).run P w = .ok () w:=by
 unfold eqGuard;cases op <;> rfl
end
section
variable {P:Program} {t:TypeId}
theorem run_eql {x y:Value} {b:Bool} {w:World} (hb:binOp .eql t x y = (do pure (.bool (← Op.equal t x y)))) (h:∀ d:Nat,(Op.equalIn (d + 1) t x y).run P w = .ok b w):(binOp .eql t x y).run P w = .ok (.bool b) w:=by
 have h9:(Op.equal t x y).run P w = .ok b w:=h 9999
 rw [hb,Sem.run_bind,h9];rfl
theorem run_neq {x y:Value} {b:Bool} {w:World} (hb:binOp .neq t x y = (do pure (.bool (!(← Op.equal t x y))))) (h:∀ d:Nat,(Op.equalIn (d + 1) t x y).run P w = .ok b w):(binOp .neq t x y).run P w = .ok (.bool (!b)) w:=by
 have h9:(Op.equal t x y).run P w = .ok b w:=h 9999
 rw [hb,Sem.run_bind,h9];rfl
theorem eqIn_slNil {e:TypeId} [h:TyD P t (.slice e)] {a:Option Addr} {n c n' c':Nat} {w:World} (d:Nat):(Op.equalIn (d + 1) t (.slice a n c) (.slice none n' c')).run P w = .ok a.isNone w:=by
 cases a <;> simp [Op.equalIn,h.run_und]
theorem eqIn_ptrNil {e:TypeId} [h:TyD P t (.pointer e)] {a:Option Addr} {w:World} (d:Nat):(Op.equalIn (d + 1) t (.pointer a) (.pointer none)).run P w = .ok a.isNone w:=by
 cases a <;> simp [Op.equalIn,h.run_und]
instance BinRun.eqSlNilL {e:TypeId} [h:TyD P t (.slice e)] {a:Option Addr} {n c n' c':Nat}:BinRun P .eql t (.slice a n c) (.slice none n' c') (.bool a.isNone):=⟨fun xo yo w=>by
 rw [Sem.run_bind,run_eqGuard_slice,Result.andThen_ok]
 exact run_eql rfl fun d=>eqIn_slNil d⟩
theorem run_eqGuard_ptr {op:BinOp} {xo yo:Operand} {a b:Option Addr} {w:World}:(eqGuard op t xo yo (.pointer a) (.pointer b)).run P w = .ok () w:=by
 unfold eqGuard;cases op <;> rfl
instance BinRun.eqPtrNil {e:TypeId} [h:TyD P t (.pointer e)] {a:Option Addr}:BinRun P .eql t (.pointer a) (.pointer none) (.bool a.isNone):=⟨fun xo yo w=>by
 rw [Sem.run_bind,run_eqGuard_ptr,Result.andThen_ok]
 exact run_eql (by cases a <;> rfl) fun d=>eqIn_ptrNil d⟩
end
end Go.Sep
namespace Go.Sep
open Go
def fldsB (P:Program) (t:TypeId):Option (List (TypeId × Nat)) :=
 match P.underlying t with
 | some (.struct fields)=>if (fields.toList.all fun f=>f.name != "_") && !(P.stoodInHeld t) && !(P.eqGuardType P.depth t) then some (fields.toList.map fun f=>(f.type,f.offset)) else none
 | _=>none
class Flds (P:Program) (t:TypeId) (fl:outParam (List (TypeId × Nat))):Prop where
 eq:fldsB P t = some fl
theorem Flds.get {P:Program} {t:TypeId} {fl:List (TypeId × Nat)} (h:Flds P t fl) :
  ∃ fields:Array Field,P.underlying t = some (.struct fields) ∧ (∀ f ∈ fields.toList,f.name ≠ "_") ∧ P.stoodInHeld t = false ∧ P.eqGuardType P.depth t = false ∧ fl = fields.toList.map fun f=>(f.type,f.offset):=by
 have h1:=h.eq
 unfold fldsB at h1
 split at h1
 ·rename_i fields hu
  split at h1
  ·rename_i hc
   simp only [Bool.and_eq_true,List.all_eq_true,Bool.not_eq_true'] at hc
   injection h1 with h1
   exact ⟨fields,hu,fun f hf=>by simpa using hc.1.1 f hf,hc.1.2,hc.2,h1.symm⟩
  ·cases h1
 ·cases h1
class PartV (g:Bool) (sz:Nat) (xs:List Value) (off:Nat) (v:outParam Value):Prop where
 agg:g = true → ∃ r,v = .agg r.toArray ∧ r = (xs.drop off).take sz ∧ off + sz ≤ xs.length
 one:g = false → xs[off]? = some v
instance PartV.a {sz off:Nat} {xs r:List Value} [h:GetS xs off sz r]:PartV true sz xs off (.agg r.toArray):=⟨fun _=>⟨r,rfl,h.eq⟩,fun h=>by cases h⟩
instance PartV.o {sz off:Nat} {xs:List Value} {v:Value} [h:GetS xs off 1 [v]]:PartV false sz xs off v:=⟨fun e=>(by cases e),fun _=>getS_at h 0 v rfl⟩
theorem run_part {P:Program} {t:TypeId} {g:Bool} {sz bs:Nat} {zc xs:List Value} {off:Nat} {v:Value} (ht:Ty P t g sz bs zc) (h:PartV g sz xs off v) (w:World):(part t xs.toArray off).run P w = .ok v w:=by
 simp only [part,Sem.run_bind,ht.run_isAgg,Result.andThen_ok]
 cases g with
 | true =>
  obtain ⟨r,rfl,hr,hle⟩:=h.agg rfl
  simp only [if_true,Sem.run_bind,ht.run_size,Result.andThen_ok,Sem.run_pure]
  rw [hr]
  simp
 | false =>
  have:=h.one rfl
  simp [this]
class EqV (P:Program) (lvl:Nat) (t:TypeId) (x y:Value) (r:outParam Bool):Prop where
 run:∀ (d:Nat) (w:World),(Op.equalIn (d + lvl) t x y).run P w = .ok r w
class EqF (P:Program) (lvl:Nat) (fl:List (TypeId × Nat)) (xs ys:List Value) (r:outParam Bool):Prop where
 run:∀ (d:Nat) (w:World) (fs:List Field),(∀ f ∈ fs,f.name ≠ "_") → fl = fs.map (fun f=>(f.type,f.offset)) → (Op.eqFields (d + lvl) xs.toArray ys.toArray fs).run P w = .ok r w
section
variable {P:Program} {lvl:Nat} {t:TypeId}
instance EqV.int {k k':IntKind} {a b:Int} [h:TyD P t (.int k')]:EqV P (lvl + 1) t (.int k a) (.int k b) (decide (a = b)):=⟨fun d w=>by
 rw [show d + (lvl + 1) = (d + lvl) + 1 from rfl,run_equalIn_int w (d + lvl) t k k' a b h.und];rfl⟩
instance EqV.str {a b:ByteArray} [h:TyD P t .string]:EqV P (lvl + 1) t (.string a) (.string b) (decide (a = b)):=⟨fun d w=>by
 rw [show d + (lvl + 1) = (d + lvl) + 1 from rfl,run_equalIn_string w (d + lvl) t a b h.und,list_beq]⟩
instance EqV.bool {a b:Bool} [h:TyD P t .bool]:EqV P (lvl + 1) t (.bool a) (.bool b) (a == b):=⟨fun d w=>by
 rw [show d + (lvl + 1) = (d + lvl) + 1 from rfl,run_equalIn_bool' w (d + lvl) t a b h.und]⟩
instance EqF.nil {xs ys:List Value}:EqF P lvl [] xs ys true:=⟨fun d w fs _ h=>by
 obtain rfl:fs = []:=by
  cases fs with
  | nil=>rfl
  | cons f fs=>cases h
 simp [Op.eqFields]⟩
instance EqF.cons {ft:TypeId} {off:Nat} {fl:List (TypeId × Nat)} {xs ys:List Value} {g:Bool} {sz bs:Nat} {zc:List Value} {vx vy:Value} {r1 r2:Bool} [ht:Ty P ft g sz bs zc] [hx:PartV g sz xs off vx] [hy:PartV g sz ys off vy] [h1:EqV P lvl ft vx vy r1] [h2:EqF P lvl fl xs ys r2] :
  EqF P lvl ((ft,off) :: fl) xs ys (r1 && r2):=⟨fun d w fs hn h=>by
 cases fs with
 | nil=>cases h
 | cons f fs =>
  simp only [List.map_cons,List.cons.injEq,Prod.mk.injEq] at h
  obtain ⟨⟨e1,e2⟩,e3⟩:=h
  subst e1;subst e2
  have:=h2.run d w fs (fun x hx=>hn x (List.mem_cons_of_mem _ hx)) e3
  simp only [Op.eqFields,if_pos (hn f (List.mem_cons_self ..)),Sem.run_bind,run_part ht hx,run_part ht hy,Result.andThen_ok,h1.run]
  cases r1 with
  | true=>simpa using this
  | false=>simp⟩
instance EqV.str_ {fl:List (TypeId × Nat)} {xs ys:List Value} {r:Bool} [h:Flds P t fl] [hf:EqF P lvl fl xs ys r]:EqV P (lvl + 1) t (.agg xs.toArray) (.agg ys.toArray) r:=⟨fun d w=>by
 obtain ⟨fields,hu,hn,hs,_,hfl⟩:=h.get
 have e:P.fieldsOf t = fields:=by simp [Program.fieldsOf,hu]
 rw [show d + (lvl + 1) = (d + lvl) + 1 from rfl,run_equalIn_struct w (d + lvl) t _ _ (by rw [e];exact hu) hs,e]
 exact hf.run d w fields.toList hn hfl⟩
class EqSelf (P:Program) (lvl:Nat) (t:TypeId) (x:Value):Prop where
 run:∀ (d:Nat) (w:World),(Op.equalIn (d + lvl) t x x).run P w = .ok true w
class EqSelfF (P:Program) (lvl:Nat) (fl:List (TypeId × Nat)) (xs:List Value):Prop where
 run:∀ (d:Nat) (w:World) (fs:List Field),(∀ f ∈ fs,f.name ≠ "_") → fl = fs.map (fun f=>(f.type,f.offset)) → (Op.eqFields (d + lvl) xs.toArray xs.toArray fs).run P w = .ok true w
instance EqSelf.int {k k':IntKind} {a:Int} [h:TyD P t (.int k')]:EqSelf P (lvl + 1) t (.int k a):=⟨fun d w=>by
 have:=(EqV.int (P:=P) (lvl:=lvl) (t:=t) (k:=k) (a:=a) (b:=a)).run d w
 simpa using this⟩
instance EqSelf.str {a:ByteArray} [h:TyD P t .string]:EqSelf P (lvl + 1) t (.string a):=⟨fun d w=>by
 have:=(EqV.str (P:=P) (lvl:=lvl) (t:=t) (a:=a) (b:=a)).run d w
 simpa using this⟩
instance EqSelf.bool {a:Bool} [h:TyD P t .bool]:EqSelf P (lvl + 1) t (.bool a):=⟨fun d w=>by
 have:=(EqV.bool (P:=P) (lvl:=lvl) (t:=t) (a:=a) (b:=a)).run d w
 simpa using this⟩
instance EqSelfF.nil {xs:List Value}:EqSelfF P lvl [] xs:=⟨fun d w fs hn h=>(EqF.nil (P:=P) (lvl:=lvl) (xs:=xs) (ys:=xs)).run d w fs hn h⟩
instance EqSelfF.cons {ft:TypeId} {off:Nat} {fl:List (TypeId × Nat)} {xs:List Value} {g:Bool} {sz bs:Nat} {zc:List Value} {vx:Value} [ht:Ty P ft g sz bs zc] [hx:PartV g sz xs off vx] [h1:EqSelf P lvl ft vx] [h2:EqSelfF P lvl fl xs] :
  EqSelfF P lvl ((ft,off) :: fl) xs:=⟨fun d w fs hn h =>
 (EqF.cons (h1:=⟨h1.run⟩) (h2:=⟨h2.run⟩):EqF P lvl ((ft,off) :: fl) xs xs (true && true)).run d w fs hn h⟩
instance EqSelf.struct {fl:List (TypeId × Nat)} {xs:List Value} [h:Flds P t fl] [hf:EqSelfF P lvl fl xs]:EqSelf P (lvl + 1) t (.agg xs.toArray):=⟨fun d w =>
 (EqV.str_ (hf:=⟨hf.run⟩):EqV P (lvl + 1) t (.agg xs.toArray) (.agg xs.toArray) true).run d w⟩
theorem eqGuard_flds {fl:List (TypeId × Nat)} (h:Flds P t fl) {op:BinOp} {xo yo:Operand} {xs ys:List Value} (w:World):(eqGuard op t xo yo (.agg xs.toArray) (.agg ys.toArray)).run P w = .ok () w :=
 let ⟨_,_,_,_,hg,_⟩:=h.get
 run_eqGuard_agg w op t xo yo _ _ hg
instance BinRun.eqlAgg {fl:List (TypeId × Nat)} {xs ys:List Value} {r:Bool} [h:Flds P t fl] [hv:EqV P 8 t (.agg xs.toArray) (.agg ys.toArray) r]:BinRun P .eql t (.agg xs.toArray) (.agg ys.toArray) (.bool r):=⟨fun xo yo w=>by
 rw [Sem.run_bind,eqGuard_flds h,Result.andThen_ok,run_eql_struct,hv.run 9992];rfl⟩
instance BinRun.neqAgg {fl:List (TypeId × Nat)} {xs ys:List Value} {r:Bool} [h:Flds P t fl] [hv:EqV P 8 t (.agg xs.toArray) (.agg ys.toArray) r]:BinRun P .neq t (.agg xs.toArray) (.agg ys.toArray) (.bool (!r)):=⟨fun xo yo w=>by
 rw [Sem.run_bind,eqGuard_flds h,Result.andThen_ok,run_neq_struct,hv.run 9992];rfl⟩
instance (priority:=2000) BinRun.eqlSelf {fl:List (TypeId × Nat)} {xs:List Value} [h:Flds P t fl] [hv:EqSelf P 8 t (.agg xs.toArray)]:BinRun P .eql t (.agg xs.toArray) (.agg xs.toArray) (.bool true):=⟨fun xo yo w=>by
 rw [Sem.run_bind,eqGuard_flds h,Result.andThen_ok,run_eql_struct,hv.run 9992];rfl⟩
end
theorem flatten_set {sz:Nat}:∀ {rows:List (List Value)},RowsOk sz rows → ∀ {i:Nat} {r:List Value},i < rows.length → r.length = sz → ins rows.flatten (i * sz) r = (rows.set i r).flatten
 | [],_,i,r,hi,_=>by simp at hi
 | x :: rows,h,0,r,_,hr=>by
  have hx:=(h x (List.mem_cons_self ..)).1
  simp only [List.flatten_cons,List.set_cons_zero,ins,Nat.zero_mul,List.take_zero,List.nil_append,Nat.zero_add]
  rw [List.drop_left' (by omega)]
 | x :: rows,h,i + 1,r,hi,hr=>by
  have hx:=(h x (List.mem_cons_self ..)).1
  have ih:=flatten_set (rows:=rows) (fun y hy=>h y (List.mem_cons_of_mem _ hy)) (i:=i) (r:=r) (by simpa using hi) hr
  have hl:=RowsOk.len (rows:=rows) fun y hy=>h y (List.mem_cons_of_mem _ hy)
  simp only [List.flatten_cons,List.set_cons_succ]
  rw [← ih]
  unfold ins
  rw [show (i + 1) * sz = x.length + i * sz from by rw [hx,Nat.add_mul];omega,List.take_append,List.take_of_length_le (by omega),show x.length + i * sz - x.length = i * sz from by omega,
   show x.length + i * sz + r.length = x.length + (i * sz + r.length) from by omega,List.drop_append,List.drop_of_length_le (by omega),show x.length + (i * sz + r.length) - x.length = i * sz + r.length from by omega]
  simp
theorem ins_left {l s vs:List Value} {off:Nat} (h:off + vs.length ≤ l.length):ins (l ++ s) off vs = ins l off vs ++ s:=by
 unfold ins
 rw [List.take_append_of_le_length (by omega),List.drop_append_of_le_length (by omega)]
 simp
theorem RowsOk.set {sz:Nat} {rows:List (List Value)} (h:RowsOk sz rows) {i:Nat} {r:List Value} (hr:r.length = sz) (h1:oneAll r = true):RowsOk sz (rows.set i r):=fun x hx=>by
 rcases List.mem_or_eq_of_mem_set hx with hx|rfl
 ·exact h x hx
 ·exact ⟨hr,h1⟩
theorem Own.set {E sz g c:Nat} {rows:List (List Value)} {spare:List Value} (h:Own E sz (.slice (some ⟨g,0,.none⟩) rows.length c) rows [(g,cl (rows.flatten ++ spare) E)]) (hs:rows.flatten.length + spare.length = c * sz) (hle:rows.length ≤ c) {i:Nat} {r:List Value} (hr:r.length = sz) (h1:oneAll r = true) :
  Own E sz (.slice (some ⟨g,0,.none⟩) rows.length c) (rows.set i r) [(g,cl ((rows.set i r).flatten ++ spare) E)]:=by
 have h2:=h.1.set (i:=i) hr h1
 refine ⟨h2,.inr ⟨g,c,spare,by simp,rfl,?_,by simpa using hle⟩⟩
 rw [h2.len,List.length_set,← h.1.len];exact hs
section
variable {P:Program} {N:Fi} {B:Base} {Q:Exit → Act → World → Prop} {T:Tm} {A:List Blk} {ops:Array Oper} {l:List Oper}
variable {d:Nat} {ty:TypeId} {pos:String} {af:Array Edge} {m:Md} {gd:Option (Nat × Bool)}
theorem Ops.ldCell {t:TypeId} {x:Operand} {b i:Nat} {bs:Nat} {zc:List Value} {rows:List (List Value)} {spare:List Value} {E:TypeId} {v:Value} (hm:m.rd false = true) (hg:gst ops T gd = some true) [ht:Ty P t false 1 bs zc]
  (hx:ev T x = some (.pointer (some ⟨b,i * 1,none⟩))) [hb:Has A b (cl (rows.flatten ++ spare) E)] (hr:RowsOk 1 rows) (hi:rows[i]? = some [v]) (hd:Nat.blt d N.n = true)
  (k:Ops P N B Q ops m.tl l ((d,v) :: T) A):Ops P N B Q ops m (⟨some d,.load t x,ty,pos,af,gd⟩ :: l) T A :=
 Ops.ldRow1 (sz:=1) (o:=0) hm hg hx hr hi rfl hd k
theorem Ops.stRow {t:TypeId} {x y:Operand} {b i:Nat} {gt:Bool} {sz bs:Nat} {zc r:List Value} {rows:List (List Value)} {spare:List Value} {E:TypeId} {v:Value} {A':List Blk} (hm:m.eff = true) (hg:gst ops T gd = some true) [ht:Ty P t gt sz bs zc]
  (hx:ev T x = some (.pointer (some ⟨b,i * sz,none⟩))) (hy:ev T y = some v) [hc:Cells v r] (h1:oneAll r = true) (hn:r.length = sz) [_hb:Has A b (cl (rows.flatten ++ spare) E)] (hr:RowsOk sz rows) (hi:i < rows.length)
  [hu:Upd A b (cl (rows.flatten ++ spare) E) (cl ((rows.set i r).flatten ++ spare) E) A'] (hp:Pd P N B ops m T none (fun _ X=>X = A'))
  (k:Ops P N B Q ops m.tl l T A'):Ops P N B Q ops m (⟨none,.store t x y,ty,pos,af,gd⟩ :: l) T A :=
 Ops.unit hm hp hg (fun a w hF hS=>by
  obtain ⟨A1,A2,rfl,rfl⟩:=hu.put
  have hlen:=hr.len
  have hfit:i * sz + r.length ≤ rows.flatten.length:=by
   rw [hlen,hn,show i * sz + sz = (i + 1) * sz from by rw [Nat.add_mul];omega]
   exact Nat.mul_le_mul_right _ hi
  obtain ⟨w',hrun,hS'⟩:=run_storeAt (P:=P) hS ht hc.eq hn (off:=i * sz) (oneAll_mem h1) (by rw [List.length_append];omega)
  refine ⟨w',by simp [execOp,hF.eval hx,hF.eval hy,hrun],?_⟩
  rw [ins_left hfit,flatten_set hr hi hn] at hS'
  exact hS') k
end
def baseOf (w:World):Base:=⟨fun n=>w.heap[n]?,w.os,w.tape,w.output,none⟩
theorem sat_baseOf (w:World):Sat (baseOf w) [] w:=⟨rfl,rfl,rfl,fun _ _ h=>h,by simp,by simp,by simp⟩
theorem Sat.below {w w':World} {A:List Blk} (h:Sat (baseOf w) A w'):RowKit.Below w.heap.size w w':=by
 refine ⟨h.os,h.tape,h.output,?_,fun k hk=>?_⟩
 ·rcases Nat.lt_or_ge w'.heap.size w.heap.size with hlt|hge
  ·have h1:=h.base w'.heap.size _ (Array.getElem?_eq_getElem hlt)
   rw [Array.getElem?_eq_none (Nat.le_refl _)] at h1
   cases h1
  ·exact hge
 ·rw [h.base k _ (Array.getElem?_eq_getElem hk),Array.getElem?_eq_getElem hk]
theorem rd_base {w:World} {A:List Blk} {b off:Nat} {v:Value} (h:w.cell? ⟨b,off,none⟩ = some v):Rd (baseOf w) A b off v:=fun w' hS=>by
 have hb:b < w.heap.size:=World.block_lt_of_cell? w ⟨b,off,none⟩ h
 have h1:=hS.base b _ (Array.getElem?_eq_getElem hb)
 unfold World.cell? at h ⊢
 rw [h1]
 rw [Array.getElem?_eq_getElem hb] at h
 exact h
def Keeps (T:Tm):Tm → Prop
 | []=>True
 | (i,v) :: r=>look T i = some v ∧ Keeps T r
theorem Fr.keeps {N:Fi} {T T':Tm} {a:Act} (h:Fr N T a) (hk:Keeps T T'):Fr N T' a:=by
 refine h.keep fun i v hi=>?_
 induction T' with
 | nil=>cases hi
 | cons p T' ih =>
  obtain ⟨j,u⟩:=p
  simp only [look] at hi
  cases hb:Nat.beq i j with
  | true =>
   rw [hb] at hi
   simp only [cond_true,Option.some.injEq] at hi
   rw [Nat.eq_of_beq_eq_true hb,← hi]
   exact hk.1
  | false =>
   rw [hb] at hi
   exact ih hk.2 hi
section
variable {N:Fi} {B:Base} {Q:Exit → Act → World → Prop} {T:Tm} {A:List Blk}
theorem round_end {σ:Type} {I:σ → Prop} {Tf:σ → Tm} {Af:σ → List Blk} {μ:σ → Nat} {n:Nat} (s:σ) (hI:I s) (hμ:μ s < n) (hT:Keeps T (Tf s)) (hA:∀ w,Sat B A w → Sat B (Af s) w) :
  ∀ a w,Fr N T a → Sat B A w → Round N B I Tf Af μ n Q .normal a w:=fun _ _ hF hS=>⟨s,hI,hμ,hF.keeps hT,hA _ hS⟩
theorem meet_end {σ:Type} {I:σ → Prop} {Tf:σ → Tm} {Af:σ → List Blk} (s:σ) (hI:I s) (hT:Keeps T (Tf s)) (hA:∀ w,Sat B A w → Sat B (Af s) w) :
  ∀ a w,Fr N T a → Sat B A w → Meets N B I Tf Af Q .normal a w:=fun _ _ hF hS=>⟨s,hI,hF.keeps hT,hA _ hS⟩
end
theorem Cd.loopK {P:Program} {N:Fi} {B:Base} {Q:Exit → Act → World → Prop} {T:Tm} {A:List Blk} {σ:Type} {c:Code} (I:σ → Prop) (Tf:σ → Tm) (Af:σ → List Blk) (μ:σ → Nat) (s0:σ) (h0:I s0) (hT:Keeps T (Tf s0)) (hA:∀ w,Sat B A w → Sat B (Af s0) w)
  (round:∀ s,I s → Cd P N B (Round N B I Tf Af μ (μ s) Q) c (Tf s) (Af s)):Cd P N B Q (.loop c) T A :=
 Cd.loop I Tf Af μ s0 h0 (fun _ hF=>hF.keeps hT) hA round
end Go.Sep
