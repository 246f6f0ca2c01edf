import Derived.Test.YtaecdnfkcebbeaaGreatA12
import Derived.Test.YtaecdnfkcebbeaaGreatA11
import Derived.Lib.UnsafeStr
import Derived.Test.YtaecdnfkcebbeaaGreatA01
import Derived.Test.YtaecdnfkcebbeaaGreatA13
set_option linter.unusedVariables false
set_option linter.unusedSimpArgs false
namespace Go.Sep
open Go
def bv (s:ByteArray):List Value:=s.data.toList.map fun u=>Value.int .u8 u.toNat
theorem bv_len (s:ByteArray):(bv s).length = s.size:=by simp [bv]
theorem bv_one (s:ByteArray):oneAll (bv s) = true:=by
 unfold oneAll bv
 rw [List.all_map,List.all_eq_true]
 intro u _;rfl
theorem bv_app (a b:ByteArray):bv (a ++ b) = bv a ++ bv b:=by simp [bv]
theorem bv_extract (s:ByteArray) (i j:Nat):bv (s.extract i j) = ((bv s).take j).drop i:=by
 simp [bv,List.map_take,List.map_drop,List.drop_take]
theorem bv_empty:bv .empty = []:=rfl
theorem bv_arr (s:ByteArray) (n:Nat):((s.extract 0 n).data.map fun b=>(Value.int .u8 (b.toNat:Int))) = (bv (s.extract 0 n)).toArray:=by
 apply Array.ext'
 simp [bv]
theorem oneAll_bv (s:ByteArray):∀ u ∈ bv s,u.oneCell' = true:=oneAll_mem (bv_one s)
theorem run_bytes {P:Program} {w:World} {b o n c:Nat} {s:ByteArray} (hn:s.size = n) (h:∀ j u,(bv s)[j]? = some u → w.cell? ⟨b,o + j,none⟩ = some u) :
  (Conv.bytesToString (.slice (some ⟨b,o,none⟩) n c)).run P w = .ok (.string s) w:=by
 have hrd:(loadCells ⟨b,o,none⟩ n).run P w = .ok (bv s).toArray w:=run_loadCells (by rw [bv_len,hn]) h
 unfold Conv.bytesToString
 simp only [Sem.run_bind,hrd,Result.andThen_ok]
 rw [List.forIn_toArray]
 have e:bv s = (s.data.toList.map fun u=>((u.toNat:Nat):Int)).map fun n=>Value.int .u8 n:=by simp [bv]
 rw [e,run_pushes (fun _ _=>rfl)]
 simp only [Result.andThen_ok,Sem.run_pure]
 congr 2
 have:∀ (l:List UInt8) (acc:ByteArray),(l.map fun u=>((u.toNat:Nat):Int)).foldl (fun r n=>r.push (UInt8.ofNat n.toNat)) acc = ⟨acc.data ++ l.toArray⟩:=by
  intro l
  induction l with
  | nil=>intro acc;simp
  | cons x l ih =>
   intro acc
   rw [List.map_cons,List.foldl_cons,ih]
   apply ByteArray.ext
   simp [ByteArray.push]
 rw [this]
 apply ByteArray.ext
 simp
section
variable {P:Program} {N:Fi} {B:Base} {Q:Exit → Act → World → Prop} {T:Tm} {A:List Blk} {ops:Array Oper} {l:List Oper}
variable {d:Nat} {ty:TypeId} {pos:String} {af:Array Edge} {m:Md} {gd:Option (Nat × Bool)}
theorem Ops.slAr {t e:TypeId} {ge:Bool} {x:Operand} {n sz bs b o:Nat} {zc:List Value} (hm:m.rd true = true) (hg:gst ops T gd = some true) [ht:TyD P t (.array n e)] [he:Ty P e ge sz bs zc] (hx:ev T x = some (.pointer (some ⟨b,o,none⟩))) (hd:Nat.blt d N.n = true)
  (k:Ops P N B Q ops m.tl l ((d,.slice (some ⟨b,o,none⟩) n n) :: T) A):Ops P N B Q ops m (⟨some d,.slice t x none none none,ty,pos,af,gd⟩ :: l) T A :=
 Ops.pureV hm hg hd (fun a w hF=>by
  simp [execOp,hF.eval hx,Instr.sliceAt,Instr.sureAddr,ht.run_und,Instr.sliceBounds,he.run_size,add_none]) k
theorem Ops.slArHi {t e:TypeId} {ge:Bool} {x z:Operand} {n sz bs b o:Nat} {k':IntKind} {j:Int} {zc:List Value} (hm:m.rd true = true) (hg:gst ops T gd = some true) [ht:TyD P t (.array n e)] [he:Ty P e ge sz bs zc] (hx:ev T x = some (.pointer (some ⟨b,o,none⟩))) (hz:ev T z = some (.int k' j)) (h0:0 ≤ j) (h1:j ≤ n) (hd:Nat.blt d N.n = true)
  (k:Ops P N B Q ops m.tl l ((d,.slice (some ⟨b,o,none⟩) j.toNat n) :: T) A):Ops P N B Q ops m (⟨some d,.slice t x none (some z) none,ty,pos,af,gd⟩ :: l) T A :=
 Ops.pureV hm hg hd (fun a w hF=>by
  simp [execOp,hF.eval hx,hF.eval hz,Instr.sliceAt,Instr.sureAddr,ht.run_und,Instr.sliceBounds,run_bound h0 h1,he.run_size,add_none]) k
theorem Ops.cvSp {s t e:TypeId} {x:Operand} {b o n c:Nat} {bs:ByteArray} {L:List Value} {E:TypeId} (hm:m.rd false = true) (hg:gst ops T gd = some true) [hs:TyD P s (.slice e)] [he:TyD P e (.int .u8)] [ht:TyD P t .string] (hx:ev T x = some (.slice (some ⟨b,o,none⟩) n c)) [hb:Has A b (cl L E)]
  (hn:bs.size = n) (h:∀ j u,(bv bs)[j]? = some u → L[o + j]? = some u) (hd:Nat.blt d N.n = true) (k:Ops P N B Q ops m.tl l ((d,.string bs) :: T) A):Ops P N B Q ops m (⟨some d,.convert s t x,ty,pos,af,gd⟩ :: l) T A :=
 Ops.readV hm hg hd (fun a w hF hS=>by
  have hr:=run_bytes (P:=P) (w:=w) (b:=b) (o:=o) (c:=c) hn (fun j u hu=>by rw [cell_of (hS.here _ hb.mem)];exact h j u hu)
  have:(convert s t (.slice (some ⟨b,o,none⟩) n c)).run P w = .ok (.string bs) w:=by
   simp [convert,hs.run_und,ht.run_und,he.run_und,hr]
  simp [execOp,hF.eval hx,this]) k
theorem Ops.cpS {t ts e:TypeId} {ge:Bool} {x y:Operand} {b o n c bs:Nat} {s:ByteArray} {zc L L':List Value} {E:TypeId} {A':List Blk} (hm:m.eff = true) (hg:gst ops T gd = some true) [ht:TyD P t (.slice e)] [he:Ty P e ge 1 bs zc]
  (hx:ev T x = some (.slice (some ⟨b,o,none⟩) n c)) (hy:ev T y = some (.string s)) [hb:Has A b (cl L E)] (hfit:o + min s.size n ≤ L.length) (hL:ins L o (bv (s.extract 0 (min s.size n))) = L') [hu:Upd A b (cl L E) (cl L' E) A'] (hd:Nat.blt d N.n = true)
  (hp:Pd P N B ops m T (some d) (fun v X=>v = .int .i64 (min s.size n:Nat) ∧ X = A')) (k:Ops P N B Q ops m.tl l ((d,.int .i64 (min s.size n:Nat)) :: T) A') :
  Ops P N B Q ops m (⟨some d,.call { callee:=.builtin .copy,args:=#[x,y],argTypes:=#[t,ts] },ty,pos,af,gd⟩ :: l) T A :=
 Ops.effV hm hp hg hd (fun a w hF hS=>by
  obtain ⟨A1,A2,rfl,rfl⟩:=hu.put
  have hlen:(bv (s.extract 0 (min s.size n))).length = min s.size n:=by rw [bv_len];simp
  obtain ⟨w',hr,hS'⟩:=run_storeCells (P:=P) (off:=o) (bv (s.extract 0 (min s.size n))) 0 L w hS (oneAll_bv _) (by rw [hlen];omega)
  rw [Nat.add_zero,hL] at hS'
  have h2:(Builtin.copy_ #[t,ts] ty #[.slice (some ⟨b,o,none⟩) n c,.string s]).run P w = .ok (.int .i64 (min s.size n:Nat)) w':=by
   have hfc:(Builtin.firstCells 1 (min s.size n) (.string s)).run P w = .ok (bv (s.extract 0 (min s.size n))).toArray w:=by
    simp only [Builtin.firstCells,bv_arr,Sem.run_pure]
   have hn':s.size.min n = min s.size n:=rfl
   simp [Builtin.copy_,ht.run_und,he.run_size,Builtin.lenOf,hn',hfc,hr]
   rfl
  simp only [execOp,resolve,invoke,builtin,Sem.run_bind,Sem.run_pure,Result.andThen_ok,List.map_toArray,List.map_cons,List.map_nil,hF.eval hx,hF.eval hy,h2,effPost]
  exact ⟨_,⟨trivial,rfl⟩,hS'⟩) fun v X ⟨h1,h2⟩=>by rw [h1,h2];exact k
theorem Ops.mkU {t e:TypeId} {ge:Bool} {x y:Operand} {sz bs:Nat} {z:Value} {zc:List Value} {i:Int} {k1 k2:IntKind} (hm:m.eff = true) (hg:gst ops T gd = some true) [ht:TyD P t (.slice e)] [he:Ty P e ge sz bs zc] (hzc:zc = List.replicate sz z) (hx:ev T x = some (.int k1 i)) (hy:ev T y = some (.int k2 i)) (h0:0 < i) (h1:i ≤ 1048576) (hb:bs ≤ 65536) (hsz:0 < sz) (hd:Nat.blt d N.n = true)
  (hp:Pd P N B ops m T (some d) (NewR (fun b=>.slice (some ⟨b,0,none⟩) i.toNat i.toNat) (cl (List.replicate (i.toNat * sz) z) e) A)) (k:∀ b,Ops P N B Q ops m.tl l ((d,.slice (some ⟨b,0,none⟩) i.toNat i.toNat) :: T) ((b,cl (List.replicate (i.toNat * sz) z) e) :: A)):Ops P N B Q ops m (⟨some d,.makeSlice t x y,ty,pos,af,gd⟩ :: l) T A :=
 Ops.new (v:=fun b=>.slice (some ⟨b,0,none⟩) i.toNat i.toNat) hm hp hg hd (fun a w hF hS=>by
  obtain ⟨zv,hz,hzc'⟩:=he.run_zero (w:=w)
  obtain ⟨i3,hi3,his3,hib3⟩:=he.run_info (w:=w)
  obtain ⟨n,rfl⟩:∃ n:Nat,i = n:=⟨i.toNat,by omega⟩
  have wl:IntKind.i64.wrap (n:Int) = n:=by simp [IntKind.wrap,IntKind.bits,IntKind.signed];omega
  have hnb:n * bs ≤ 1048576 * 65536:=Nat.mul_le_mul (by omega) hb
  have hnb':(bs:Int) * (n:Int) ≤ 68719476736:=by
   have:((n * bs:Nat):Int) ≤ ((1048576 * 65536:Nat):Int):=by exact_mod_cast hnb
   rw [Int.natCast_mul,Int.mul_comm] at this
   omega
  have n1:¬ ((n:Int) < 0):=by omega
  have n2:¬ (281474976710656 < (bs:Int) * (n:Int)):=by omega
  have n3:¬ (140737488355328 < n * bs):=by omega
  have hn0:¬ n * sz = 0:=by
   intro h
   rcases Nat.mul_eq_zero.1 h with h|h <;> omega
  have hn1:¬ (n = 0 ∨ sz = 0):=by omega
  simp [execOp,hF.eval hx,hF.eval hy,Instr.makeSlice,ht.run_und,asInt,asIntOf,hi3,his3,hib3,he.run_size,wl,n1,n2,n3,newRow,askRoom,roomBytes,cl,hn0,hn1,hz,hzc',hzc]
  congr 2
  apply Array.ext
  ·simp
  ·intro q h1 h2
   simp [Nat.mod_lt _ hsz]) k
theorem Ops.cpNil {t ts e:TypeId} {ge:Bool} {x y:Operand} {a0:Option Addr} {n c bs:Nat} {zc:List Value} (hm:m.rd true = true) (hg:gst ops T gd = some true) [ht:TyD P t (.slice e)] [he:Ty P e ge 1 bs zc]
  (hx:ev T x = some (.slice a0 n c)) (hy:ev T y = some (.slice none 0 0)) (hd:Nat.blt d N.n = true) (k:Ops P N B Q ops m.tl l ((d,.int .i64 0) :: T) A) :
  Ops P N B Q ops m (⟨some d,.call { callee:=.builtin .copy,args:=#[x,y],argTypes:=#[t,ts] },ty,pos,af,gd⟩ :: l) T A :=
 Ops.pureV hm hg hd (fun a w hF=>by
  have h2:(Builtin.copy_ #[t,ts] ty #[.slice a0 n c,.slice none 0 0]).run P w = .ok (.int .i64 0) w:=by
   cases a0 <;> simp [Builtin.copy_,ht.run_und,he.run_size,Builtin.lenOf,Builtin.firstCells,storeCells] <;> rfl
  simp only [execOp,resolve,invoke,builtin,Sem.run_bind,Sem.run_pure,Result.andThen_ok,List.map_toArray,List.map_cons,List.map_nil,hF.eval hx,hF.eval hy,h2]) k
end
end Go.Sep
namespace Go.Proofs.YtaecdnfkcebbeaaGreat
open Go Go.Sep Go.Proofs
set_option maxRecDepth 10000
set_option maxHeartbeats 40000000
set_option synthInstance.maxSize 2000
def zs:ByteArray:=⟨Array.replicate 128 0⟩
theorem bv_zs:bv zs = List.replicate 128 (.int .u8 0):=by simp [bv,zs]
theorem zeros_eq (n:Nat):List.replicate (n * 128) (Value.int .u8 0) = ((List.replicate n zs).map bv).flatten ++ []:=by
 rw [List.append_nil]
 induction n with
 | zero=>rfl
 | succ n ih=>rw [List.replicate_succ,List.map_cons,List.flatten_cons,← ih,bv_zs,List.replicate_append_replicate];congr 1;omega
@[reducible] def DkB (db g c n:Nat) (rv:Value) (ar bd:Int) (de:Bool):Blk:=(db,cl [.slice (some ⟨g,0,none⟩) n c,rv,.int .i64 ar,.int .i64 bd,.bool de] 108)
@[reducible] def SeB (g:Nat) (S:List ByteArray) (sp:List Value):Blk:=(g,cl ((S.map bv).flatten ++ sp) 209)
def DiskA (db:Nat) (S:List ByteArray) (ar bd:Int) (de:Bool) (k:Nat) (D:List Blk):Prop :=
 ∃ g c sp rv rows H,D = DkB db g c S.length rv ar bd de :: SeB g S sp :: H ∧ Own 211 2 rv rows H ∧ rows.length ≤ k ∧ S.length ≤ c ∧ (∀ s ∈ S,s.size = 128)
theorem dnew_spec (n:Nat) (h1:1 ≤ n) (h2:n ≤ 1026):Con Tryz.prog 14 #[.int .i64 n] [] fun v A=>∃ db,v = .tuple #[ptr db,.int .i64 0] ∧ DiskA db (List.replicate n zs) 0 0 false 0 A:=by
 refine Con.intro (vs:=[_]) Tryz.func14 rfl Tryz.ntmps14 rfl (fun B=>?_)
 have g1:¬ (n:Int) < 1:=by omega
 have g2:¬ 1026 < (n:Int):=by omega
 refine zg21 ?_
 refine Ops.mkU (z:=.int .u8 0) (sz:=128) rfl rfl rfl rfl rfl (by omega) (by omega) (by omega) (by omega) rfl (noPd rfl) (fun g=>?_)
 rw [show ((n:Int).toNat) = n from by omega,zeros_eq]
 repeat' (first|refine Ops.nil ?_|refine Ops.asg rfl rfl rfl rfl ?_|refine Ops.bld rfl rfl rfl rfl ?_|refine Ops.box rfl rfl rfl rfl (noPd rfl) (fun b=>?_))
 rename Nat=>db
 exact Cd.ret (ret2 (A':=[DkB db g n n (.slice none 0 0) 0 0 false,SeB g (List.replicate n zs) []]) rfl (Res.tmp rfl) (Res.tmp rfl) (fun _ h=>h.split) ⟨db,rfl,g,n,[],.slice none 0 0,[],[],by rw [List.length_replicate],Own.none,Nat.le_refl _,by simp,fun s hs=>by rw [List.eq_of_mem_replicate hs];rfl⟩)
theorem dsize_spec (db:Nat) (S:List ByteArray) (ar bd:Int) (de:Bool) (k:Nat) (D:List Blk) (hD:DiskA db S ar bd de k D):Con Tryz.prog 72 #[ptr db] D fun v A=>v = .int .i64 S.length ∧ A = D:=by
 obtain ⟨g,c,sp,rv,rows,H,rfl,hown,hk,hc,hs⟩:=hD
 refine Con.intro (vs:=[_]) Tryz.func72 rfl Tryz.ntmps72 rfl (fun B=>?_)
 refine zg7 ?_
 exact ze64
theorem ddead_spec (db:Nat) (S:List ByteArray) (ar bd:Int) (de:Bool) (k:Nat) (D:List Blk) (hD:DiskA db S ar bd de k D):Con Tryz.prog 73 #[ptr db] D fun v A=>v = .bool de ∧ A = D:=by
 obtain ⟨g,c,sp,rv,rows,H,rfl,hown,hk,hc,hs⟩:=hD
 refine Con.intro (vs:=[_]) Tryz.func73 rfl Tryz.ntmps73 rfl (fun B=>?_)
 refine zg4 ?_
 exact ze64
theorem dis_spec (db:Nat) (S:List ByteArray) (ar bd:Int) (de:Bool) (k:Nat) (D:List Blk) (hD:DiskA db S ar bd de k D) (i:Int):Con Tryz.prog 119 #[ptr db,.int .i64 i] D fun v A=>v = .bool (decide (0 ≤ i ∧ i < S.length)) ∧ A = D:=by
 obtain ⟨g,c,sp,rv,rows,H,rfl,hown,hk,hc,hs⟩:=hD
 refine Con.intro (vs:=[_,_]) Tryz.func119 rfl Tryz.ntmps119 rfl (fun B=>?_)
 by_cases h0:0 ≤ i
 ·by_cases h1:i < (S.length:Int)
  ·rw [decide_eq_true (⟨h0,h1⟩:0 ≤ i ∧ i < S.length)]
   refine zg22 ?_
   exact Cd.ret (ret1 (A':=DkB db g c S.length rv ar bd de :: SeB g S sp :: H) rfl (Res.tmp rfl) (fun _ h=>h.split) ⟨by rw [decide_eq_true h1],rfl⟩)
  ·rw [decide_eq_false (fun h:0 ≤ i ∧ i < S.length=>h1 h.2)]
   refine zg22 ?_
   exact Cd.ret (ret1 (A':=DkB db g c S.length rv ar bd de :: SeB g S sp :: H) rfl (Res.tmp rfl) (fun _ h=>h.split) ⟨by rw [decide_eq_false h1],rfl⟩)
 ·rw [decide_eq_false (fun h:0 ≤ i ∧ i < S.length=>h0 h.1)]
  refine zg11 ?_
  exact ze64
theorem bv_rows {S:List ByteArray} (hs:∀ s ∈ S,s.size = 128):RowsOk 128 (S.map bv):=fun r hr=>by
 obtain ⟨s,h,rfl⟩:=List.mem_map.1 hr
 exact ⟨by rw [bv_len,hs s h],bv_one s⟩
theorem sec_at {S:List ByteArray} (hs:∀ s ∈ S,s.size = 128) {i:Nat} {s:ByteArray} (hi:S[i]? = some s) (sp:List Value):∀ j u,(bv s)[j]? = some u → ((S.map bv).flatten ++ sp)[i * 128 + j]? = some u:=fun j u hu=>by
 have hr:=bv_rows hs
 have hj:j < 128:=by
  have:=(List.getElem?_eq_some_iff.1 hu).1
  rw [bv_len,hs s (List.mem_of_getElem? hi)] at this
  exact this
 have h1:=hr.at_ (i:=i) (k:=j) (r:=bv s) (by rw [List.getElem?_map,hi];rfl) hj
 rw [List.getElem?_append_left (List.getElem?_eq_some_iff.1 (h1.trans hu)).1,h1,hu]
theorem sec_set {S:List ByteArray} (hs:∀ s ∈ S,s.size = 128) {i:Nat} {s x:ByteArray} (hi:S[i]? = some s) (hx:x.size ≤ 128) (sp:List Value) :
  ins ((S.map bv).flatten ++ sp) (i * 128) (bv x) = ((S.set i (x ++ s.extract x.size 128)).map bv).flatten ++ sp:=by
 have hr:=bv_rows hs
 have hlt:=(List.getElem?_eq_some_iff.1 hi).1
 have hsz:=hs s (List.mem_of_getElem? hi)
 have h:=rows_setN (i:=i) (o:=0) (r:=bv s) (r':=bv (x ++ s.extract x.size 128)) (vs:=bv x) hr (by rw [List.getElem?_map,hi];rfl) ⟨by
  rw [bv_app,bv_extract]
  simp only [List.take_zero,List.nil_append,Nat.zero_add,bv_len]
  rw [List.take_of_length_le (by rw [bv_len];omega)],by rw [bv_len,bv_len];omega⟩ sp
 rw [Nat.add_zero] at h
 rw [h,List.map_set]
def readD (S:List ByteArray) (de:Bool) (i:Int):ByteArray × Int:=if de then (.empty,2) else if 0 ≤ i ∧ i < S.length then (S.getD i.toNat .empty,0) else (.empty,40)
theorem dread_spec (db:Nat) (S:List ByteArray) (ar bd:Int) (de:Bool) (k:Nat) (D:List Blk) (hD:DiskA db S ar bd de k D) (i:Int):Con Tryz.prog 191 #[ptr db,.int .i64 i] D fun v A=>v = .tuple #[.string (readD S de i).1,.int .i64 (readD S de i).2] ∧ A = D:=by
 have hD0:=hD
 obtain ⟨g,c,sp,rv,rows,H,rfl,hown,hk,hc,hs⟩:=hD
 refine Con.intro (vs:=[_,_]) Tryz.func191 rfl Tryz.ntmps191 rfl (fun B=>?_)
 cases de with
 | true =>
  refine zg7 ?_
  exact Cd.ret (ret2 (A':=DkB db g c S.length rv ar bd true :: SeB g S sp :: H) rfl (Res.tmp rfl) (Res.tmp rfl) (fun _ h=>h.split) ⟨rfl,rfl⟩)
 | false =>
  refine zg7 ?_
  refine Ops.call (dis_spec db S ar bd false k _ hD0 i) rfl (noPd rfl) rfl rfl rfl (fun v A' hR=>?_)
  obtain ⟨rfl,rfl⟩:=hR
  by_cases hin:0 ≤ i ∧ i < S.length
  ·rw [decide_eq_true hin,show readD S false i = (S.getD i.toNat .empty,0) from by unfold readD;rw [if_neg (by simp),if_pos hin]]
   obtain ⟨h0,h1⟩:=hin
   refine zg37 ?_
   refine Ops.slAr rfl rfl rfl rfl ?_
   have hi:S[i.toNat]? = some (S.getD i.toNat .empty):=by
    rw [List.getD_eq_getElem?_getD,List.getElem?_eq_getElem (by omega)];rfl
   refine Ops.cvSp (bs:=S.getD i.toNat .empty) rfl rfl rfl (hs _ (List.mem_of_getElem? hi)) (sec_at hs hi sp) rfl ?_
   refine zg1 ?_
   exact ze65
  ·rw [decide_eq_false hin,show readD S false i = (.empty,40) from by unfold readD;rw [if_neg (by simp),if_neg hin]]
   refine zg15 ?_
   exact ze65
def cutS (x s:ByteArray) (n:Nat):ByteArray:=x.extract 0 n ++ s.extract n 128
theorem cutS_size {x s:ByteArray} {n:Nat} (hx:x.size = 128) (hs:s.size = 128) (hn:n ≤ 128):(cutS x s n).size = 128:=by simp [cutS,hx,hs];omega
theorem cutS_full {x s:ByteArray} (hx:x.size = 128):cutS x s 128 = x:=by
 have h1:x.extract 0 128 = x:=by rw [← hx];exact ByteArray.extract_zero_size
 have h2:s.extract 128 128 = .empty:=by simp
 rw [cutS,h1,h2,ByteArray.append_empty]
def writeD (S:List ByteArray) (ar bd:Int) (de:Bool) (i:Int) (x:ByteArray):(List ByteArray × Int × Bool) × Int :=
 if de then ((S,ar,de),2)
 else if ¬ (0 ≤ i ∧ i < S.length) then ((S,ar,de),40)
 else if x.size ≠ 128 then ((S,ar,de),41)
 else if ar = 1 then ((S.set i.toNat (cutS x (S.getD i.toNat .empty) bd.toNat),ar,true),2)
 else ((S.set i.toNat x,max 0 (ar - 1),de),0)
theorem dwrite_spec (db:Nat) (S:List ByteArray) (ar bd:Int) (de:Bool) (k:Nat) (D:List Blk) (hD:DiskA db S ar bd de k D) (i:Int) (x:ByteArray) (hk:k ≤ 1000000000000) (hb0:0 ≤ bd) (hb1:bd ≤ 128) (har:0 ≤ ar) (har2:ar ≤ 9223372036854775807) :
  Con Tryz.prog 76 #[ptr db,.int .i64 i,.string x] D fun v A=>v = .int .i64 (writeD S ar bd de i x).2 ∧ DiskA db (writeD S ar bd de i x).1.1 (writeD S ar bd de i x).1.2.1 bd (writeD S ar bd de i x).1.2.2 (k + 1) A:=by
 have hD0:=hD
 obtain ⟨g,c,sp,rv,rows,H,rfl,hown,hk1,hc,hs⟩:=hD
 have hD1:DiskA db S ar bd de (k + 1) (DkB db g c S.length rv ar bd de :: SeB g S sp :: H):=⟨g,c,sp,rv,rows,H,rfl,hown,by omega,hc,hs⟩
 refine Con.intro (vs:=[_,_,_]) Tryz.func76 rfl Tryz.ntmps76 rfl (fun B=>?_)
 unfold writeD
 cases de with
 | true =>
  refine zg7 ?_
  exact Cd.ret (ret1 (A':=DkB db g c S.length rv ar bd true :: SeB g S sp :: H) rfl (Res.tmp rfl) (fun _ h=>h.split) ⟨rfl,hD1⟩)
 | false =>
  simp only [Bool.false_eq_true,if_false]
  refine zg7 ?_
  refine Ops.call (dis_spec db S ar bd false k _ hD0 i) rfl (noPd rfl) rfl rfl rfl (fun v A' hR=>?_)
  obtain ⟨rfl,rfl⟩:=hR
  by_cases hin:0 ≤ i ∧ i < S.length
  ·rw [decide_eq_true hin,if_neg (not_not_intro hin)]
   obtain ⟨h0,h1⟩:=hin
   have hi:S[i.toNat]? = some (S.getD i.toNat .empty):=by
    rw [List.getD_eq_getElem?_getD,List.getElem?_eq_getElem (by omega)];rfl
   have hss:=hs _ (List.mem_of_getElem? hi)
   by_cases hx:x.size = 128
   ·rw [if_neg (not_not_intro hx)]
    have hfit:∀ n,n ≤ 128 → i.toNat * 128 + n ≤ ((S.map bv).flatten ++ sp).length:=fun n hn=>by
     rw [List.length_append,(bv_rows hs).len,List.length_map]
     have:(i.toNat + 1) * 128 ≤ S.length * 128:=Nat.mul_le_mul_right _ (by omega)
     omega
    have hx':(x.size:Int) = 128:=by omega
    by_cases h1r:ar = 1
    ·rw [if_pos h1r]
     refine zg43 ?_
     refine Cd.draw [(0,0,[]),(1,0,[]),(2,0,[]),(3,1,[]),(4,0,[]),(5,0,[]),(6,0,[]),(7,0,[]),(8,0,[]),(9,1,[]),(10,0,[]),(11,0,[]),(12,2,[])] (by kernel_rfl) (by kernel_rfl) (by simp only [picked,nth];exact rfl) ?_
     refine zg37 ?_
     refine Ops.slArHi rfl rfl rfl rfl hb0 hb1 rfl ?_
     refine zg0 ?_
     have hmin:min x.size bd.toNat = bd.toNat:=by omega
     refine Ops.cpS (L':=((S.set i.toNat (cutS x (S.getD i.toNat .empty) bd.toNat)).map bv).flatten ++ sp) rfl rfl rfl rfl (by rw [hmin];exact hfit _ (by omega)) ?_ rfl (noPd rfl) ?_
     ·rw [hmin,sec_set hs hi (by simp;omega) sp]
      simp only [cutS,ByteArray.size_extract,show min bd.toNat x.size - 0 = bd.toNat from by omega]
     refine zg4 ?_
     refine Cd.ret (ret1 (A':=DkB db g c S.length rv ar bd true :: SeB g (S.set i.toNat (cutS x (S.getD i.toNat .empty) bd.toNat)) sp :: H) rfl (Res.tmp rfl) (fun _ h=>h.split) ⟨rfl,g,c,sp,rv,rows,H,by rw [List.length_set],hown,by omega,by rw [List.length_set];exact hc,fun s hm=>?_⟩)
     rcases List.mem_or_eq_of_mem_set hm with hm|rfl
     ·exact hs s hm
     ·exact cutS_size hx hss (by omega)
    ·rw [if_neg h1r]
     obtain ⟨a0,c0,hsv⟩:=hown.form
     subst hsv
     refine zg41 ?_
     have hmin:min x.size 128 = 128:=by omega
     refine Ops.slAr rfl rfl rfl rfl ?_
     refine zg0 ?_
     refine Ops.cpS (L':=((S.set i.toNat x).map bv).flatten ++ sp) rfl rfl rfl rfl (by rw [hmin];exact hfit _ (by omega)) ?_ rfl (noPd rfl) ?_
     ·rw [hmin,sec_set hs hi (by simp;omega) sp,ByteArray.size_extract,show min 128 x.size - 0 = 128 from by omega]
      have h9:=cutS_full (s:=S.getD i.toNat .empty) hx
      rw [cutS] at h9
      rw [h9]
     repeat' (first|refine Cd.seq ?_|refine Cd.reg ?_|refine Ops.mv rfl rfl rfl rfl ?_|refine Ops.nilP rfl rfl rfl rfl ?_|refine Ops.fa0 rfl rfl rfl rfl ?_|refine Ops.ld1 rfl rfl rfl rfl rfl ?_|refine Ops.bld rfl rfl rfl rfl ?_|refine Ops.bs1 rfl rfl rfl rfl rfl rfl rfl (noPd rfl) (fun b=>?_))
     refine Ops.app1 hown (by omega) (by omega) rfl rfl rfl rfl (by rfl) (by rfl) rfl (noPd rfl) rfl (fun v' G' hG'=>?_)
     obtain ⟨a1,c1,rfl⟩:=hG'.form
     refine zg4 ?_
     refine Cd.ret (ret1 (A':=DkB db g c S.length _ (max 0 (ar - 1)) bd false :: SeB g (S.set i.toNat x) sp :: G') rfl (Res.tmp rfl) (fun _ h=>h.split) ⟨rfl,g,c,sp,_,_,G',by rw [List.length_set],hG',by simp;omega,by rw [List.length_set];exact hc,fun s hm=>?_⟩)
     rcases List.mem_or_eq_of_mem_set hm with hm|rfl
     ·exact hs s hm
     ·exact hx
   ·rw [if_pos hx]
    have hx':¬ (x.size:Int) = 128:=by omega
    refine zg29 ?_
    exact ze1
  ·rw [decide_eq_false hin,if_pos hin]
   refine zg15 ?_
   exact ze1
end Go.Proofs.YtaecdnfkcebbeaaGreat
