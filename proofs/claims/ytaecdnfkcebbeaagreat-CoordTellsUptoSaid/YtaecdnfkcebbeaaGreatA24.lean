import Derived.Test.YtaecdnfkcebbeaaGreatA23
import Derived.Test.YtaecdnfkcebbeaaGreatA01
import Derived.Test.YtaecdnfkcebbeaaGreatA11
import Derived.Test.YtaecdnfkcebbeaaGreatA15
import Derived.Test.YtaecdnfkcebbeaaGreatA22
set_option linter.unusedVariables false
set_option linter.unusedSimpArgs false
namespace Go.Proofs.YtaecdnfkcebbeaaGreat
open Go Go.Sep Go.Proofs
set_option maxRecDepth 10000
set_option maxHeartbeats 40000000
set_option synthInstance.maxSize 2000
theorem Con.insert1 {P:Program} {f:FuncId} {args:Array Value} {x:Blk} {H:List Blk} {φ:Value → Prop} (G0:List Blk) (h:Con P f args (x :: H) fun v A=>φ v ∧ A = x :: H):Con P f args (x :: (G0 ++ H)) fun v A=>φ v ∧ A = x :: (G0 ++ H) :=
 ((h.beside (F:=G0)).permIn (List.Perm.cons x List.perm_append_comm)).permOut fun v A' hR=>by
  obtain ⟨A2,⟨hφ,rfl⟩,rfl⟩:=hR
  exact ⟨_,⟨hφ,rfl⟩,List.Perm.cons x List.perm_append_comm⟩
theorem Con.append1 {P:Program} {f:FuncId} {args:Array Value} {x:Blk} {H:List Blk} {φ:Value → Prop} (G0:List Blk) (h:Con P f args (x :: H) fun v A=>φ v ∧ A = x :: H):Con P f args (x :: (H ++ G0)) fun v A=>φ v ∧ A = x :: (H ++ G0) :=
 (h.beside (F:=G0)).mono fun v A' hR=>by
  obtain ⟨A2,⟨hφ,rfl⟩,rfl⟩:=hR
  exact ⟨hφ,rfl⟩
theorem FdsA.len {fds:List Fd} {rows:List (List Value)} {G:List Blk} (h:FdsA fds rows G):rows.length = fds.length:=by
 induction h with
 | nil=>rfl
 | cons _ _ ih=>simp [ih]
theorem FdsA.ok {fds:List Fd} {rows:List (List Value)} {G:List Blk} (h:FdsA fds rows G):RowsOk 3 rows:=by
 induction h with
 | nil=>exact RowsOk.nil
 | cons h1 _ ih =>
  obtain ⟨⟨f1,c1,rfl,_⟩,⟨f2,c2,rfl,_⟩,⟨f3,c3,rfl,_⟩⟩:=h1
  exact (RowsOk.one rfl rfl).app ih
theorem FdsA.may {fds:List Fd} {rows:List (List Value)} {G:List Blk} (h:FdsA fds rows G):∀ {i:Nat} {fd:Fd},fds[i]? = some fd → ∃ f1 c1 f2 c2 f3 c3,rows[i]? = some [.func (.func f1) #[] (c1:List Value).toArray,.func (.func f2) #[] (c2:List Value).toArray,.func (.func f3) #[] (c3:List Value).toArray] ∧ FnOk Tryz.prog f1 ∧ FnOk Tryz.prog f2 ∧
  (∀ mb m,MsOk m → Con Tryz.prog f1 ([ptr mb] ++ c1).toArray (MgB mb m.row :: G) fun v A=>v = .bool (fd.may m) ∧ A = MgB mb m.row :: G) ∧
  (∀ mb m,MsOk m → fd.may m = true → Con Tryz.prog f2 ([ptr mb] ++ c2).toArray (MgB mb m.row :: G) fun v A=>v = .string (fd.lay m) ∧ A = MgB mb m.row :: G):=by
 induction h with
 | nil=>intro i fd hi;simp at hi
 | @cons fd0 fds v1 v2 v3 rows G0 H h1 h2 ih =>
  intro i fd hi
  cases i with
  | zero =>
   simp only [List.getElem?_cons_zero,Option.some.injEq] at hi
   subst hi
   obtain ⟨⟨f1,c1,rfl,k1,q1⟩,⟨f2,c2,rfl,k2,q2⟩,⟨f3,c3,rfl,_⟩⟩:=h1
   exact ⟨f1,c1,f2,c2,f3,c3,rfl,k1,k2,fun mb m hm=>Con.append1 H (q1 mb m hm),fun mb m hm hy=>Con.append1 H (q2 mb m hm hy)⟩
  | succ i =>
   simp only [List.getElem?_cons_succ] at hi
   obtain ⟨f1,c1,f2,c2,f3,c3,hr,k1,k2,q1,q2⟩:=ih hi
   exact ⟨f1,c1,f2,c2,f3,c3,by simpa using hr,k1,k2,fun mb m hm=>Con.insert1 G0 (q1 mb m hm),fun mb m hm hy=>Con.insert1 G0 (q2 mb m hm hy)⟩
def msEq (a b:Ms):Bool:=decide (a.kind = b.kind) && (decide (a.session = b.session) && (decide (a.number = b.number) && (decide (a.job = b.job) && (decide (a.badge = b.badge) && (decide (a.index = b.index) && (decide (a.count = b.count) && (decide (a.rcode = b.rcode) && (decide (a.rbits = b.rbits) && true) && (decide (a.text = b.text) && (decide (a.prog = b.prog) && true)))))))))
def okF (m:Ms):Bool:=msEq (namedF m) m && !(decide (m.kind = 6) && decide (m.index = 0) && !decide (m.text = ⟨#[]⟩))
def wcheckF (m:Ms):Int:=if m.kind < 1 ∨ 16 < m.kind then 70 else if okF m && (fieldsF m.kind).all (fun fd=>fd.may m) then 0 else 71
theorem take_all {fds:List Fd} {i:Nat} {fd:Fd} (f:Fd → Bool) (c:Bool) (hi:fds[i]? = some fd):((fds.take (i + 1)).all f && c) = (((fds.take i).all f && c) && f fd):=by
 rw [List.take_add_one,hi]
 simp only [Option.toList_some,List.all_append,List.all_cons,List.all_nil,Bool.and_true]
 cases (fds.take i).all f <;> cases f fd <;> cases c <;> rfl
theorem wcheck_spec (m:Ms) (hok:MsOk m):Con Tryz.prog 90 #[.agg m.row.toArray] [] fun v A=>v = .int .i64 (wcheckF m) ∧ A = []:=by
 refine Con.intro (vs:=[_]) Tryz.func90 rfl Tryz.ntmps90 rfl (fun B=>?_)
 generalize hc3:Code.seq (Code.region 3 _ _) _ = c3
 by_cases h0:m.kind < 1
 ·rw [show wcheckF m = 70 from if_pos (.inl h0)]
  repeat' (first|refine Cd.seq ?_|refine Cd.reg ?_|refine Ops.nil ?_|refine Ops.mv rfl rfl rfl rfl ?_|refine Ops.asg rfl rfl rfl rfl ?_|refine Ops.fa0 rfl rfl rfl rfl ?_|refine Ops.ld1 rfl rfl rfl rfl rfl ?_|refine Ops.bin rfl rfl rfl rfl rfl ?_|refine Ops.pickT rfl rfl rfl rfl rfl ?_|refine Ops.box rfl rfl rfl rfl (noPd rfl) (fun b=>?_)|refine Ops.gSkip rfl rfl rfl ?_|refine Cd.condT rfl rfl ?_|((fail_if_success refine Ops.probe rfl ?_);refine Ops.gT rfl rfl zp0 ?_))
  exact ze8
 by_cases h1:16 < m.kind
 ·rw [show wcheckF m = 70 from if_pos (.inr h1)]
  repeat' (first|refine Cd.seq ?_|refine Cd.reg ?_|refine Ops.nil ?_|refine Ops.mv rfl rfl rfl rfl ?_|refine Ops.asg rfl rfl rfl rfl ?_|refine Ops.fa0 rfl rfl rfl rfl ?_|refine Ops.ld1 rfl rfl rfl rfl rfl ?_|refine Ops.bin rfl rfl rfl rfl rfl ?_|refine Ops.pickF rfl rfl rfl rfl rfl ?_|refine Ops.box rfl rfl rfl rfl (noPd rfl) (fun b=>?_)|refine Cd.condT rfl zp0 ?_|((fail_if_success refine Ops.probe rfl ?_);refine Ops.gF rfl rfl zp0 ?_))
  exact ze8
 repeat' (first|refine Cd.seq ?_|refine Cd.reg ?_|refine Ops.nil ?_|refine Ops.mv rfl rfl rfl rfl ?_|refine Ops.asg rfl rfl rfl rfl ?_|refine Ops.fa0 rfl rfl rfl rfl ?_|refine Ops.ld1 rfl rfl rfl rfl rfl ?_|refine Ops.bin rfl rfl rfl rfl rfl ?_|refine Ops.pickF rfl rfl rfl rfl rfl ?_|refine Ops.box rfl rfl rfl rfl (noPd rfl) (fun b=>?_)|refine Cd.skip (Cd.next ?_)|refine Cd.condF rfl zp0 ?_|((fail_if_success refine Ops.probe rfl ?_);refine Ops.gF rfl rfl zp0 ?_))
 rename Nat=>mb
 subst hc3
 refine Cd.cut (σ:=Bool) (fun c=>c = okF m) (fun c=>[(1,ptr mb),(3,.bool c)]) (fun _=>[MgB mb m.row]) ?_ (fun c hc=>?_)
 ·skip
  refine Cd.draw [(0,1,[]),(2,1,[]),(1,2,[2]),(3,0,[]),(4,0,[]),(5,0,[]),(6,1,[]),(7,0,[]),(8,0,[]),(9,0,[]),(10,1,[]),(11,0,[]),(12,0,[]),(13,0,[]),(14,0,[]),(15,1,[]),(16,0,[]),(17,0,[]),(18,0,[]),(19,0,[]),(20,0,[])] (by kernel_rfl) (by kernel_rfl) (by simp only [picked,nth];exact rfl) ?_
  refine zg9 ?_
  refine Ops.call (named_spec m (by omega) (by omega)) rfl zp1 rfl rfl rfl (fun v A' hR=>?_)
  obtain ⟨rfl,rfl⟩:=hR
  repeat' (first|refine Ops.mv rfl rfl rfl rfl ?_|refine Ops.asg rfl rfl rfl rfl ?_|refine Ops.fa0 rfl rfl rfl rfl ?_|refine Ops.ld1 rfl rfl rfl rfl rfl ?_|refine Ops.bin rfl rfl rfl rfl rfl ?_|refine Ops.un rfl rfl rfl rfl ?_|refine Ops.pickT rfl rfl rfl rfl rfl ?_|refine Ops.pickF rfl rfl rfl rfl rfl ?_|refine Ops.gSkip rfl rfl rfl ?_|refine Ops.gSkipU rfl rfl rfl rfl ?_|((fail_if_success refine Ops.probe rfl ?_);refine Ops.gSplit rfl rfl (fun hc=>?_) (fun hc=>?_) <;> (try simp only [decide_eq_true_eq,decide_eq_false_iff_not,Bool.not_eq_true',Bool.not_eq_false',Bool.not_eq_eq_eq_not,Bool.not_true,Bool.not_false,Int.not_lt,Int.not_le] at hc)))
  all_goals refine Ops.nilN (meet_end (Q:=fun _ _ _=>True) _ ?_ ⟨rfl,rfl,trivial⟩ (fun w h=>h.split))
  all_goals simp_all [okF,msEq]
 have hw:wcheckF m = if (fieldsF m.kind).all (fun fd=>fd.may m) && c then 0 else 71:=by
  rw [hc,Bool.and_comm];exact if_neg (by omega)
 rw [hw]
 clear hw hc
 refine zg4 ?_
 refine Ops.call (fields_spec m.kind) rfl (noPd rfl) rfl rfl rfl (fun v A' hR=>?_)
 have hlen:(fieldsF m.kind).length ≤ 5:=by
  unfold fieldsF
  (repeat' split)
  all_goals simp
 generalize fieldsF m.kind = fds at hR hlen ⊢
 rcases hR with ⟨rfl,rfl,rfl⟩|⟨sb,rows,G,rfl,rfl,hF⟩
 ·refine zg3 ?_
  refine Cd.loopK (σ:=Unit) (fun _=>True) (fun _=>[(1,ptr mb),(3,.bool c),(37,.int .i64 0),(38,.int .i64 0)]) (fun _=>[MgB mb m.row]) (fun _=>0) () trivial ⟨rfl,rfl,rfl,rfl,trivial⟩ (fun w h=>h.split) (fun _ _=>?_)
  cases c
  ·refine zg10 ?_
   exact ze8
  ·refine zg10 ?_
   exact ze8
 ·refine zg3 ?_
  refine Cd.loopK (σ:=Nat) (fun i=>i ≤ fds.length) (fun i=>[(1,ptr mb),(3,.bool ((fds.take i).all (fun fd=>fd.may m) && c)),(36,.slice (some ⟨sb,0,none⟩) fds.length fds.length),(37,.int .i64 ((fds.length:Nat):Int)),(38,.int .i64 ((i:Nat):Int))]) (fun i=>MgB mb m.row :: (sb,cl (rows.flatten ++ []) 169) :: G) (fun i=>fds.length - i) 0 (Nat.zero_le _) ⟨rfl,by rw [List.take_zero];rfl,rfl,rfl,rfl,trivial⟩ (fun w h=>h.split) (fun i hi=>?_)
  by_cases hlt:i < fds.length
  ·have hlt':((i:Nat):Int) < ((fds.length:Nat):Int):=by omega
   obtain ⟨fd,hfd⟩:∃ fd,fds[i]? = some fd:=⟨_,List.getElem?_eq_getElem hlt⟩
   obtain ⟨f1,c1,f2,c2,f3,c3,hr,k1,k2,q1,q2⟩:=hF.may hfd
   haveI:=k1
   have hr2:rows[((i:Nat):Int).toNat]? = some [.func (.func f1) #[] c1.toArray,.func (.func f2) #[] c2.toArray,.func (.func f3) #[] c3.toArray]:=by rw [Int.toNat_natCast];exact hr
   have hs:=take_all (fun fd=>fd.may m) c hfd
   generalize hb:((fds.take i).all (fun fd=>fd.may m) && c) = acc at hs ⊢
   cases acc
   ·refine zg35 ?_
    refine Ops.ldRowN (sz:=3) (o:=0) rfl rfl rfl hF.ok hr2 rfl ?_
    repeat' (first|refine Ops.nilN (inB (Cd.next ?_))|refine Cd.reg ?_|refine Ops.mv rfl rfl rfl rfl ?_|refine Ops.asg rfl rfl rfl rfl ?_|refine Ops.addI rfl rfl rfl rfl (by omega) (by omega) rfl ?_|refine Ops.pickF rfl rfl rfl rfl rfl ?_|refine Ops.alloc rfl rfl rfl (noPd rfl) (fun b=>?_)|refine Ops.stN rfl rfl rfl rfl rfl rfl (noPd rfl) ?_|refine Ops.gSkip rfl rfl rfl ?_)
    exact ze40
   ·refine zg35 ?_
    refine Ops.ldRowN (sz:=3) (o:=0) rfl rfl rfl hF.ok hr2 rfl ?_
    repeat' (first|refine Cd.reg ?_|refine Ops.mv rfl rfl rfl rfl ?_|refine Ops.fa0 rfl rfl rfl rfl ?_|refine Ops.ld1 rfl rfl rfl rfl rfl ?_|refine Ops.alloc rfl rfl rfl (noPd rfl) (fun b=>?_)|refine Ops.stN rfl rfl rfl rfl rfl rfl (noPd rfl) ?_)
    refine Ops.callV (fi:=[]) (ca:=c1) (vs:=[ptr mb]) (q1 mb m hok) rfl (noPd rfl) rfl rfl rfl rfl (fun v A' hR=>?_)
    obtain ⟨rfl,rfl⟩:=hR
    refine zg23 ?_
    exact ze40
  ·have hlt':¬ ((i:Nat):Int) < ((fds.length:Nat):Int):=by omega
   have he:i = fds.length:=by omega
   subst he
   rw [List.take_length]
   generalize (fds.all (fun fd=>fd.may m) && c) = acc
   cases acc
   ·refine zg21 ?_
    exact ze8
   ·refine zg21 ?_
    exact ze8
def FdOk:Fd → Prop
 | .whole _ lo hi=>0 ≤ lo ∧ hi ≤ 1099511627776
 | .text _ _ hi=>hi ≤ 1024
 | .result=>True
theorem fields_ok (kind:Int):∀ fd ∈ fieldsF kind,FdOk fd:=by
 unfold fieldsF
 (repeat' split)
 all_goals simp [FdOk]
theorem lay_size {fd:Fd} (h:FdOk fd) {m:Ms} (hok:MsOk m) (hm:fd.may m = true):(fd.lay m).size ≤ 1100:=by
 cases fd with
 | whole w lo hi =>
  simp only [Fd.may,decide_eq_true_eq] at hm
  obtain ⟨h1,h2⟩:=h
  have:=numB_size (n:=(w.get m).toNat) (by omega)
  show (numB (w.get m).toNat).size ≤ _
  omega
 | text t lo hi =>
  simp only [Fd.may,decide_eq_true_eq] at hm
  have h1:hi ≤ 1024:=h
  have:=frameF_size (t.get m) (by omega)
  show (frameF (t.get m)).size ≤ _
  omega
 | result =>
  simp only [Fd.may,Bool.or_eq_true,Bool.and_eq_true,decide_eq_true_eq] at hm
  have h1:=numB_size (n:=m.rcode.toNat) (by omega)
  have h2:=hiB_size m.rbits.toNat 8
  show (numB m.rcode.toNat ++ hiB m.rbits.toNat 8).size ≤ _
  rw [ByteArray.size_append]
  omega
def layG (m:Ms) (fds:List Fd):Nat → ByteArray
 | 0=>numB m.kind.toNat
 | i + 1=>layG m fds i ++ (match fds[i]? with|some fd=>fd.lay m|none=>.empty)
theorem layG_size {m:Ms} {fds:List Fd} (hk:0 ≤ m.kind ∧ m.kind ≤ 16) (ho:∀ fd ∈ fds,FdOk fd) (hok:MsOk m) (hm:∀ fd ∈ fds,fd.may m = true):∀ i,(layG m fds i).size ≤ 10 + i * 1100
 | 0=>by
  have:=numB_size (n:=m.kind.toNat) (by omega)
  show (numB m.kind.toNat).size ≤ _
  omega
 | i + 1=>by
  have ih:=layG_size hk ho hok hm i
  rw [layG,ByteArray.size_append]
  cases hf:fds[i]? with
  | none=>simp only [ByteArray.size_empty];omega
  | some fd =>
   have hmem:=List.mem_of_getElem? hf
   have:=lay_size (ho fd hmem) hok (hm fd hmem)
   dsimp only
   omega
def encF (m:Ms):ByteArray × Int:=if wcheckF m = 0 then (layG m (fieldsF m.kind) (fieldsF m.kind).length,0) else (⟨#[]⟩,wcheckF m)
theorem wencode_spec (m:Ms) (hok:MsOk m):Con Tryz.prog 229 #[.agg m.row.toArray] [] fun v A=>v = .tuple #[.string (encF m).1,.int .i64 (encF m).2] ∧ A = []:=by
 refine Con.intro (vs:=[_]) Tryz.func229 rfl Tryz.ntmps229 rfl (fun B=>?_)
 repeat' (first|refine Cd.seq ?_|refine Cd.reg ?_|refine Ops.asg rfl rfl rfl rfl ?_|refine Ops.ldN rfl rfl rfl rfl ?_|refine Ops.box rfl rfl rfl rfl (noPd rfl) (fun b=>?_))
 rename Nat=>mb
 refine Ops.call (wcheck_spec m hok) rfl (noPd rfl) rfl rfl rfl (fun v A' hR=>?_)
 obtain ⟨rfl,rfl⟩:=hR
 by_cases hc:wcheckF m = 0
 case neg =>
  rw [show encF m = (⟨#[]⟩,wcheckF m) from if_neg hc]
  generalize wcheckF m = e at hc ⊢
  refine zg14 ?_
  exact ze15
 rw [show encF m = (layG m (fieldsF m.kind) (fieldsF m.kind).length,0) from if_pos hc,hc]
 have hk:1 ≤ m.kind ∧ m.kind ≤ 16:=by
  unfold wcheckF at hc
  split at hc
  ·cases hc
  ·omega
 have hall:∀ fd ∈ fieldsF m.kind,fd.may m = true:=by
  unfold wcheckF at hc
  split at hc
  ·cases hc
  ·split at hc
   ·rename_i h
    rw [Bool.and_eq_true,List.all_eq_true] at h
    exact h.2
   ·cases hc
 clear hc
 have hlen:(fieldsF m.kind).length ≤ 5:=by
  unfold fieldsF
  (repeat' split)
  all_goals simp
 have hsz:=layG_size (m:=m) (by omega) (fields_ok m.kind) hok hall
 have hlay:∀ fd ∈ fieldsF m.kind,(fd.lay m).size ≤ 1100:=fun fd h=>lay_size (fields_ok m.kind fd h) hok (hall fd h)
 refine zg7 ?_
 refine Ops.cvI rfl rfl rfl rfl ?_
 rw [show IntKind.wrap .u64 m.kind = ((m.kind.toNat:Nat):Int) from by simp [IntKind.wrap,IntKind.bits,IntKind.signed];omega]
 refine Ops.call (num_spec m.kind.toNat (by omega)) rfl (noPd rfl) rfl rfl rfl (fun v A' hR=>?_)
 obtain ⟨rfl,rfl⟩:=hR
 refine zg4 ?_
 refine Ops.call (fields_spec m.kind) rfl (noPd rfl) rfl rfl rfl (fun v A' hR=>?_)
 generalize fieldsF m.kind = fds at hR hlen hsz hlay hall ⊢
 rcases hR with ⟨rfl,rfl,rfl⟩|⟨sb,rows,G,rfl,rfl,hF⟩
 ·refine zg3 ?_
  refine Cd.loopK (σ:=Unit) (fun _=>True) (fun _=>[(1,ptr mb),(5,.string (layG m [] 0)),(20,.int .i64 0),(21,.int .i64 0)]) (fun _=>[MgB mb m.row]) (fun _=>0) () trivial ⟨rfl,rfl,rfl,rfl,trivial⟩ (fun w h=>h.split) (fun _ _=>?_)
  refine zg10 ?_
  exact ze15
 ·refine zg3 ?_
  refine Cd.loopK (σ:=Nat) (fun i=>i ≤ fds.length) (fun i=>[(1,ptr mb),(5,.string (layG m fds i)),(19,.slice (some ⟨sb,0,none⟩) fds.length fds.length),(20,.int .i64 ((fds.length:Nat):Int)),(21,.int .i64 ((i:Nat):Int))]) (fun i=>MgB mb m.row :: (sb,cl (rows.flatten ++ []) 169) :: G) (fun i=>fds.length - i) 0 (Nat.zero_le _) ⟨rfl,rfl,rfl,rfl,rfl,trivial⟩ (fun w h=>h.split) (fun i hi=>?_)
  by_cases hlt:i < fds.length
  ·have hlt':((i:Nat):Int) < ((fds.length:Nat):Int):=by omega
   obtain ⟨fd,hfd⟩:∃ fd,fds[i]? = some fd:=⟨_,List.getElem?_eq_getElem hlt⟩
   obtain ⟨f1,c1,f2,c2,f3,c3,hr,k1,k2,q1,q2⟩:=hF.may hfd
   haveI:=k2
   have hmem:=List.mem_of_getElem? hfd
   have hr2:rows[((i:Nat):Int).toNat]? = some [.func (.func f1) #[] c1.toArray,.func (.func f2) #[] c2.toArray,.func (.func f3) #[] c3.toArray]:=by rw [Int.toNat_natCast];exact hr
   have hs:layG m fds (i + 1) = layG m fds i ++ fd.lay m:=by rw [layG,hfd]
   have hz1:=hsz i
   have hz2:=hlay fd hmem
   generalize layG m fds i = acc at hs hz1 ⊢
   refine zg35 ?_
   refine Ops.ldRowN (sz:=3) (o:=0) rfl rfl rfl hF.ok hr2 rfl ?_
   repeat' (first|refine Cd.reg ?_|refine Ops.mv rfl rfl rfl rfl ?_|refine Ops.fa0 rfl rfl rfl rfl ?_|refine Ops.ld1 rfl rfl rfl rfl rfl ?_|refine Ops.alloc rfl rfl rfl (noPd rfl) (fun b=>?_)|refine Ops.stN rfl rfl rfl rfl rfl rfl (noPd rfl) ?_)
   refine Ops.callV (fi:=[]) (ca:=c2) (vs:=[ptr mb]) (q2 mb m hok (hall fd hmem)) rfl (noPd rfl) rfl rfl rfl rfl (fun v A' hR=>?_)
   obtain ⟨rfl,rfl⟩:=hR
   refine Ops.cat rfl rfl rfl rfl (by omega) rfl ?_
   refine zg18 ?_
   exact ze40
  ·have hlt':¬ ((i:Nat):Int) < ((fds.length:Nat):Int):=by omega
   have he:i = fds.length:=by omega
   subst he
   refine zg12 ?_
   exact ze15
end Go.Proofs.YtaecdnfkcebbeaaGreat
namespace Go.Sep
open Go
def andNotI (k:IntKind) (a b:Int):Int:=k.wrap ((BitVec.ofInt k.bits a &&& ~~~(BitVec.ofInt k.bits b)).toNat:Int)
section
variable {P:Program} {t:TypeId} {k:IntKind} {a b:Int}
instance (priority:=400) BinRun.andNotI:BinRun P .andNot t (.int k a) (.int k b) (.int k (andNotI k a b)):=⟨fun _ _ w=>by simp [eqGuard,binOp,Op.intBits,Sep.andNotI]⟩
end
section
variable {P:Program} {N:Fi} {B:Base} {Q:Exit → Act → World → Prop} {T:Tm} {A:List Blk} {ops:Array Oper} {l:List Oper}
variable {d:Nat} {ty:TypeId} {pos:String} {af:Array Edge} {m:Md} {gd:Option (Nat × Bool)}
theorem Ops.remU {t t':TypeId} {x y:Operand} {a b:Nat} (hm:m.rd true = true) (hg:gst ops T gd = some true) (hx:ev T x = some (.int .u64 a)) (hy:ev T y = some (.int .u64 b)) (hb:b ≠ 0) (hd:Nat.blt d N.n = true)
  (k:Ops P N B Q ops m.tl l ((d,.int .u64 ((a % b:Nat):Int)) :: T) A):Ops P N B Q ops m (⟨some d,.binOp .rem t x y t',ty,pos,af,gd⟩ :: l) T A :=
 Ops.pureV hm hg hd (fun a' w hF=>by
  have h3:((a:Int)).tmod (b:Int) = (a:Int) % (b:Int):=rfl
  simp [execOp,hF.eval hx,hF.eval hy,eqGuard,binOp,Op.intDiv,hb,h3]) k
theorem Ops.quoU {t t':TypeId} {x y:Operand} {a b:Nat} (hm:m.rd true = true) (hg:gst ops T gd = some true) (hx:ev T x = some (.int .u64 a)) (hy:ev T y = some (.int .u64 b)) (ha:a < 18446744073709551616) (hb:b ≠ 0) (hd:Nat.blt d N.n = true)
  (k:Ops P N B Q ops m.tl l ((d,.int .u64 ((a / b:Nat):Int)) :: T) A):Ops P N B Q ops m (⟨some d,.binOp .quo t x y t',ty,pos,af,gd⟩ :: l) T A :=
 Ops.pureV hm hg hd (fun a' w hF=>by
  have h1:a / b ≤ a:=Nat.div_le_self _ _
  have h2:∀ q:Nat,q < 18446744073709551616 → IntKind.u64.wrap (q:Int) = q:=by intro q hq;simp [IntKind.wrap,IntKind.bits,IntKind.signed];omega
  have h4:IntKind.u64.wrap ((a:Int) / (b:Int)) = (a:Int) / (b:Int):=by have:=h2 (a / b) (by omega);push_cast at this;exact this
  have h3:((a:Int)).tdiv (b:Int) = (a:Int) / (b:Int):=rfl
  simp [execOp,hF.eval hx,hF.eval hy,eqGuard,binOp,Op.intDiv,hb,h3,h4]) k
theorem Ops.bsNP {Pr:List (List Value) → Prop} {t e:TypeId} {ge:Bool} {sz' bs' n:Nat} {zc' vs:List Value} {ps:Array (Nat × Operand)} (rows:List (List Value)) (hm:m.eff = true) (hg:gst ops T gd = some true) [ht:TyD P t (.slice e)] [he:Ty P e ge sz' bs' zc']
  (hi:ps.toList.map (·.1) = List.range n) (hx:evs T (ps.toList.map (·.2)) = some vs) (hn:vs.length = n) (hr:(vs.map fun v=>v.cells.toList) = rows) (hl:(rows.all fun r=>r.length == sz') = true) (h0:Nat.blt 0 (n * sz') = true) (hsz:Nat.ble (n * sz') 16777216 = true) (hd:Nat.blt d N.n = true)
  (hp:Pd P N B ops m T (some d) (NewR (fun b=>.slice (some ⟨b,0,none⟩) n n) (cl (rows.flatten ++ []) e) A)) (hP:Pr rows) (k:∀ b rows',Pr rows' → Ops P N B Q ops m.tl l ((d,.slice (some ⟨b,0,none⟩) n n) :: T) ((b,cl (rows'.flatten ++ []) e) :: A)):Ops P N B Q ops m (⟨some d,.buildSlice t n ps,ty,pos,af,gd⟩ :: l) T A :=
 Ops.bsN rows hm hg hi hx hn hr hl h0 hsz hd hp (fun b=>k b rows hP)
end
end Go.Sep
namespace Go.Proofs.YtaecdnfkcebbeaaGreat
open Go Go.Sep Go.Proofs
set_option maxRecDepth 10000
set_option maxHeartbeats 40000000
set_option synthInstance.maxSize 2000
theorem own_zero {E sz:Nat} (g:Nat):Own E sz (.slice (some ⟨g,0,none⟩) 0 0) [] [(g,cl [] E)]:=⟨(fun r hr=>by cases hr),.inr ⟨g,0,[],rfl,rfl,by simp,Nat.le_refl _⟩⟩
theorem r2_byte (m:Nat):IntKind.wrap .u8 (IntKind.wrap .u8 ((m % 128:Nat):Int) + 128) = ((m % 128 + 128:Nat):Int):=by
 simp only [IntKind.wrap,IntKind.bits,IntKind.signed,Bool.false_and,Bool.false_eq_true,if_false]
 omega
theorem r2num_spec (n:Nat) (hn:n < 18446744073709551616):Con Tryz.prog 50 #[.int .u64 n] [] fun v A=>v = .string (numB n) ∧ A = []:=by
 have hlen:(numL n).length ≤ 10:=numL_len 9 n (by omega)
 refine Con.intro (vs:=[_]) Tryz.func50 rfl Tryz.ntmps50 rfl (fun B=>?_)
 repeat' (first|refine Cd.seq ?_|refine Cd.reg ?_|refine Ops.asg rfl rfl rfl rfl ?_|refine Ops.bs0 rfl rfl rfl (noPd rfl) (fun b=>?_)|refine Cd.block ?_)
 rename Nat=>g0
 refine Cd.loopK (σ:=NumS) (fun s=>numL n = s.xs ++ numL s.m ∧ OwnB s.sv s.xs s.G ∧ s.m < 18446744073709551616) (fun s=>[(0,.int .u64 s.m),(3,s.sv)]) (fun s=>s.G) (fun s=>s.m) ⟨[],n,.slice (some ⟨g0,0,none⟩) 0 0,[(g0,cl [] 5)]⟩ ⟨rfl,own_zero g0,hn⟩ ⟨rfl,rfl,trivial⟩ (fun w h=>h.split) (fun s hs=>?_)
 obtain ⟨xs,m,sv,G⟩:=s
 obtain ⟨hx,hO,hmb⟩:=hs
 dsimp only at hx hO hmb ⊢
 obtain ⟨a,c,rfl⟩:=hO.form
 have hll:(xs.map fun n=>[Value.int .u8 n]).length = xs.length:=List.length_map _
 have hxl:xs.length ≤ 10:=by
  have:(xs ++ numL m).length ≤ 10:=by rw [← hx];exact hlen
  rw [List.length_append] at this;omega
 by_cases hm:m < 128
 ·have hm':(m:Int) < 128:=by omega
  refine zg12 ?_
  refine Ops.cvI rfl rfl rfl rfl ?_
  rw [last_byte hm]
  repeat' (first|refine Ops.bs1 rfl rfl rfl rfl rfl rfl rfl (noPd rfl) (fun b=>?_))
  refine Ops.app1 (rows:=xs.map fun n=>[Value.int .u8 n]) hO (by rw [hll];omega) (by rw [hll];omega) rfl rfl rfl rfl (by rfl) (by rfl) rfl (noPd rfl) rfl (fun v G' hG'=>?_)
  have hG2:OwnB v (xs ++ [(m:Int)]) G':=by
   unfold OwnB;rw [List.map_append];exact hG'
  clear hG'
  skip
  refine Ops.cvBS hG2 rfl rfl rfl rfl ?_
  refine zg1 ?_
  exact ze0
 ·have hm':¬ (m:Int) < 128:=by omega
  refine zg14 ?_
  refine Ops.remU (b:=128) rfl rfl rfl rfl (by decide) rfl ?_
  refine Ops.cvI rfl rfl rfl rfl ?_
  repeat' (first|refine Ops.bin rfl rfl rfl rfl rfl ?_|refine Ops.bs1 rfl rfl rfl rfl rfl rfl rfl (noPd rfl) (fun b=>?_))
  rw [r2_byte]
  skip
  refine Ops.app1 (rows:=xs.map fun n=>[Value.int .u8 n]) hO (by rw [hll];omega) (by rw [hll];omega) rfl rfl rfl rfl (by rfl) (by rfl) rfl (noPd rfl) rfl (fun v G' hG'=>?_)
  have hG2:OwnB v (xs ++ [((m % 128 + 128:Nat):Int)]) G':=by
   unfold OwnB;rw [List.map_append];exact hG'
  clear hG'
  refine zg0 ?_
  refine Ops.quoU (b:=128) rfl rfl rfl rfl hmb (by decide) rfl ?_
  refine zg1 ?_
  exact Ops.nilN (inB (round_end (⟨xs ++ [((m % 128 + 128:Nat):Int)],m / 128,v,G'⟩:NumS) ⟨by show numL n = (xs ++ [_]) ++ numL (m / 128);rw [hx,numL_big hm];simp,hG2,by show m / 128 < _;omega⟩ (by show m / 128 < m;omega) ⟨rfl,rfl,trivial⟩ (fun w h=>h.split)))
theorem r2text_spec (s:ByteArray) (hs:s.size ≤ 4611686018427387800):Con Tryz.prog 53 #[.string s] [] fun v A=>v = .string (numB s.size ++ s) ∧ A = []:=by
 have h10:=numB_size (n:=s.size) (by omega)
 refine Con.intro (vs:=[_]) Tryz.func53 rfl Tryz.ntmps53 rfl (fun B=>?_)
 refine zg3 ?_
 refine Ops.cvI rfl rfl rfl rfl ?_
 rw [wrap_u64 (by omega)]
 refine Ops.call (r2num_spec s.size (by omega)) rfl (noPd rfl) rfl rfl rfl (fun v A' hR=>?_)
 obtain ⟨rfl,rfl⟩:=hR
 refine zg0 ?_
 refine Ops.cat rfl rfl rfl rfl (by omega) rfl ?_
 refine zg1 ?_
 exact ze8
structure BitS where
 i:Nat
 sv:Value
 G:List Blk
theorem hiL_take {n i:Nat} (h:i < 8):(hiL n 8).take (i + 1) = (hiL n 8).take i ++ [((n / 256 ^ (7 - i) % 256:Nat):Int)]:=by
 have h1:=hiL_at (n:=n) (k:=8) (i:=i) h
 rw [List.getD_eq_getElem?_getD] at h1
 have h2:i < (hiL n 8).length:=by rw [hiL_len];exact h
 rw [List.getElem?_eq_getElem h2] at h1
 rw [List.take_add_one,List.getElem?_eq_getElem h2]
 have h3:(hiL n 8)[i] = ((n / 256 ^ (7 - i) % 256:Nat):Int):=h1
 rw [h3];rfl
theorem r2bits_spec (n:Nat) (hn:n < 18446744073709551616):Con Tryz.prog 52 #[.int .u64 n] [] fun v A=>v = .string (hiB n 8) ∧ A = []:=by
 refine Con.intro (vs:=[_]) Tryz.func52 rfl Tryz.ntmps52 rfl (fun B=>?_)
 repeat' (first|refine Cd.seq ?_|refine Cd.reg ?_|refine Ops.nil ?_|refine Ops.asg rfl rfl rfl rfl ?_|refine Ops.bs0 rfl rfl rfl (noPd rfl) (fun b=>?_)|refine Cd.block ?_)
 rename Nat=>g0
 refine Cd.loopK (σ:=BitS) (fun t=>t.i ≤ 8 ∧ OwnB t.sv ((hiL n 8).take t.i) t.G) (fun t=>[(0,.int .u64 n),(3,t.sv),(4,.int .i64 (56 - 8 * (t.i:Int)))]) (fun t=>t.G) (fun t=>8 - t.i) ⟨0,.slice (some ⟨g0,0,none⟩) 0 0,[(g0,cl [] 5)]⟩ ⟨Nat.zero_le _,own_zero g0⟩ ⟨rfl,rfl,rfl,trivial⟩ (fun w h=>h.split) (fun t ht=>?_)
 obtain ⟨i,sv,G⟩:=t
 obtain ⟨hi,hO⟩:=ht
 dsimp only at hi hO ⊢
 obtain ⟨a,c,rfl⟩:=hO.form
 have hll:((((hiL n 8).take i).map fun n=>[Value.int .u8 n])).length = i:=by rw [List.length_map,List.length_take,hiL_len];omega
 have hil:((hiL n 8).take i).length = i:=by rw [List.length_take,hiL_len];omega
 by_cases hlt:i < 8
 ·have hlt':(0:Int) ≤ 56 - 8 * (i:Int):=by omega
  have hnx:=hiL_take (n:=n) hlt
  refine zg14 ?_
  refine Ops.shrI rfl rfl rfl rfl (by omega) rfl ?_
  refine Ops.cvI rfl rfl rfl rfl ?_
  rw [show (56:Int) - 8 * (i:Int) = 8 * ((7 - i:Nat):Int) from by omega,show IntKind.bits .u64 = IntKind.bits .i64 from rfl,shr8 n (7 - i) (by omega)]
  repeat' (first|refine Ops.bs1 rfl rfl rfl rfl rfl rfl rfl (noPd rfl) (fun b=>?_))
  refine Ops.app1 (rows:=((hiL n 8).take i).map fun n=>[Value.int .u8 n]) hO (by rw [hll];omega) (by rw [hll];omega) rfl rfl rfl rfl (by rfl) (by rfl) rfl (noPd rfl) rfl (fun v G' hG'=>?_)
  have hG2:OwnB v ((hiL n 8).take (i + 1)) G':=by
   unfold OwnB;rw [hnx,List.map_append];exact hG'
  clear hG'
  refine zg32 ?_
  exact Ops.nilN (round_end (⟨i + 1,v,G'⟩:BitS) ⟨by show i + 1 ≤ 8;omega,hG2⟩ (by show 8 - (i + 1) < 8 - i;omega) ⟨rfl,rfl,congrArg (fun q=>some (Value.int .i64 q)) (by show (8 * ((7 - i:Nat):Int)) - 8 = 56 - 8 * ((i + 1:Nat):Int);omega),trivial⟩ (fun w h=>h.split))
 ·have hlt':¬ (0:Int) ≤ 56 - 8 * (i:Int):=by omega
  have he:i = 8:=by omega
  subst he
  rw [List.take_of_length_le (by rw [hiL_len];omega)] at hO
  refine zg10 ?_
  refine Ops.cvBS hO rfl rfl rfl rfl ?_
  refine zg1 ?_
  exact ze8
theorem isNaN1_spec (n:Int):Con Tryz.prog 180 #[.int .u64 n] [] fun v A=>(∃ b:Bool,v = .bool b) ∧ A = []:=by
 refine Con.intro (vs:=[_]) Tryz.func180 rfl Tryz.ntmps180 rfl (fun B=>?_)
 refine zg8 ?_
 exact ze2
theorem canon1_spec (n:Int):Con Tryz.prog 108 #[.int .u64 n] [] fun v A=>(∃ u:Int,v = .int .u64 u) ∧ A = []:=by
 refine Con.intro (vs:=[_]) Tryz.func108 rfl Tryz.ntmps108 rfl (fun B=>?_)
 refine zg0 ?_
 refine Ops.call (isNaN1_spec n) rfl (noPd rfl) rfl rfl rfl (fun v A' hR=>?_)
 obtain ⟨⟨b,rfl⟩,rfl⟩:=hR
 cases b
 ·refine zg6 ?_
  exact ze2
 ·refine zg15 ?_
  exact ze2
def NamesOk (rows:List (List Value)):Prop:=rows.length = 17 ∧ ∀ r ∈ rows,∃ s:ByteArray,r = [.string s] ∧ s.size ≤ 5
theorem NamesOk.at_ {rows:List (List Value)} (h:NamesOk rows) {i:Int} (h0:0 ≤ i) (h1:i < 17):∃ s:ByteArray,rows[i.toNat]? = some [.string s] ∧ s.size ≤ 5:=by
 have hl:i.toNat < rows.length:=by rw [h.1];omega
 obtain ⟨s,e,q⟩:=h.2 _ (List.getElem_mem hl)
 exact ⟨s,by rw [List.getElem?_eq_getElem hl,e],q⟩
theorem NamesOk.ok {rows:List (List Value)} (h:NamesOk rows):RowsOk 1 rows:=fun r hr=>by
 obtain ⟨s,rfl,_⟩:=h.2 r hr
 exact ⟨rfl,rfl⟩
theorem named7_spec (kind:Int):Con Tryz.prog 51 #[.int .i64 kind] [] fun v A=>(∃ s:ByteArray,v = .string s ∧ s.size ≤ 5) ∧ A = []:=by
 refine Con.intro (vs:=[_]) Tryz.func51 rfl Tryz.ntmps51 rfl (fun B=>?_)
 refine zg0 ?_
 refine Ops.bsNP (Pr:=NamesOk) _ rfl rfl rfl rfl rfl rfl rfl rfl rfl rfl (noPd rfl) ?_ (fun g rows hN=>?_)
 ·refine ⟨rfl,?_⟩
  repeat (first|exact List.forall_mem_nil _|refine List.forall_mem_cons.2 ⟨⟨_,rfl,by decide⟩,?_⟩)
 by_cases h1:kind < 0
 ·refine zg20 ?_
  exact ze9
 by_cases h2:17 ≤ kind
 ·refine zg36 ?_
  exact ze9
 obtain ⟨s,hx,hs⟩:=hN.at_ (i:=kind) (by omega) (by omega)
 have hok:=hN.ok
 have h3:0 ≤ kind:=by omega
 refine zg41 ?_
 exact Cd.ret (ret1 (A':=[]) rfl (Res.tmp rfl) (fun _ h=>h.split) ⟨⟨s,rfl,hs⟩,rfl⟩)
theorem has7_spec (kind:Int) (f:Int):Con Tryz.prog 107 #[.int .i64 kind,.int .u8 f] [] fun v A=>(∃ b:Bool,v = .bool b) ∧ A = []:=by
 refine Con.intro (vs:=[_,_]) Tryz.func107 rfl Tryz.ntmps107 rfl (fun B=>?_)
 refine zg0 ?_
 refine Ops.call (named7_spec kind) rfl (noPd rfl) rfl rfl rfl (fun v A' hR=>?_)
 obtain ⟨⟨s,rfl,hs⟩,rfl⟩:=hR
 refine zg3 ?_
 refine Cd.loopK (σ:=Nat) (fun i=>i ≤ s.size) (fun i=>[(0,.int .i64 kind),(1,.int .u8 f),(5,.string s),(6,.int .i64 i)]) (fun _=>[]) (fun i=>s.size - i) 0 (Nat.zero_le _) ⟨rfl,rfl,rfl,rfl,trivial⟩ (fun w h=>h.split) (fun i hi=>?_)
 by_cases hil:i < s.size
 ·have hil':(i:Int) < s.size:=by omega
  have hb:s[((i:Nat):Int).toNat]? = some (s[i]'hil):=by rw [Int.toNat_natCast];exact getElem?_eq_some_iff.2 ⟨hil,rfl⟩
  generalize s[i]'hil = c at hb
  refine zg14 ?_
  refine Ops.ixS rfl rfl rfl rfl (by omega) hb rfl ?_
  by_cases hc:((c.toNat:Nat):Int) = f
  ·refine zg14 ?_
   exact ze2
  ·refine zg27 ?_
   exact Ops.nilN (round_end (i + 1:Nat) (by show i + 1 ≤ s.size;omega) zp19 ⟨rfl,rfl,rfl,rfl,trivial⟩ (fun w h=>h.split))
 ·have hil':¬ (i:Int) < s.size:=by omega
  refine zg12 ?_
  exact ze2
theorem most7_spec (kind:Int):Con Tryz.prog 105 #[.int .i64 kind] [] fun v A=>(∃ a b:Int,v = .tuple #[.int .i64 a,.int .i64 b]) ∧ A = []:=by
 refine Con.intro (vs:=[_]) Tryz.func105 rfl Tryz.ntmps105 rfl (fun B=>?_)
 by_cases h5:kind = 5
 ·refine zg14 ?_
  exact ze5
 by_cases h6:kind = 6
 ·refine zg16 ?_
  exact ze5
 by_cases h4:kind = 4
 ·refine zg16 ?_
  exact ze5
 by_cases h14:kind = 14
 ·refine zg16 ?_
  exact ze5
 refine zg17 ?_
 exact ze5
theorem right7_spec (m:Ms) (f n least most:Int):Con Tryz.prog 106 #[.agg m.row.toArray,.int .u8 f,.int .i64 n,.int .i64 least,.int .i64 most] [] fun v A=>(∃ b:Bool,v = .bool b ∧ (b = true → n = 0 ∨ (least ≤ n ∧ n ≤ most))) ∧ A = []:=by
 refine Con.intro (vs:=[_,_,_,_,_]) Tryz.func106 rfl Tryz.ntmps106 rfl (fun B=>?_)
 repeat' (first|refine Cd.seq ?_|refine Cd.reg ?_|refine Ops.mv rfl rfl rfl rfl ?_|refine Ops.asg rfl rfl rfl rfl ?_|refine Ops.fa0 rfl rfl rfl rfl ?_|refine Ops.ld1 rfl rfl rfl rfl rfl ?_|refine Ops.box rfl rfl rfl rfl (noPd rfl) (fun b=>?_))
 refine Ops.call (has7_spec m.kind f) rfl (noPd rfl) rfl rfl rfl (fun v A' hR=>?_)
 obtain ⟨⟨b,rfl⟩,rfl⟩:=hR
 cases b
 ·by_cases hn:n = 0
  ·refine zg10 ?_
   exact Cd.ret (ret1 (A':=[]) rfl (Res.tmp rfl) (fun _ h=>h.split) ⟨⟨_,rfl,fun _=>.inl hn⟩,rfl⟩)
  ·refine zg10 ?_
   exact Cd.ret (ret1 (A':=[]) rfl (Res.tmp rfl) (fun _ h=>h.split) ⟨⟨_,rfl,fun q=>.inl (by simpa using q)⟩,rfl⟩)
 ·by_cases h1:least ≤ n
  ·by_cases h2:n ≤ most
   ·refine zg20 ?_
    exact Cd.ret (ret1 (A':=[]) rfl (Res.tmp rfl) (fun _ h=>h.split) ⟨⟨_,rfl,fun _=>.inr ⟨h1,h2⟩⟩,rfl⟩)
   ·refine zg20 ?_
    exact Cd.ret (ret1 (A':=[]) rfl (Res.tmp rfl) (fun _ h=>h.split) ⟨⟨_,rfl,fun q=>.inr ⟨h1,by simpa using q⟩⟩,rfl⟩)
  ·refine zg11 ?_
   exact ze10
@[reducible] def MbB (mb:Nat) (m:Ms):Blk:=(mb,cl m.row 42)
theorem check7_spec (m:Ms):Con Tryz.prog 49 #[.agg m.row.toArray] [] fun v A=>(∃ e:Int,v = .int .i64 e ∧ (e = 0 → m.text.size ≤ 32 ∧ m.prog.size ≤ 1024)) ∧ A = []:=by
 refine Con.intro (vs:=[_]) Tryz.func49 rfl Tryz.ntmps49 rfl (fun B=>?_)
 repeat' (first|refine Cd.seq ?_|refine Cd.reg ?_|refine Ops.asg rfl rfl rfl rfl ?_|refine Ops.fa0 rfl rfl rfl rfl ?_|refine Ops.ld1 rfl rfl rfl rfl rfl ?_|refine Ops.box rfl rfl rfl rfl (noPd rfl) (fun b=>?_))
 rename Nat=>mb
 refine Ops.call (named7_spec m.kind) rfl (noPd rfl) rfl rfl rfl (fun v A' hR=>?_)
 obtain ⟨⟨s,rfl,hs⟩,rfl⟩:=hR
 by_cases hq:s = ⟨#[63]⟩
 ·refine zg14 ?_
  exact ze10
 generalize hc4:Code.seq (Code.region 4 _ _) _ = c4
 refine zg21 ?_
 refine Ops.call (most7_spec m.kind) rfl (noPd rfl) rfl rfl rfl (fun v A' hR=>?_)
 obtain ⟨⟨mi,mc,rfl⟩,rfl⟩:=hR
 refine zg5 ?_
 subst hc4
 refine Cd.cut (σ:=Bool) (fun _=>True) (fun b=>[(1,ptr mb),(3,.int .i64 mi),(4,.int .i64 mc),(5,.bool b)]) (fun b=>[MbB mb m]) ?_ (fun b _=>?_)
 ·refine zg9 ?_
  refine Ops.call (right7_spec m 115 m.session 1 1099511627776) rfl (noPd rfl) rfl rfl rfl (fun v A' hR=>?_)
  obtain ⟨⟨b1,rfl,_⟩,rfl⟩:=hR
  cases b1
  ·refine zg6 ?_
   exact ze11
  refine zg9 ?_
  refine Ops.call (right7_spec m 110 m.number 1 1099511627776) rfl (noPd rfl) rfl rfl rfl (fun v A' hR=>?_)
  obtain ⟨⟨b2,rfl,_⟩,rfl⟩:=hR
  cases b2
  ·refine zg6 ?_
   exact ze11
  refine zg8 ?_
  refine Ops.call (right7_spec m 106 m.job 1 8) rfl (noPd rfl) rfl rfl rfl (fun v A' hR=>?_)
  obtain ⟨⟨b3,rfl,_⟩,rfl⟩:=hR
  cases b3
  ·refine zg6 ?_
   exact ze11
  refine zg8 ?_
  refine Ops.call (right7_spec m 98 m.badge 1 1099511627776) rfl (noPd rfl) rfl rfl rfl (fun v A' hR=>?_)
  obtain ⟨⟨b4,rfl,_⟩,rfl⟩:=hR
  refine zg5 ?_
  exact Ops.nilN (meet_end (Q:=fun _ _ _=>True) b4 trivial ⟨rfl,rfl,rfl,rfl,trivial⟩ (fun w h=>h.split))
 refine Cd.cut (σ:=Bool) (fun _=>True) (fun b=>[(1,ptr mb),(5,.bool b)]) (fun b=>[MbB mb m]) ?_ (fun b _=>?_)
 ·cases b
  ·refine zg6 ?_
   exact ze12
  refine zg9 ?_
  refine Ops.call (right7_spec m 105 m.index 0 mi) rfl (noPd rfl) rfl rfl rfl (fun v A' hR=>?_)
  obtain ⟨⟨b1,rfl,_⟩,rfl⟩:=hR
  cases b1
  ·refine zg6 ?_
   exact ze12
  refine zg8 ?_
  refine Ops.call (right7_spec m 99 m.count 0 mc) rfl (noPd rfl) rfl rfl rfl (fun v A' hR=>?_)
  obtain ⟨⟨b2,rfl,_⟩,rfl⟩:=hR
  refine zg5 ?_
  exact Ops.nilN (meet_end (Q:=fun _ _ _=>True) b2 trivial ⟨rfl,rfl,trivial⟩ (fun w h=>h.split))
 refine Cd.cut (σ:=Bool) (fun b=>b = true → m.text.size ≤ 32 ∧ m.prog.size ≤ 1024) (fun b=>[(1,ptr mb),(5,.bool b)]) (fun b=>[MbB mb m]) ?_ (fun b hb=>?_)
 ·cases b
  ·refine zg6 ?_
   exact ze13
  refine zg9 ?_
  refine Ops.call (right7_spec m 114 m.rcode 0 7) rfl (noPd rfl) rfl rfl rfl (fun v A' hR=>?_)
  obtain ⟨⟨b1,rfl,_⟩,rfl⟩:=hR
  cases b1
  ·refine zg6 ?_
   exact ze13
  refine zg8 ?_
  refine Ops.call (right7_spec m 116 (m.text.size:Nat) 0 32) rfl (noPd rfl) rfl rfl rfl (fun v A' hR=>?_)
  obtain ⟨⟨b2,rfl,ht⟩,rfl⟩:=hR
  cases b2
  ·refine zg6 ?_
   exact ze13
  have ht:=ht rfl
  refine zg8 ?_
  refine Ops.call (right7_spec m 112 (m.prog.size:Nat) 1 1024) rfl (noPd rfl) rfl rfl rfl (fun v A' hR=>?_)
  obtain ⟨⟨b3,rfl,hp⟩,rfl⟩:=hR
  refine zg5 ?_
  exact Ops.nilN (meet_end (Q:=fun _ _ _=>True) b3 (fun q=>by have hp:=hp q;omega) ⟨rfl,rfl,trivial⟩ (fun w h=>h.split))
 refine Cd.cut (σ:=Bool) (fun b=>b = true → m.text.size ≤ 32 ∧ m.prog.size ≤ 1024) (fun b=>[(1,ptr mb),(5,.bool b)]) (fun b=>[MbB mb m]) ?_ (fun b hb=>?_)
 ·refine Cd.seq ?_
  by_cases h0:m.rbits = 0
  ·refine Cd.draw [(0,0,[]),(1,0,[]),(2,1,[]),(3,0,[]),(4,0,[]),(5,0,[]),(6,1,[]),(7,2,[]),(8,0,[]),(9,0,[]),(10,0,[]),(11,0,[]),(12,1,[]),(13,0,[]),(14,0,[]),(15,0,[]),(16,0,[]),(17,0,[]),(18,1,[]),(20,0,[]),(21,0,[]),(22,1,[]),(19,2,[22]),(23,0,[]),(24,0,[]),(25,0,[])] (by kernel_rfl) (by kernel_rfl) (by simp only [picked,nth];exact rfl) ?_
   refine zg31 ?_
   all_goals skip
   exact ze14
  ·refine Cd.draw [(0,0,[]),(1,0,[]),(2,1,[]),(3,0,[]),(4,0,[]),(5,0,[]),(6,1,[]),(7,2,[]),(8,0,[]),(9,0,[]),(10,0,[]),(11,0,[]),(12,1,[]),(13,0,[]),(14,0,[]),(15,0,[]),(16,0,[]),(17,0,[]),(18,1,[]),(20,0,[]),(21,0,[]),(22,1,[]),(19,2,[22]),(23,0,[]),(24,0,[]),(25,0,[])] (by kernel_rfl) (by kernel_rfl) (by simp only [picked,nth];exact rfl) ?_
   refine zg25 ?_
   refine Ops.call (has7_spec m.kind 114) rfl zp2 rfl rfl rfl (fun v A' hR=>?_)
   obtain ⟨⟨b1,rfl⟩,rfl⟩:=hR
   cases b1
   ·refine zg31 ?_
    all_goals skip
    exact ze13
   ·by_cases h1:m.rcode = 0
    ·refine zg11 ?_
     refine Ops.call (canon1_spec m.rbits) rfl zp2 rfl rfl rfl (fun v A' hR=>?_)
     obtain ⟨⟨u,rfl⟩,rfl⟩:=hR
     by_cases h2:u = m.rbits
     ·refine zg17 ?_
      all_goals skip
      exact ze14
     ·refine zg29 ?_
      all_goals skip
      exact ze13
    ·refine zg31 ?_
     all_goals skip
     exact ze13
 refine Cd.cut (σ:=Bool) (fun b=>b = true → m.text.size ≤ 32 ∧ m.prog.size ≤ 1024) (fun b=>[(1,ptr mb),(5,.bool b)]) (fun b=>[MbB mb m]) ?_ (fun b hb=>?_)
 ·by_cases h0:m.kind = 6
  ·by_cases h1:m.index = 0
   ·by_cases h2:m.text = ⟨#[]⟩
    ·refine zg43 ?_
     exact ze14
    ·refine zg43 ?_
     exact ze13
   ·refine zg30 ?_
    exact ze14
  ·refine zg11 ?_
   exact ze14
 cases b
 ·refine zg10 ?_
  exact ze10
 ·refine zg7 ?_
  exact Cd.ret (ret1 (A':=[]) rfl (Res.tmp rfl) (fun _ h=>h.split) ⟨⟨_,rfl,fun _=>hb rfl⟩,rfl⟩)
end Go.Proofs.YtaecdnfkcebbeaaGreat
