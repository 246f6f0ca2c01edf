import Derived.Test.YtkoelgkghijgiaaGreatA01
import Derived.Test.YtkoelgkghijgiaaGreatA04
import Derived.Test.YtkoelgkghijgiaaGreatA12
import Derived.Test.YtkoelgkghijgiaaGreatA10
import Derived.Test.YtkoelgkghijgiaaGreatA11
set_option linter.unusedVariables false
set_option linter.unusedSimpArgs false
namespace Go.Proofs.YtkoelgkghijgiaaGreat
open Go Go.Sep Go.Proofs Go.Proofs.Tryz
set_option maxRecDepth 10000
set_option maxHeartbeats 40000000
set_option synthInstance.maxSize 2000
theorem named_spec (m:Ms) (h0:1 ≤ m.kind) (h1:m.kind ≤ 16):Con prog 141 #[.agg m.row.toArray] [] fun v A=>v = .agg (namedF m).row.toArray ∧ A = []:=by
 have hw:=words_at h0 h1
 have hok:=words_ok h0 h1
 have hn:namedF m = lettersG m (wordF m.kind) (wordF m.kind).size:=rfl
 refine zqI (vs:=[_]) func141 ntmps141 fun B=>?_
 repeat' (first|refine zs0 ?_|refine Ops.box rfl rfl rfl rfl (noPd rfl) (fun b=>?_)|refine Ops.alloc rfl rfl rfl (noPd rfl) (fun b=>?_))
 rename_i mb
 rename Nat=>zb
 refine Ops.bldA (allL mb) rfl rfl rfl (by kernel_rfl) rfl ?_
 repeat' (first|refine Ops.alloc rfl rfl rfl (noPd rfl) (fun b=>?_))
 refine Ops.stN (L':=allL mb) (hs:=SetS.all (by kernel_rfl)) rfl rfl rfl rfl (by kernel_rfl) (by kernel_rfl) (noPd rfl) ?_
 refine zg0 ?_
 refine Ops.bldA wordsL rfl rfl rfl (by kernel_rfl) rfl ?_
 repeat' (first|refine Ops.alloc rfl rfl rfl (noPd rfl) (fun b=>?_))
 refine Ops.stN (L':=wordsL) (hs:=SetS.all (by kernel_rfl)) rfl rfl rfl rfl (by kernel_rfl) (by kernel_rfl) (noPd rfl) ?_
 repeat' (first|refine zs9 ?_|refine Ops.alloc rfl rfl rfl (noPd rfl) (fun b=>?_))
 rename_i ab wb
 rename Nat=>nb
 rw [hn]
 clear hn
 refine Ops.ld1 (v:=.string (wordF m.kind)) rfl rfl rfl (by rw [show 0 + m.kind.toNat * 1 = m.kind.toNat from by omega];exact hw) rfl ?_
 clear hw
 refine Ops.cvSB rfl rfl rfl rfl (noPd rfl) (fun g c L f hL=>?_)
 obtain ⟨hsz,hlet⟩:=hok
 generalize wordF m.kind = u at hL hsz hlet ⊢
 refine zg1 ?_
 refine Cd.loopK (σ:=Nat) (fun i=>i ≤ u.size) (fun i=>[(2,ptr zb),(3,ptr ab),(5,ptr nb),(26,.slice (some ⟨g,0,none⟩) u.size c),(27,.int .i64 ((u.size:Nat):Int)),(28,.int .i64 ((i:Nat):Int))]) (fun i=>[MgB nb (lettersG m u i).row,(g,clX L 5 f),(ab,cl (allL mb) 295),MgB zb [.int .i64 0,.int .i64 0,.int .i64 0,.int .i64 0,.int .i64 0,.int .i64 0,.int .i64 0,.int .i64 0,.int .u64 0,.string ⟨#[]⟩,.string ⟨#[]⟩],MgB mb m.row]) (fun i=>u.size - i) 0 (Nat.zero_le _) ⟨rfl,rfl,rfl,rfl,rfl,rfl,trivial⟩ (fun w h=>by
  have h2:Sat _ [MgB nb [.int .i64 m.kind,.int .i64 0,.int .i64 0,.int .i64 0,.int .i64 0,.int .i64 0,.int .i64 0,.int .i64 0,.int .u64 0,.string ⟨#[]⟩,.string ⟨#[]⟩],(g,clX L 5 f),(ab,cl (allL mb) 295),MgB zb [.int .i64 0,.int .i64 0,.int .i64 0,.int .i64 0,.int .i64 0,.int .i64 0,.int .i64 0,.int .i64 0,.int .u64 0,.string ⟨#[]⟩,.string ⟨#[]⟩],MgB mb m.row] w:=h.split
  exact h2) (fun i hi=>?_)
 by_cases hlt:i < u.size
 ·have hlt':((i:Nat):Int) < ((u.size:Nat):Int):=by omega
  have hv:L[((i:Nat):Int).toNat * 1]? = some (.int .u8 ((bat u i:Nat):Int)):=by
   rw [show ((i:Nat):Int).toNat * 1 = i from by omega]
   exact hL i _ (bv_bat (s:=u) (i:=i) hlt)
  have hin:=hlet i hlt
  have hstep:lettersG m u (i + 1) = setL m (lettersG m u i) (bat u i):=rfl
  refine zg14 ?_
  refine Ops.ldX rfl rfl rfl hv rfl ?_
  refine zg0 ?_
  generalize bat u i = x at hin hstep ⊢
  simp only [letters,List.mem_cons,List.not_mem_nil,or_false] at hin
  rcases hin with rfl|rfl|rfl|rfl|rfl|rfl|rfl|rfl|rfl
  ·refine zg19 ?_
   refine Ops.callV (fi:=[]) (ca:=[ptr mb]) (vs:=[ptr nb]) (named_115 nb mb (lettersG m u i) m) rfl (noPd rfl) rfl rfl rfl rfl (fun v A' hR=>?_)
   obtain rfl:=hR
   refine zg9 ?_
   exact Ops.nilN (round_end (i + 1:Nat) (by show i + 1 ≤ u.size;omega) zp17 ⟨rfl,rfl,rfl,rfl,rfl,rfl,trivial⟩ (fun w h=>by
    have h2:Sat _ [MgB nb (setL m (lettersG m u i) 115).row,(g,clX L 5 f),(ab,cl (allL mb) 295),MgB zb [.int .i64 0,.int .i64 0,.int .i64 0,.int .i64 0,.int .i64 0,.int .i64 0,.int .i64 0,.int .i64 0,.int .u64 0,.string ⟨#[]⟩,.string ⟨#[]⟩],MgB mb m.row] w:=h.split
    rw [← hstep] at h2
    exact h2))
  ·refine zg19 ?_
   refine Ops.callV (fi:=[]) (ca:=[ptr mb]) (vs:=[ptr nb]) (named_110 nb mb (lettersG m u i) m) rfl (noPd rfl) rfl rfl rfl rfl (fun v A' hR=>?_)
   obtain rfl:=hR
   refine zg9 ?_
   exact Ops.nilN (round_end (i + 1:Nat) (by show i + 1 ≤ u.size;omega) zp17 ⟨rfl,rfl,rfl,rfl,rfl,rfl,trivial⟩ (fun w h=>by
    have h2:Sat _ [MgB nb (setL m (lettersG m u i) 110).row,(g,clX L 5 f),(ab,cl (allL mb) 295),MgB zb [.int .i64 0,.int .i64 0,.int .i64 0,.int .i64 0,.int .i64 0,.int .i64 0,.int .i64 0,.int .i64 0,.int .u64 0,.string ⟨#[]⟩,.string ⟨#[]⟩],MgB mb m.row] w:=h.split
    rw [← hstep] at h2
    exact h2))
  ·refine zg19 ?_
   refine Ops.callV (fi:=[]) (ca:=[ptr mb]) (vs:=[ptr nb]) (named_106 nb mb (lettersG m u i) m) rfl (noPd rfl) rfl rfl rfl rfl (fun v A' hR=>?_)
   obtain rfl:=hR
   refine zg9 ?_
   exact Ops.nilN (round_end (i + 1:Nat) (by show i + 1 ≤ u.size;omega) zp17 ⟨rfl,rfl,rfl,rfl,rfl,rfl,trivial⟩ (fun w h=>by
    have h2:Sat _ [MgB nb (setL m (lettersG m u i) 106).row,(g,clX L 5 f),(ab,cl (allL mb) 295),MgB zb [.int .i64 0,.int .i64 0,.int .i64 0,.int .i64 0,.int .i64 0,.int .i64 0,.int .i64 0,.int .i64 0,.int .u64 0,.string ⟨#[]⟩,.string ⟨#[]⟩],MgB mb m.row] w:=h.split
    rw [← hstep] at h2
    exact h2))
  ·refine zg19 ?_
   refine Ops.callV (fi:=[]) (ca:=[ptr mb]) (vs:=[ptr nb]) (named_98 nb mb (lettersG m u i) m) rfl (noPd rfl) rfl rfl rfl rfl (fun v A' hR=>?_)
   obtain rfl:=hR
   refine zg9 ?_
   exact Ops.nilN (round_end (i + 1:Nat) (by show i + 1 ≤ u.size;omega) zp17 ⟨rfl,rfl,rfl,rfl,rfl,rfl,trivial⟩ (fun w h=>by
    have h2:Sat _ [MgB nb (setL m (lettersG m u i) 98).row,(g,clX L 5 f),(ab,cl (allL mb) 295),MgB zb [.int .i64 0,.int .i64 0,.int .i64 0,.int .i64 0,.int .i64 0,.int .i64 0,.int .i64 0,.int .i64 0,.int .u64 0,.string ⟨#[]⟩,.string ⟨#[]⟩],MgB mb m.row] w:=h.split
    rw [← hstep] at h2
    exact h2))
  ·refine zg19 ?_
   refine Ops.callV (fi:=[]) (ca:=[ptr mb]) (vs:=[ptr nb]) (named_105 nb mb (lettersG m u i) m) rfl (noPd rfl) rfl rfl rfl rfl (fun v A' hR=>?_)
   obtain rfl:=hR
   refine zg9 ?_
   exact Ops.nilN (round_end (i + 1:Nat) (by show i + 1 ≤ u.size;omega) zp17 ⟨rfl,rfl,rfl,rfl,rfl,rfl,trivial⟩ (fun w h=>by
    have h2:Sat _ [MgB nb (setL m (lettersG m u i) 105).row,(g,clX L 5 f),(ab,cl (allL mb) 295),MgB zb [.int .i64 0,.int .i64 0,.int .i64 0,.int .i64 0,.int .i64 0,.int .i64 0,.int .i64 0,.int .i64 0,.int .u64 0,.string ⟨#[]⟩,.string ⟨#[]⟩],MgB mb m.row] w:=h.split
    rw [← hstep] at h2
    exact h2))
  ·refine zg19 ?_
   refine Ops.callV (fi:=[]) (ca:=[ptr mb]) (vs:=[ptr nb]) (named_99 nb mb (lettersG m u i) m) rfl (noPd rfl) rfl rfl rfl rfl (fun v A' hR=>?_)
   obtain rfl:=hR
   refine zg9 ?_
   exact Ops.nilN (round_end (i + 1:Nat) (by show i + 1 ≤ u.size;omega) zp17 ⟨rfl,rfl,rfl,rfl,rfl,rfl,trivial⟩ (fun w h=>by
    have h2:Sat _ [MgB nb (setL m (lettersG m u i) 99).row,(g,clX L 5 f),(ab,cl (allL mb) 295),MgB zb [.int .i64 0,.int .i64 0,.int .i64 0,.int .i64 0,.int .i64 0,.int .i64 0,.int .i64 0,.int .i64 0,.int .u64 0,.string ⟨#[]⟩,.string ⟨#[]⟩],MgB mb m.row] w:=h.split
    rw [← hstep] at h2
    exact h2))
  ·refine zg19 ?_
   refine Ops.callV (fi:=[]) (ca:=[ptr mb]) (vs:=[ptr nb]) (named_114 nb mb (lettersG m u i) m) rfl (noPd rfl) rfl rfl rfl rfl (fun v A' hR=>?_)
   obtain rfl:=hR
   refine zg9 ?_
   exact Ops.nilN (round_end (i + 1:Nat) (by show i + 1 ≤ u.size;omega) zp17 ⟨rfl,rfl,rfl,rfl,rfl,rfl,trivial⟩ (fun w h=>by
    have h2:Sat _ [MgB nb (setL m (lettersG m u i) 114).row,(g,clX L 5 f),(ab,cl (allL mb) 295),MgB zb [.int .i64 0,.int .i64 0,.int .i64 0,.int .i64 0,.int .i64 0,.int .i64 0,.int .i64 0,.int .i64 0,.int .u64 0,.string ⟨#[]⟩,.string ⟨#[]⟩],MgB mb m.row] w:=h.split
    rw [← hstep] at h2
    exact h2))
  ·refine zg19 ?_
   refine Ops.callV (fi:=[]) (ca:=[ptr mb]) (vs:=[ptr nb]) (named_116 nb mb (lettersG m u i) m) rfl (noPd rfl) rfl rfl rfl rfl (fun v A' hR=>?_)
   obtain rfl:=hR
   refine zg9 ?_
   exact Ops.nilN (round_end (i + 1:Nat) (by show i + 1 ≤ u.size;omega) zp17 ⟨rfl,rfl,rfl,rfl,rfl,rfl,trivial⟩ (fun w h=>by
    have h2:Sat _ [MgB nb (setL m (lettersG m u i) 116).row,(g,clX L 5 f),(ab,cl (allL mb) 295),MgB zb [.int .i64 0,.int .i64 0,.int .i64 0,.int .i64 0,.int .i64 0,.int .i64 0,.int .i64 0,.int .i64 0,.int .u64 0,.string ⟨#[]⟩,.string ⟨#[]⟩],MgB mb m.row] w:=h.split
    rw [← hstep] at h2
    exact h2))
  ·refine zg19 ?_
   refine Ops.callV (fi:=[]) (ca:=[ptr mb]) (vs:=[ptr nb]) (named_112 nb mb (lettersG m u i) m) rfl (noPd rfl) rfl rfl rfl rfl (fun v A' hR=>?_)
   obtain rfl:=hR
   refine zg9 ?_
   exact Ops.nilN (round_end (i + 1:Nat) (by show i + 1 ≤ u.size;omega) zp17 ⟨rfl,rfl,rfl,rfl,rfl,rfl,trivial⟩ (fun w h=>by
    have h2:Sat _ [MgB nb (setL m (lettersG m u i) 112).row,(g,clX L 5 f),(ab,cl (allL mb) 295),MgB zb [.int .i64 0,.int .i64 0,.int .i64 0,.int .i64 0,.int .i64 0,.int .i64 0,.int .i64 0,.int .i64 0,.int .u64 0,.string ⟨#[]⟩,.string ⟨#[]⟩],MgB mb m.row] w:=h.split
    rw [← hstep] at h2
    exact h2))
 ·have hlt':¬ ((i:Nat):Int) < ((u.size:Nat):Int):=by omega
  have he:i = u.size:=by omega
  subst he
  refine zg8 ?_
  exact ze56
theorem Con.insert1 {P:Program} {f:FuncId} {args:Array Value} {x:Blk} {H:List Blk} {φ:Value → Prop} (G0:List Blk) (h:Con P f args (x :: H) fun v A=>φ v ∧ A = x :: H):Con P f args (x :: (G0 ++ H)) fun v A=>φ v ∧ A = x :: (G0 ++ H) :=
 ((h.beside (F:=G0)).permIn (List.Perm.cons x List.perm_append_comm)).permOut fun v A' hR=>by
  obtain ⟨A2,⟨hφ,rfl⟩,rfl⟩:=hR
  exact ⟨_,⟨hφ,rfl⟩,List.Perm.cons x List.perm_append_comm⟩
theorem Con.append1 {P:Program} {f:FuncId} {args:Array Value} {x:Blk} {H:List Blk} {φ:Value → Prop} (G0:List Blk) (h:Con P f args (x :: H) fun v A=>φ v ∧ A = x :: H):Con P f args (x :: (H ++ G0)) fun v A=>φ v ∧ A = x :: (H ++ G0) :=
 (h.beside (F:=G0)).mono fun v A' hR=>by
  obtain ⟨A2,⟨hφ,rfl⟩,rfl⟩:=hR
  exact ⟨hφ,rfl⟩
theorem FdsA.ok {fds:List Fd} {rows:List (List Value)} {G:List Blk} (h:FdsA fds rows G):RowsOk 3 rows:=by
 induction h with
 | nil=>exact RowsOk.nil
 | cons h1 _ ih =>
  obtain ⟨⟨f1,c1,rfl,_⟩,⟨f2,c2,rfl,_⟩,⟨f3,c3,rfl,_⟩⟩:=h1
  exact (RowsOk.one rfl rfl).app ih
theorem FdsA.may {fds:List Fd} {rows:List (List Value)} {G:List Blk} (h:FdsA fds rows G):∀ {i:Nat} {fd:Fd},fds[i]? = some fd → ∃ f1 c1 f2 c2 f3 c3,rows[i]? = some [.func (.func f1) #[] (c1:List Value).toArray,.func (.func f2) #[] (c2:List Value).toArray,.func (.func f3) #[] (c3:List Value).toArray] ∧ FnOk prog f1 ∧ FnOk prog f2 ∧
  (∀ mb m,MsOk m → Con prog f1 ([ptr mb] ++ c1).toArray (MgB mb m.row :: G) fun v A=>v = .bool (fd.may m) ∧ A = MgB mb m.row :: G) ∧
  (∀ mb m,MsOk m → fd.may m = true → Con prog f2 ([ptr mb] ++ c2).toArray (MgB mb m.row :: G) fun v A=>v = .string (fd.lay m) ∧ A = MgB mb m.row :: G):=by
 induction h with
 | nil=>intro i fd hi;simp at hi
 | @cons fd0 fds v1 v2 v3 rows G0 H h1 h2 ih =>
  intro i fd hi
  cases i with
  | zero =>
   simp only [List.getElem?_cons_zero,Option.some.injEq] at hi
   subst hi
   obtain ⟨⟨f1,c1,rfl,k1,q1⟩,⟨f2,c2,rfl,k2,q2⟩,⟨f3,c3,rfl,_⟩⟩:=h1
   exact ⟨f1,c1,f2,c2,f3,c3,rfl,k1,k2,fun mb m hm=>Con.append1 H (q1 mb m hm),fun mb m hm hy=>Con.append1 H (q2 mb m hm hy)⟩
  | succ i =>
   simp only [List.getElem?_cons_succ] at hi
   obtain ⟨f1,c1,f2,c2,f3,c3,hr,k1,k2,q1,q2⟩:=ih hi
   exact ⟨f1,c1,f2,c2,f3,c3,by simpa using hr,k1,k2,fun mb m hm=>Con.insert1 G0 (q1 mb m hm),fun mb m hm hy=>Con.insert1 G0 (q2 mb m hm hy)⟩
def msEq (a b:Ms):Bool:=decide (a.kind = b.kind) && (decide (a.session = b.session) && (decide (a.number = b.number) && (decide (a.job = b.job) && (decide (a.badge = b.badge) && (decide (a.index = b.index) && (decide (a.count = b.count) && (decide (a.rcode = b.rcode) && (decide (a.rbits = b.rbits) && true) && (decide (a.text = b.text) && (decide (a.prog = b.prog) && true)))))))))
def okF (m:Ms):Bool:=msEq (namedF m) m && !(decide (m.kind = 6) && decide (m.index = 0) && !decide (m.text = ⟨#[]⟩))
def wcheckF (m:Ms):Int:=if m.kind < 1 ∨ 16 < m.kind then 70 else if okF m && (fieldsF m.kind).all (fun fd=>fd.may m) then 0 else 71
theorem take_all {fds:List Fd} {i:Nat} {fd:Fd} (f:Fd → Bool) (c:Bool) (hi:fds[i]? = some fd):((fds.take (i + 1)).all f && c) = (((fds.take i).all f && c) && f fd):=by
 rw [List.take_add_one,hi]
 simp only [Option.toList_some,List.all_append,List.all_cons,List.all_nil,Bool.and_true]
 cases (fds.take i).all f <;> cases f fd <;> cases c <;> rfl
theorem wcheck_spec (m:Ms) (hok:MsOk m):Con prog 84 #[.agg m.row.toArray] [] fun v A=>v = .int .i64 (wcheckF m) ∧ A = []:=by
 refine zqI (vs:=[_]) func84 ntmps84 fun B=>?_
 generalize hc3:Code.seq (Code.region 3 _ _) _ = c3
 by_cases h0:m.kind < 1
 ·rw [show wcheckF m = 70 from if_pos (.inl h0)]
  repeat' (first|refine Cd.seq ?_|refine Cd.reg ?_|refine Ops.nil ?_|refine Ops.mv rfl rfl rfl rfl ?_|refine Ops.asg rfl rfl rfl rfl ?_|refine Ops.fa0 rfl rfl rfl rfl ?_|refine Ops.ld1 rfl rfl rfl rfl rfl ?_|refine Ops.bin rfl rfl rfl rfl rfl ?_|refine Ops.pickT rfl rfl rfl rfl rfl ?_|refine Ops.box rfl rfl rfl rfl (noPd rfl) (fun b=>?_)|refine Ops.gSkip rfl rfl rfl ?_|refine Cd.condT rfl rfl ?_|((fail_if_success refine Ops.probe rfl ?_);refine Ops.gT rfl rfl zp0 ?_))
  exact ze9
 by_cases h1:16 < m.kind
 ·rw [show wcheckF m = 70 from if_pos (.inr h1)]
  repeat' (first|refine Cd.seq ?_|refine Cd.reg ?_|refine Ops.nil ?_|refine Ops.mv rfl rfl rfl rfl ?_|refine Ops.asg rfl rfl rfl rfl ?_|refine Ops.fa0 rfl rfl rfl rfl ?_|refine Ops.ld1 rfl rfl rfl rfl rfl ?_|refine Ops.bin rfl rfl rfl rfl rfl ?_|refine Ops.pickF rfl rfl rfl rfl rfl ?_|refine Ops.box rfl rfl rfl rfl (noPd rfl) (fun b=>?_)|refine Cd.condT rfl zp0 ?_|((fail_if_success refine Ops.probe rfl ?_);refine Ops.gF rfl rfl zp0 ?_))
  exact ze9
 repeat' (first|refine Cd.seq ?_|refine Cd.reg ?_|refine Ops.nil ?_|refine Ops.mv rfl rfl rfl rfl ?_|refine Ops.asg rfl rfl rfl rfl ?_|refine Ops.fa0 rfl rfl rfl rfl ?_|refine Ops.ld1 rfl rfl rfl rfl rfl ?_|refine Ops.bin rfl rfl rfl rfl rfl ?_|refine Ops.pickF rfl rfl rfl rfl rfl ?_|refine Ops.box rfl rfl rfl rfl (noPd rfl) (fun b=>?_)|refine Cd.skip (Cd.next ?_)|refine Cd.condF rfl zp0 ?_|((fail_if_success refine Ops.probe rfl ?_);refine Ops.gF rfl rfl zp0 ?_))
 rename Nat=>mb
 subst hc3
 refine Cd.cut (σ:=Bool) (fun c=>c = okF m) (fun c=>[(1,ptr mb),(3,.bool c)]) (fun _=>[MgB mb m.row]) ?_ (fun c hc=>?_)
 ·skip
  refine zdr [qy 0,qy 2,(1,2,[2]),qz 3,qz 4,qz 5,qy 6,qz 7,qz 8,qz 9,qy 10,qz 11,qz 12,qz 13,qz 14,qy 15,qz 16,qz 17,qz 18,qz 19,qz 20] ?_
  refine zg3 ?_
  refine Ops.call (named_spec m (by omega) (by omega)) rfl zp1 rfl rfl rfl (fun v A' hR=>?_)
  obtain ⟨rfl,rfl⟩:=hR
  repeat' (first|refine zs6 ?_|((fail_if_success refine Ops.probe rfl ?_);refine Ops.gSplit rfl rfl (fun hc=>?_) (fun hc=>?_) <;> (try simp only [decide_eq_true_eq,decide_eq_false_iff_not,Bool.not_eq_true',Bool.not_eq_false',Bool.not_eq_eq_eq_not,Bool.not_true,Bool.not_false,Int.not_lt,Int.not_le] at hc)))
  all_goals refine Ops.nilN (meet_end (Q:=fun _ _ _=>True) _ ?_ ⟨rfl,rfl,trivial⟩ (fun w h=>h.split))
  all_goals simp_all [okF,msEq]
 have hw:wcheckF m = if (fieldsF m.kind).all (fun fd=>fd.may m) && c then 0 else 71:=by
  rw [hc,Bool.and_comm];exact if_neg (by omega)
 rw [hw]
 clear hw hc
 refine zg1 ?_
 refine zqA (fields_spec m.kind) fun v A' hR=>?_
 have hlen:(fieldsF m.kind).length ≤ 5:=by
  unfold fieldsF
  (repeat' split)
  all_goals simp
 generalize fieldsF m.kind = fds at hR hlen ⊢
 rcases hR with ⟨rfl,rfl,rfl⟩|⟨sb,rows,G,rfl,rfl,hF⟩
 ·refine zg1 ?_
  refine Cd.loopK (σ:=Unit) (fun _=>True) (fun _=>[(1,ptr mb),(3,.bool c),(37,.int .i64 0),(38,.int .i64 0)]) (fun _=>[MgB mb m.row]) (fun _=>0) () trivial ⟨rfl,rfl,rfl,rfl,trivial⟩ (fun w h=>h.split) (fun _ _=>?_)
  cases c
  ·refine zg4 ?_
   exact ze9
  ·refine zg4 ?_
   exact ze9
 ·refine zg1 ?_
  refine Cd.loopK (σ:=Nat) (fun i=>i ≤ fds.length) (fun i=>[(1,ptr mb),(3,.bool ((fds.take i).all (fun fd=>fd.may m) && c)),(36,.slice (some ⟨sb,0,none⟩) fds.length fds.length),(37,.int .i64 ((fds.length:Nat):Int)),(38,.int .i64 ((i:Nat):Int))]) (fun i=>MgB mb m.row :: (sb,cl (rows.flatten ++ []) 169) :: G) (fun i=>fds.length - i) 0 (Nat.zero_le _) ⟨rfl,by rw [List.take_zero];rfl,rfl,rfl,rfl,trivial⟩ (fun w h=>h.split) (fun i hi=>?_)
  by_cases hlt:i < fds.length
  ·have hlt':((i:Nat):Int) < ((fds.length:Nat):Int):=by omega
   obtain ⟨fd,hfd⟩:∃ fd,fds[i]? = some fd:=⟨_,List.getElem?_eq_getElem hlt⟩
   obtain ⟨f1,c1,f2,c2,f3,c3,hr,k1,k2,q1,q2⟩:=hF.may hfd
   haveI:=k1
   have hr2:rows[((i:Nat):Int).toNat]? = some [.func (.func f1) #[] c1.toArray,.func (.func f2) #[] c2.toArray,.func (.func f3) #[] c3.toArray]:=by rw [Int.toNat_natCast];exact hr
   have hs:=take_all (fun fd=>fd.may m) c hfd
   generalize hb:((fds.take i).all (fun fd=>fd.may m) && c) = acc at hs ⊢
   cases acc
   ·refine zg14 ?_
    refine Ops.ldRowN (sz:=3) (o:=0) rfl rfl rfl hF.ok hr2 rfl ?_
    repeat' (first|refine zs7 ?_|refine Ops.alloc rfl rfl rfl (noPd rfl) (fun b=>?_))
    exact ze57
   ·refine zg14 ?_
    refine Ops.ldRowN (sz:=3) (o:=0) rfl rfl rfl hF.ok hr2 rfl ?_
    repeat' (first|refine zs3 ?_|refine Ops.alloc rfl rfl rfl (noPd rfl) (fun b=>?_))
    refine Ops.callV (fi:=[]) (ca:=c1) (vs:=[ptr mb]) (q1 mb m hok) rfl (noPd rfl) rfl rfl rfl rfl (fun v A' hR=>?_)
    obtain ⟨rfl,rfl⟩:=hR
    refine zg13 ?_
    exact ze57
  ·have hlt':¬ ((i:Nat):Int) < ((fds.length:Nat):Int):=by omega
   have he:i = fds.length:=by omega
   subst he
   rw [List.take_length]
   generalize (fds.all (fun fd=>fd.may m) && c) = acc
   cases acc
   ·refine zg8 ?_
    exact ze9
   ·refine zg8 ?_
    exact ze9
end Go.Proofs.YtkoelgkghijgiaaGreat
namespace Go.Proofs.YtkoelgkghijgiaaGreat
open Go Go.Sep Go.Proofs
set_option maxRecDepth 10000
set_option maxHeartbeats 40000000
set_option synthInstance.maxSize 2000
def FdOk:Fd → Prop
 | .whole _ lo hi=>0 ≤ lo ∧ hi ≤ 1099511627776
 | .text _ _ hi=>hi ≤ 1024
 | .result=>True
theorem fields_ok (kind:Int):∀ fd ∈ fieldsF kind,FdOk fd:=by
 unfold fieldsF
 (repeat' split)
 all_goals simp [FdOk]
theorem lay_size {fd:Fd} (h:FdOk fd) {m:Ms} (hok:MsOk m) (hm:fd.may m = true):(fd.lay m).size ≤ 1100:=by
 cases fd with
 | whole w lo hi =>
  simp only [Fd.may,decide_eq_true_eq] at hm
  obtain ⟨h1,h2⟩:=h
  have:=numB_size (n:=(w.get m).toNat) (by omega)
  show (numB (w.get m).toNat).size ≤ _
  omega
 | text t lo hi =>
  simp only [Fd.may,decide_eq_true_eq] at hm
  have h1:hi ≤ 1024:=h
  have:=frameF_size (t.get m) (by omega)
  show (frameF (t.get m)).size ≤ _
  omega
 | result =>
  simp only [Fd.may,Bool.or_eq_true,Bool.and_eq_true,decide_eq_true_eq] at hm
  have h1:=numB_size (n:=m.rcode.toNat) (by omega)
  have h2:=hiB_size m.rbits.toNat 8
  show (numB m.rcode.toNat ++ hiB m.rbits.toNat 8).size ≤ _
  rw [ByteArray.size_append]
  omega
def layG (m:Ms) (fds:List Fd):Nat → ByteArray
 | 0=>numB m.kind.toNat
 | i + 1=>layG m fds i ++ (match fds[i]? with|some fd=>fd.lay m|none=>.empty)
theorem layG_size {m:Ms} {fds:List Fd} (hk:0 ≤ m.kind ∧ m.kind ≤ 16) (ho:∀ fd ∈ fds,FdOk fd) (hok:MsOk m) (hm:∀ fd ∈ fds,fd.may m = true):∀ i,(layG m fds i).size ≤ 10 + i * 1100
 | 0=>by
  have:=numB_size (n:=m.kind.toNat) (by omega)
  show (numB m.kind.toNat).size ≤ _
  omega
 | i + 1=>by
  have ih:=layG_size hk ho hok hm i
  rw [layG,ByteArray.size_append]
  cases hf:fds[i]? with
  | none=>simp only [ByteArray.size_empty];omega
  | some fd =>
   have hmem:=List.mem_of_getElem? hf
   have:=lay_size (ho fd hmem) hok (hm fd hmem)
   dsimp only
   omega
def encF (m:Ms):ByteArray × Int:=if wcheckF m = 0 then (layG m (fieldsF m.kind) (fieldsF m.kind).length,0) else (⟨#[]⟩,wcheckF m)
end Go.Proofs.YtkoelgkghijgiaaGreat
namespace Go.Proofs.YtkoelgkghijgiaaGreat
open Go Go.Sep Go.Proofs Go.Proofs.Tryz
set_option maxRecDepth 10000
set_option maxHeartbeats 40000000
set_option synthInstance.maxSize 2000
theorem wencode_spec (m:Ms) (hok:MsOk m):Con prog 217 #[.agg m.row.toArray] [] fun v A=>v = .tuple #[.string (encF m).1,.int .i64 (encF m).2] ∧ A = []:=by
 refine zqI (vs:=[_]) func217 ntmps217 fun B=>?_
 repeat' (first|refine zs1 ?_|refine Ops.box rfl rfl rfl rfl (noPd rfl) (fun b=>?_))
 rename Nat=>mb
 refine zqA (wcheck_spec m hok) fun v A' hR=>?_
 obtain ⟨rfl,rfl⟩:=hR
 by_cases hc:wcheckF m = 0
 case neg =>
  rw [show encF m = (⟨#[]⟩,wcheckF m) from if_neg hc]
  generalize wcheckF m = e at hc ⊢
  refine zg2 ?_
  exact ze10
 rw [show encF m = (layG m (fieldsF m.kind) (fieldsF m.kind).length,0) from if_pos hc,hc]
 have hk:1 ≤ m.kind ∧ m.kind ≤ 16:=by
  unfold wcheckF at hc
  split at hc
  ·cases hc
  ·omega
 have hall:∀ fd ∈ fieldsF m.kind,fd.may m = true:=by
  unfold wcheckF at hc
  split at hc
  ·cases hc
  ·split at hc
   ·rename_i h
    rw [Bool.and_eq_true,List.all_eq_true] at h
    exact h.2
   ·cases hc
 clear hc
 have hlen:(fieldsF m.kind).length ≤ 5:=by
  unfold fieldsF
  (repeat' split)
  all_goals simp
 have hsz:=layG_size (m:=m) (by omega) (fields_ok m.kind) hok hall
 have hlay:∀ fd ∈ fieldsF m.kind,(fd.lay m).size ≤ 1100:=fun fd h=>lay_size (fields_ok m.kind fd h) hok (hall fd h)
 refine zg7 ?_
 refine Ops.cvI rfl rfl rfl rfl ?_
 rw [show IntKind.wrap .u64 m.kind = ((m.kind.toNat:Nat):Int) from by simp [IntKind.wrap,IntKind.bits,IntKind.signed];omega]
 refine zqA (num_spec m.kind.toNat (by omega)) fun v A' hR=>?_
 obtain ⟨rfl,rfl⟩:=hR
 refine zg1 ?_
 refine zqA (fields_spec m.kind) fun v A' hR=>?_
 generalize fieldsF m.kind = fds at hR hlen hsz hlay hall ⊢
 rcases hR with ⟨rfl,rfl,rfl⟩|⟨sb,rows,G,rfl,rfl,hF⟩
 ·refine zg1 ?_
  refine Cd.loopK (σ:=Unit) (fun _=>True) (fun _=>[(1,ptr mb),(5,.string (layG m [] 0)),(20,.int .i64 0),(21,.int .i64 0)]) (fun _=>[MgB mb m.row]) (fun _=>0) () trivial ⟨rfl,rfl,rfl,rfl,trivial⟩ (fun w h=>h.split) (fun _ _=>?_)
  refine zg4 ?_
  exact ze10
 ·refine zg1 ?_
  refine Cd.loopK (σ:=Nat) (fun i=>i ≤ fds.length) (fun i=>[(1,ptr mb),(5,.string (layG m fds i)),(19,.slice (some ⟨sb,0,none⟩) fds.length fds.length),(20,.int .i64 ((fds.length:Nat):Int)),(21,.int .i64 ((i:Nat):Int))]) (fun i=>MgB mb m.row :: (sb,cl (rows.flatten ++ []) 169) :: G) (fun i=>fds.length - i) 0 (Nat.zero_le _) ⟨rfl,rfl,rfl,rfl,rfl,trivial⟩ (fun w h=>h.split) (fun i hi=>?_)
  by_cases hlt:i < fds.length
  ·have hlt':((i:Nat):Int) < ((fds.length:Nat):Int):=by omega
   obtain ⟨fd,hfd⟩:∃ fd,fds[i]? = some fd:=⟨_,List.getElem?_eq_getElem hlt⟩
   obtain ⟨f1,c1,f2,c2,f3,c3,hr,k1,k2,q1,q2⟩:=hF.may hfd
   haveI:=k2
   have hmem:=List.mem_of_getElem? hfd
   have hr2:rows[((i:Nat):Int).toNat]? = some [.func (.func f1) #[] c1.toArray,.func (.func f2) #[] c2.toArray,.func (.func f3) #[] c3.toArray]:=by rw [Int.toNat_natCast];exact hr
   have hs:layG m fds (i + 1) = layG m fds i ++ fd.lay m:=by rw [layG,hfd]
   have hz1:=hsz i
   have hz2:=hlay fd hmem
   generalize layG m fds i = acc at hs hz1 ⊢
   refine zg14 ?_
   refine Ops.ldRowN (sz:=3) (o:=0) rfl rfl rfl hF.ok hr2 rfl ?_
   repeat' (first|refine zs3 ?_|refine Ops.alloc rfl rfl rfl (noPd rfl) (fun b=>?_))
   refine Ops.callV (fi:=[]) (ca:=c2) (vs:=[ptr mb]) (q2 mb m hok (hall fd hmem)) rfl (noPd rfl) rfl rfl rfl rfl (fun v A' hR=>?_)
   obtain ⟨rfl,rfl⟩:=hR
   refine Ops.cat rfl rfl rfl rfl (by omega) rfl ?_
   refine zg9 ?_
   exact ze57
  ·have hlt':¬ ((i:Nat):Int) < ((fds.length:Nat):Int):=by omega
   have he:i = fds.length:=by omega
   subst he
   refine zg2 ?_
   exact ze10
theorem ConB.insert2 {P:Program} {B0:Base} {f:FuncId} {args:Array Value} {x y x' y':Blk} {H:List Blk} (G0:List Blk) (h:ConB P B0 f args (x :: y :: H) fun v A=>A = x' :: y' :: H):ConB P B0 f args (x :: y :: (G0 ++ H)) fun v A=>A = x' :: y' :: (G0 ++ H) :=
 ((h.beside (F:=G0)).permIn (List.Perm.cons x (List.Perm.cons y List.perm_append_comm))).permOut fun v A' hR=>by
  obtain ⟨A2,rfl,rfl⟩:=hR
  exact ⟨_,rfl,List.Perm.cons x' (List.Perm.cons y' List.perm_append_comm)⟩
theorem ConB.append2 {P:Program} {B0:Base} {f:FuncId} {args:Array Value} {x y x' y':Blk} {H:List Blk} (G0:List Blk) (h:ConB P B0 f args (x :: y :: H) fun v A=>A = x' :: y' :: H):ConB P B0 f args (x :: y :: (H ++ G0)) fun v A=>A = x' :: y' :: (H ++ G0) :=
 (h.beside (F:=G0)).mono fun v A' hR=>by
  obtain ⟨A2,rfl,rfl⟩:=hR
  rfl
theorem FdsA.read {fds:List Fd} {rows:List (List Value)} {G:List Blk} (h:FdsA fds rows G):∀ {i:Nat} {fd:Fd},fds[i]? = some fd → ∃ f1 c1 f2 c2 f3 c3,rows[i]? = some [.func (.func f1) #[] (c1:List Value).toArray,.func (.func f2) #[] (c2:List Value).toArray,.func (.func f3) #[] (c3:List Value).toArray] ∧ FnOk prog f3 ∧
  (∀ B0 mb m rb (bs:ByteArray) (p:Nat) (e:Int),p ≤ bs.size → bs.size ≤ 1000000 → ConB prog B0 f3 ([ptr mb,ptr rb] ++ c3).toArray (MgB mb m.row :: RdB rb bs p e :: G) fun v A=>A = MgB mb (fd.read bs (m,p,e)).1.row :: RdB rb bs ((fd.read bs (m,p,e)).2.1:Nat) (fd.read bs (m,p,e)).2.2 :: G):=by
 induction h with
 | nil=>intro i fd hi;simp at hi
 | @cons fd0 fds v1 v2 v3 rows G0 H h1 h2 ih =>
  intro i fd hi
  cases i with
  | zero =>
   simp only [List.getElem?_cons_zero,Option.some.injEq] at hi
   subst hi
   obtain ⟨⟨f1,c1,rfl,_⟩,⟨f2,c2,rfl,_⟩,⟨f3,c3,rfl,k3,q3⟩⟩:=h1
   exact ⟨f1,c1,f2,c2,f3,c3,rfl,k3,fun B0 mb m rb bs p e hp hb=>ConB.append2 H (q3 B0 mb m rb bs p e hp hb)⟩
  | succ i =>
   simp only [List.getElem?_cons_succ] at hi
   obtain ⟨f1,c1,f2,c2,f3,c3,hr,k3,q3⟩:=ih hi
   exact ⟨f1,c1,f2,c2,f3,c3,by simpa using hr,k3,fun B0 mb m rb bs p e hp hb=>ConB.insert2 G0 (q3 B0 mb m rb bs p e hp hb)⟩
theorem rdBits_at {b:ByteArray} {p:Nat} {e:Int} (hp:p ≤ b.size):(rdBits b p e).2.1 ≤ b.size:=by
 unfold rdBits
 split
 ·exact hp
 ·split
  ·assumption
  ·exact hp
theorem Fd.read_at (fd:Fd) {b:ByteArray} {m:Ms} {p:Nat} {e:Int} (hp:p ≤ b.size):(fd.read b (m,p,e)).2.1 ≤ b.size:=by
 cases fd with
 | whole w lo hi=>exact rdNum_at hp
 | text t lo hi=>exact rdText_at hp
 | result=>exact rdBits_at (rdNum_at hp)
theorem rdText_size (b:ByteArray) (most p:Nat) (e:Int):(rdText b most p e).1.size ≤ b.size:=by
 unfold rdText txR
 split
 ·exact Nat.zero_le _
 ·split
  ·exact Nat.zero_le _
  ·rename_i u q h
   split at h
   ·cases h
   ·split at h
    ·rename_i n q2 _ hle
     injection h with h
     injection h with h1 h2
     rw [← h1,ByteArray.size_extract]
     omega
    ·cases h
theorem rdBits_lt (b:ByteArray) (p:Nat) (e:Int):(rdBits b p e).1 < 18446744073709551616:=by
 unfold rdBits
 split
 ·show (0:Nat) < _;omega
 ·split
  ·exact ofn_lt _ 8
  ·show (0:Nat) < _;omega
theorem MsOk.read {m:Ms} (h:MsOk m) (fd:Fd) {b:ByteArray} (hb:b.size ≤ 100000) (p:Nat) (e:Int):MsOk (fd.read b (m,p,e)).1:=by
 obtain ⟨h1,h2,h3⟩:=h
 cases fd with
 | whole w lo hi=>cases w <;> exact ⟨h1,h2,h3⟩
 | text t lo hi =>
  have h4:=rdText_size b hi p e
  cases t
  ·exact ⟨by show (rdText b hi p e).1.size ≤ _;omega,h2,h3⟩
  ·exact ⟨h1,by show (rdText b hi p e).1.size ≤ _;omega,h3⟩
 | result =>
  have h4:=rdBits_lt b (rdNum b 7 p e).2.1 (rdNum b 7 p e).2.2
  exact ⟨h1,h2,by show 0 ≤ (((rdBits b (rdNum b 7 p e).2.1 (rdNum b 7 p e).2.2).1:Nat):Int) ∧ (((rdBits b (rdNum b 7 p e).2.1 (rdNum b 7 p e).2.2).1:Nat):Int) < _;omega⟩
def readG (b:ByteArray) (fds:List Fd) (s:Ms × Nat × Int):Nat → Ms × Nat × Int
 | 0=>s
 | i + 1=>match fds[i]? with
  | none=>readG b fds s i
  | some fd=>fd.read b (readG b fds s i)
theorem readG_at {b:ByteArray} {fds:List Fd} {s:Ms × Nat × Int} (h:s.2.1 ≤ b.size) (hb:b.size ≤ 100000) (ho:MsOk s.1):∀ i,(readG b fds s i).2.1 ≤ b.size ∧ MsOk (readG b fds s i).1
 | 0=>⟨h,ho⟩
 | i + 1=>by
  obtain ⟨h1,h2⟩:=readG_at (fds:=fds) h hb ho i
  unfold readG
  split
  ·exact ⟨h1,h2⟩
  ·rename_i fd _
   exact ⟨Fd.read_at fd (m:=(readG b fds s i).1) (e:=(readG b fds s i).2.2) h1,h2.read fd hb _ _⟩
@[reducible] def Ms.of (k:Int):Ms:=⟨k,0,0,0,0,0,0,0,0,⟨#[]⟩,⟨#[]⟩⟩
def readK (b:ByteArray):Ms × Nat × Int:=(Ms.of ((rdNum b 16 0 0).1:Nat),(rdNum b 16 0 0).2)
def readM (b:ByteArray):Ms × Nat × Int:=readG b (fieldsF ((rdNum b 16 0 0).1:Nat)) (readK b) (fieldsF ((rdNum b 16 0 0).1:Nat)).length
def decF (b:ByteArray):Ms × Int:=if 2048 < b.size then (Ms.zero,73) else if (endF b (readM b).2.1 (readM b).2.2).1 = 0 ∧ wcheckF (readM b).1 = 0 then ((readM b).1,0) else (Ms.zero,72)
theorem wdecode_spec (B0:Base) (bs:ByteArray) (hb0:bs.size < 9223372036854775808):ConB prog B0 46 #[.string bs] [] fun v A=>v = .tuple #[.agg (decF bs).1.row.toArray,.int .i64 (decF bs).2] ∧ A = []:=by
 refine zqJ (vs:=[_]) func46 ntmps46 fun B hB=>?_
 by_cases hb:2048 < bs.size
 ·rw [show decF bs = (Ms.zero,73) from if_pos hb]
  have hb':(2048:Int) < (bs.size:Int):=by omega
  repeat' (first|refine zs5 ?_|refine Ops.alloc rfl rfl rfl (noPd rfl) (fun b=>?_))
  exact ze24
 have hb':¬ (2048:Int) < (bs.size:Int):=by omega
 rw [show decF bs = if (endF bs (readM bs).2.1 (readM bs).2.2).1 = 0 ∧ wcheckF (readM bs).1 = 0 then ((readM bs).1,0) else (Ms.zero,72) from if_neg hb]
 repeat' (first|refine zs4 ?_|refine Ops.alloc rfl rfl rfl (noPd rfl) (fun b=>?_))
 rename Nat=>zb
 refine zqA (read_spec bs) fun v A' hR=>?_
 obtain ⟨rb,rfl,rfl⟩:=hR
 refine zg0 ?_
 refine Ops.callB (rnum_spec B0 rb bs 0 16 0 (Nat.zero_le _) (by omega) (by omega)) hB rfl (noPd rfl) rfl rfl rfl (fun v A' hR=>?_)
 obtain ⟨rfl,rfl⟩:=hR
 have hk:(rdNum bs 16 0 0).1 ≤ 16:=rdNum_le
 have hkp:(rdNum bs 16 0 0).2.1 ≤ bs.size:=rdNum_at (Nat.zero_le _)
 have hsp:readM bs = readG bs (fieldsF ((rdNum bs 16 0 0).1:Nat)) (Ms.of ((rdNum bs 16 0 0).1:Nat),(rdNum bs 16 0 0).2) (fieldsF ((rdNum bs 16 0 0).1:Nat)).length:=rfl
 generalize readM bs = rm at hsp ⊢
 generalize rdNum bs 16 0 0 = r0 at hsp hk hkp ⊢
 obtain ⟨kd,p0,e0⟩:=r0
 dsimp only at hsp hk hkp ⊢
 refine Ops.cvI rfl rfl rfl rfl ?_
 rw [show IntKind.wrap .i64 ((kd:Nat):Int) = ((kd:Nat):Int) from by simp [IntKind.wrap,IntKind.bits,IntKind.signed];omega]
 generalize hc5:Code.seq (Code.seq (Code.region 5 _ _) _) _ = c5
 repeat' (first|refine zs0 ?_|refine Ops.alloc rfl rfl rfl (noPd rfl) (fun b=>?_))
 rename Nat=>mb
 subst hc5
 have hlen:(fieldsF (kd:Int)).length ≤ 5:=by
  unfold fieldsF
  (repeat' split)
  all_goals simp
 have hat:=readG_at (b:=bs) (fds:=fieldsF (kd:Int)) (s:=(Ms.of (kd:Int),p0,e0)) hkp (by omega) ⟨Nat.zero_le _,Nat.zero_le _,by show (0:Int) ≤ 0 ∧ (0:Int) < _;omega⟩
 have hat1:=hat (fieldsF (kd:Int)).length
 rw [← hsp] at hat1
 refine Cd.cut (σ:=Unit) (fun _=>True) (fun _=>[(2,ptr zb),(4,ptr rb),(5,ptr mb)]) (fun _=>[MgB mb rm.1.row,RdB rb bs (rm.2.1:Nat) rm.2.2,(zb,cl Ms.zero.row 38)]) ?_ (fun _ _=>?_)
 ·refine zg1 ?_
  refine zqA (fields_spec (kd:Int)) fun v A' hR=>?_
  generalize fieldsF (kd:Int) = fds at hR hlen hat hsp ⊢
  rcases hR with ⟨rfl,rfl,rfl⟩|⟨sb,rows,G,rfl,rfl,hF⟩
  ·have e:rm = (Ms.of (kd:Int),p0,e0):=hsp
   subst e
   refine zg1 ?_
   refine Cd.loopK (σ:=Unit) (fun _=>True) (fun _=>[(2,ptr zb),(4,ptr rb),(5,ptr mb),(23,.int .i64 0),(24,.int .i64 0)]) (fun _=>[MgB mb (Ms.of (kd:Int)).row,RdB rb bs (p0:Nat) e0,(zb,cl Ms.zero.row 38)]) (fun _=>0) () trivial ⟨rfl,rfl,rfl,rfl,rfl,trivial⟩ (fun w h=>h.split) (fun _ _=>?_)
   refine zg7 ?_
   exact ze58
  ·refine zg1 ?_
   refine Cd.loopK (σ:=Nat) (fun i=>i ≤ fds.length) (fun i=>[(2,ptr zb),(4,ptr rb),(5,ptr mb),(22,.slice (some ⟨sb,0,none⟩) fds.length fds.length),(23,.int .i64 ((fds.length:Nat):Int)),(24,.int .i64 ((i:Nat):Int))]) (fun i=>MgB mb (readG bs fds (Ms.of (kd:Int),p0,e0) i).1.row :: RdB rb bs ((readG bs fds (Ms.of (kd:Int),p0,e0) i).2.1:Nat) (readG bs fds (Ms.of (kd:Int),p0,e0) i).2.2 :: (zb,cl Ms.zero.row 38) :: (sb,cl (rows.flatten ++ []) 169) :: G) (fun i=>fds.length - i) 0 (Nat.zero_le _) ⟨rfl,rfl,rfl,rfl,rfl,rfl,trivial⟩ (fun w h=>(h.split:Sat _ (MgB mb (Ms.of (kd:Int)).row :: RdB rb bs (p0:Nat) e0 :: (zb,cl Ms.zero.row 38) :: (sb,cl (rows.flatten ++ []) 169) :: G) w)) (fun i hi=>?_)
   by_cases hlt:i < fds.length
   ·have hlt':((i:Nat):Int) < ((fds.length:Nat):Int):=by omega
    obtain ⟨fd,hfd⟩:∃ fd,fds[i]? = some fd:=⟨_,List.getElem?_eq_getElem hlt⟩
    obtain ⟨f1,c1,f2,c2,f3,c3,hr,k3,q3⟩:=hF.read hfd
    haveI:=k3
    have hr2:rows[((i:Nat):Int).toNat]? = some [.func (.func f1) #[] c1.toArray,.func (.func f2) #[] c2.toArray,.func (.func f3) #[] c3.toArray]:=by rw [Int.toNat_natCast];exact hr
    have hs:readG bs fds (Ms.of (kd:Int),p0,e0) (i + 1) = fd.read bs (readG bs fds (Ms.of (kd:Int),p0,e0) i):=by rw [readG,hfd]
    have hz1:=hat i
    clear hsp hat
    generalize readG bs fds (Ms.of (kd:Int),p0,e0) i = ri at hs hz1 ⊢
    obtain ⟨mi,pi,ei⟩:=ri
    dsimp only at hz1 ⊢
    refine zg14 ?_
    refine Ops.ldRowN (sz:=3) (o:=0) rfl rfl rfl hF.ok hr2 rfl ?_
    repeat' (first|refine zs3 ?_|refine Ops.alloc rfl rfl rfl (noPd rfl) (fun b=>?_))
    refine Ops.callVB (fi:=[]) (ca:=c3) (vs:=[ptr mb,ptr rb]) (q3 B0 mb mi rb bs pi ei hz1.1 (by omega)) hB rfl (noPd rfl) rfl rfl rfl rfl (fun v A' hR=>?_)
    subst hR
    refine zg9 ?_
    exact Ops.nilN (round_end (i + 1:Nat) (by show i + 1 ≤ fds.length;omega) zp20 ⟨rfl,rfl,rfl,rfl,rfl,rfl,trivial⟩ (fun w h=>by rw [hs];exact h.split))
   ·have hlt':¬ ((i:Nat):Int) < ((fds.length:Nat):Int):=by omega
    have he:i = fds.length:=by omega
    subst he
    rw [← hsp]
    refine zg2 ?_
    exact ze58
 clear hsp hat
 obtain ⟨m,p,e⟩:=rm
 dsimp only at hat1 ⊢
 refine zg0 ?_
 refine zqA (end_spec rb bs p e) fun v A' hR=>?_
 obtain ⟨rfl,rfl⟩:=hR
 generalize endF bs p e = en
 obtain ⟨en,ep⟩:=en
 dsimp only
 by_cases he:en = 0
 case neg =>
  rw [if_neg (fun q=>he q.1)]
  refine zg7 ?_
  exact ze24
 subst he
 refine zg4 ?_
 refine zqA (wcheck_spec m hat1.2) fun v A' hR=>?_
 obtain ⟨rfl,rfl⟩:=hR
 generalize wcheckF m = we
 by_cases hw:we = 0
 ·subst hw
  rw [if_pos ⟨rfl,rfl⟩]
  refine zg7 ?_
  exact ze24
 ·rw [if_neg (fun q=>hw q.2)]
  refine zg8 ?_
  exact ze24
@[reducible] def Ch.res (n:Int):Ch:=⟨1,n,0,0,0,0,0,0,⟨#[]⟩,[]⟩
theorem draws_new (xb lb tb cb mb db wb sb:Nat) (c:Cf) (hc:CfOk c) (tv:Value) (dead:Bool) (la re b rs la1 re1:Int) (h0:0 ≤ re) (h1:re ≤ 1099511627776) (h2:0 ≤ la) (hn:nextB c.block la re = ((b,rs,0),la1,re1)) (hrs:rs ≠ 0) :
  Con prog 144 #[ptr xb] [CoB xb lb tb cb mb db wb sb c tv dead,CtB cb c.block la re] fun v A=>∃ g,v = .tuple #[.int .i64 b,.slice (some ⟨g,0,none⟩) 1 1,.bool true] ∧ A = [CoB xb lb tb cb mb db wb sb c tv dead,CtB cb c.block la1 re1,(g,cl ((Ch.res rs).row none 0) 103)]:=by
 obtain ⟨_,_,_,_,_,_,⟨g1,g2⟩,_,_⟩:=id hc
 refine zqI (vs:=[_]) func144 ntmps144 fun B=>?_
 refine zg1 ?_
 refine zqA (bnext_spec cb c.block la re g1 g2 h0 h1 h2) fun v A' hR=>?_
 rw [hn] at hR
 obtain ⟨rfl,rfl⟩:=hR
 dsimp only
 repeat' (first|refine zs4 ?_|refine Ops.bs1 rfl rfl rfl rfl rfl rfl rfl (noPd rfl) (fun b=>?_))
 rename Nat=>g
 exact Cd.ret (ret3 (A':=[CoB xb lb tb cb mb db wb sb c tv dead,CtB cb c.block la1 re1,(g,cl ((Ch.res rs).row none 0) 103)]) rfl (Res.tmp rfl) (Res.tmp rfl) (Res.tmp rfl) (fun _ h=>h.split) ⟨g,rfl,rfl⟩)
@[reducible] def heV (xb:Nat) (node life:Int) (m:Ms):List Value:=[ptr xb,.int .i64 node,.int .i64 life,.int .i64 m.kind,.int .i64 m.session,.int .i64 m.number,.int .i64 m.job,.int .i64 m.badge,.int .i64 m.index,.int .i64 m.count,.int .i64 m.rcode,.int .u64 m.rbits,.string m.text,.string m.prog]
theorem slot_spec (xb:Nat) (node life:Int) (m:Ms) (h1:2 ≤ node) (h2:node ≤ 9):Con prog 143 #[.agg (heV xb node life m).toArray] [] fun v A=>v = .int .i64 (node - 2) ∧ A = []:=by
 refine zqI (vs:=[_]) func143 ntmps143 fun B=>?_
 repeat' (first|refine zs9 ?_|refine Ops.box rfl rfl rfl rfl (noPd rfl) (fun b=>?_))
 exact ze9
theorem told_spec (m:Ms) (hok:MsOk m):Con prog 146 #[.agg m.row.toArray] [] fun v A=>v = .string (encF m).1 ∧ A = []:=by
 refine zqI (vs:=[_]) func146 ntmps146 fun B=>?_
 repeat' (first|refine zs1 ?_|refine Ops.box rfl rfl rfl rfl (noPd rfl) (fun b=>?_))
 refine zqA (wencode_spec m hok) fun v A' hR=>?_
 obtain ⟨rfl,rfl⟩:=hR
 refine zg3 ?_
 exact ze9
theorem makes_own (B0:Base) (xb lb tb cb mb db wb sb:Nat) (c:Cf) (dead:Bool) (w w1:Wl) (x x1:Dk) (k:Nat) (D:List Blk) (hD:DkA db x k D) (s:StP) (SD:List Blk) (hS:StA sb s SD) (ok:StOk s) (tv:Value) (tl:List Cg) (TG:List Blk) (hT:OwnC tv tl TG) (htl:tl.length ≤ 1000000000)
  (g:Nat) (r:Int) (wok:WlOk w x.S.length) (hk:k ≤ 800000000000)
  (hz:(encodeF [Ch.res r]).1.size ≤ 900000) (hev:w.recs < c.every) (hrm:(encodeF [Ch.res r]).1.size ≤ roomW w x.S.length) (hap:appendF w x (encodeF [Ch.res r]).1 = ((w1,x1),0)) :
  ConB prog B0 69 #[ptr xb,.slice (some ⟨g,0,none⟩) 1 1] (CoB xb lb tb cb mb db wb sb c tv dead :: WlB wb db w :: (SD ++ (D ++ (TG ++ [(g,cl ((Ch.res r).row none 0) 103)]))))
   fun v X=>∃ SD1 D1 tv1 TG1,X = CoB xb lb tb cb mb db wb sb c tv1 dead :: WlB wb db w1 :: (SD1 ++ (D1 ++ (TG1 ++ [(g,cl ((Ch.res r).row none 0) 103)]))) ∧ StA sb (applyF s [Ch.res r]).2 SD1 ∧ DkA db x1 (k + (encodeF [Ch.res r]).1.size + 20) D1 ∧ OwnC tv1 (tl ++ [⟨Ch.res r,none,0⟩]) TG1:=by
 rw [show CoB xb lb tb cb mb db wb sb c tv dead :: WlB wb db w :: (SD ++ (D ++ (TG ++ [(g,cl ((Ch.res r).row none 0) 103)]))) = (CoB xb lb tb cb mb db wb sb c tv dead :: WlB wb db w :: (SD ++ (D ++ TG))) ++ [(g,cl ((Ch.res r).row none 0) 103)] from by simp only [List.cons_append,List.append_assoc]]
 refine ConB.mono (ConB.lend (R:=fun v A=>∃ SD1 D1 tv1 TG1,A = CoB xb lb tb cb mb db wb sb c tv1 dead :: WlB wb db w1 :: (SD1 ++ (D1 ++ TG1)) ∧ StA sb (applyF s [Ch.res r]).2 SD1 ∧ DkA db x1 (k + (encodeF [Ch.res r]).1.size + 20) D1 ∧ OwnC tv1 (tl ++ [⟨Ch.res r,none,0⟩]) TG1) fun B1 e hG=>?_) (fun v X hR=>by
  obtain ⟨A,⟨SD1,D1,tv1,TG1,rfl,q1,q2,q3⟩,rfl⟩:=hR
  exact ⟨SD1,D1,tv1,TG1,by simp only [List.cons_append,List.append_assoc],q1,q2,q3⟩)
 ·skip
  have hO:Own 103 10 (.slice (some ⟨g,0,none⟩) 1 1) [(Ch.res r).row none 0] [(g,cl ((Ch.res r).row none 0) 103)]:=⟨RowsOk.one rfl rfl,.inr ⟨g,1,[],rfl,rfl,rfl,Nat.le_refl _⟩⟩
  have hr:RIn 10 B1 (some ⟨g,0,none⟩) [(Ch.res r).row none 0]:=Own.rin hO hG
  have hC:CIn B1 (some ⟨g,0,none⟩) [⟨Ch.res r,none,0⟩]:=⟨hr,fun q hq=>(by
   rw [List.mem_singleton] at hq;subst hq
   intro i t ht;cases ht),fun q hq=>(by rw [List.mem_singleton] at hq;subst hq;exact Nat.zero_le _),fun q hq=>(by rw [List.mem_singleton] at hq;subst hq;show (0:Int) ≤ 0 ∧ (0:Int) < _;omega)⟩
  exact makes_spec B1 xb lb tb cb mb db wb sb c dead w w1 x x1 k D hD s SD hS ok tv tl TG hT htl (some ⟨g,0,none⟩) 1 [⟨Ch.res r,none,0⟩] hC (by show (0:Nat) < 1;omega) (by show (1:Nat) ≤ 2000000;omega) (fun q hq _=>(by rw [List.mem_singleton] at hq;subst hq;exact step_reserve B1 _ rfl)) wok hk hz hev hrm hap
theorem hello_new (B0:Base) (xb lb tb cb mb db wb sb:Nat) (c:Cf) (hc:CfOk c) (dead:Bool) (w w1:Wl) (x x1:Dk) (k:Nat) (D:List Blk) (hD:DkA db x k D) (s:StP) (SD:List Blk) (hS:StA sb s SD) (ok:StOk s) (tv:Value) (tl:List Cg) (TG:List Blk) (hT:OwnC tv tl TG) (htl:tl.length ≤ 1000000000)
  (sv:Value) (rs:List Se.Dk) (G:List Blk) (hO:Se.OwnK sv rs G) (la re bg r la1 re1:Int) (h0:0 ≤ re) (h1:re ≤ 1099511627776) (h2:0 ≤ la) (hn:nextB c.block la re = ((bg,r,0),la1,re1)) (hr0:r ≠ 0) (hbg:0 ≤ bg ∧ bg ≤ 1099511627776)
  (wok:WlOk w x.S.length) (hk:k ≤ 800000000000)
  (hz:(encodeF [Ch.res r]).1.size ≤ 900000) (hev:w.recs < c.every) (hrm:(encodeF [Ch.res r]).1.size ≤ roomW w x.S.length) (hap:appendF w x (encodeF [Ch.res r]).1 = ((w1,x1),0))
  (node life:Int) (m:Ms) (hn1:2 ≤ node) (hn2:node ≤ 9) (hfr:Se.helloV (Se.rowAt rs (node - 2)) life = (2,0)) :
  ConB prog B0 85 #[.agg (heV xb node life m).toArray] (CoB xb lb tb cb mb db wb sb c tv dead :: (Se.TabB tb sv G ++ (CtB cb c.block la re :: WlB wb db w :: (SD ++ (D ++ TG)))))
   fun v A=>v = .string (encF ⟨7,bg,0,0,0,0,0,0,0,⟨#[]⟩,⟨#[]⟩⟩).1 ∧ ∃ SD1 D1 tv1 TG1 G1,A = CoB xb lb tb cb mb db wb sb c tv1 dead :: (Se.TabB tb sv G1 ++ (CtB cb c.block la1 re1 :: WlB wb db w1 :: (SD1 ++ (D1 ++ TG1)))) ∧ StA sb (applyF s [Ch.res r]).2 SD1 ∧ DkA db x1 (k + (encodeF [Ch.res r]).1.size + 20) D1 ∧ OwnC tv1 (tl ++ [⟨Ch.res r,none,0⟩]) TG1 ∧ Se.OwnK sv (Se.putRow rs (node - 2) (Se.openV (Se.rowAt rs (node - 2)) (node - 2) life bg)) G1:=by
 refine zqJ (vs:=[_]) func85 ntmps85 fun B hB=>?_
 repeat' (first|refine zs1 ?_|refine Ops.box rfl rfl rfl rfl (noPd rfl) (fun b=>?_))
 rename Nat=>hb
 refine zdr [qz 0,qy 1,qz 2,qz 3,qz 4,qy 5,qy 6,qz 8,qz 9,qy 10,(7,2,[1,5,10]),(11,2,[]),qz 12,qz 13,qz 14,qz 15,qz 16] ?_
 refine zg3 ?_
 refine Ops.call (slot_spec xb node life m hn1 hn2) rfl zp1 rfl rfl rfl (fun v A' hR=>?_)
 obtain ⟨rfl,rfl⟩:=hR
 refine Ops.call (Se.hello_fun tb sv rs G (node - 2) life hO) rfl zp1 rfl rfl rfl (fun v A' hR=>?_)
 rw [hfr] at hR
 obtain ⟨rfl,rfl⟩:=hR
 dsimp only
 refine zg4 ?_
 refine zqA (draws_new xb lb tb cb mb db wb sb c hc tv dead la re bg r la1 re1 h0 h1 h2 hn hr0) fun v A' hR=>?_
 obtain ⟨g,rfl,rfl⟩:=hR
 refine zg4 ?_
 refine zqB (makes_own B0 xb lb tb cb mb db wb sb c dead w w1 x x1 k D hD s SD hS ok tv tl TG hT htl g r wok hk hz hev hrm hap) hB fun v A' hR=>?_
 obtain ⟨SD1,D1,tv1,TG1,rfl,hS1,hD1,hT1⟩:=hR
 refine zg0 ?_
 refine zdr [qz 0,qy 1,qz 2,qz 3,qz 4,qy 5,qy 6,qz 8,qz 9,qy 10,qz 11,(7,2,[1,5,10]),(12,2,[])] ?_
 refine zg3 ?_
 refine Ops.call (slot_spec xb node life m hn1 hn2) rfl zp1 rfl rfl rfl (fun v A' hR=>?_)
 obtain ⟨rfl,rfl⟩:=hR
 refine zqA (Se.open_fun tb sv rs G (node - 2) life bg hO) fun v A' hR=>?_
 obtain ⟨⟨er,rfl⟩,G1,rfl,hO1⟩:=hR
 refine zg3 ?_
 refine Ops.call (told_spec ⟨7,bg,0,0,0,0,0,0,0,⟨#[]⟩,⟨#[]⟩⟩ ⟨Nat.zero_le _,Nat.zero_le _,by show (0:Int) ≤ 0 ∧ (0:Int) < _;omega⟩) rfl (noPd rfl) rfl rfl rfl (fun v A' hR=>?_)
 obtain ⟨rfl,rfl⟩:=hR
 refine zg0 ?_
 exact Cd.ret (ret1 (A':=CoB xb lb tb cb mb db wb sb c tv1 dead :: (Se.TabB tb sv G1 ++ (CtB cb c.block la1 re1 :: WlB wb db w1 :: (SD1 ++ (D1 ++ TG1))))) rfl (Res.tmp rfl) (fun _ h=>h.split) ⟨rfl,SD1,D1,tv1,TG1,G1,rfl,hS1,hD1,hT1,hO1⟩)
theorem enc_ok {l:List Ch} (h:(encodeF l).2 = 0):0 < (encodeF l).1.size ∧ (encodeF l).1.size ≤ 2048:=by
 unfold encodeF at h ⊢
 split at h
 ·cases h
 ·rename_i hl
  rw [if_neg hl]
  split at h
  ·rename_i c hf
   have:=List.find?_some hf
   simp only [decide_eq_true_eq] at this
   exact absurd h this
  ·rename_i hf
   split at h
   ·cases h
   ·rename_i hsz
    rw [if_neg hsz]
    refine ⟨?_,by show (encN l l.length).size ≤ 2048;omega⟩
    have hn:∀ i,0 < (encN l i).size:=by
     intro i
     induction i with
     | zero =>
      show 0 < (numB l.length).size
      rw [numB,bytesOf_size]
      unfold numL
      split <;> simp
     | succ i ih=>rw [encN,ByteArray.size_append];omega
    exact hn _
def preW (every:Int) (w:Wl) (x:Dk) (b r:ByteArray):Wl × Dk:=if wants every w x.S.length r then (snapF w x b).1 else (w,x)
theorem mkW_pre (every:Int) (w:Wl) (x:Dk) (b r:ByteArray):mkW every w x b r = (appendF (preW every w x b r).1 (preW every w x b r).2 r).1:=by
 unfold mkW preW
 split <;> rfl
structure MkS where
 w:Wl
 x:Dk
 k:Nat
 D:List Blk
theorem makes_gen (B0:Base) (xb lb tb cb mb db wb sb:Nat) (c:Cf) (hc:CfOk c) (dead:Bool) (w:Wl) (x:Dk) (len:Nat) (lg:LgOk w x len) (hroom:20480 ≤ roomF len) (hnum:w.h.number + 2 < 1099511627776) (k:Nat) (D:List Blk) (hD:DkA db x k D) (hk:k ≤ 700000000000) (s:StP) (SD:List Blk) (hS:StA sb s SD) (ok:StOk s) (bd:StBd s) (tv:Value) (tl:List Cg) (TG:List Blk) (hT:OwnC tv tl TG) (htl:tl.length ≤ 1000000000)
  (a:Option Addr) (cp:Nat) (l:List Cg) (hC:CIn B0 a l) (h0:0 < l.length) (hl:l.length ≤ 2000000) (henc:(encodeF (l.map Cg.c)).2 = 0) :
  ConB prog B0 69 #[ptr xb,.slice a l.length cp] (CoB xb lb tb cb mb db wb sb c tv dead :: WlB wb db w :: (SD ++ (D ++ TG)))
   fun v A=>∃ SD1 D1 tv1 TG1 k1,A = CoB xb lb tb cb mb db wb sb c tv1 dead :: WlB wb db (mkW c.every w x (bytesS s) (encodeF (l.map Cg.c)).1).1 :: (SD1 ++ (D1 ++ TG1)) ∧ StA sb (applyF s (l.map Cg.c)).2 SD1 ∧ DkA db (mkW c.every w x (bytesS s) (encodeF (l.map Cg.c)).1).2 k1 D1 ∧ k1 ≤ k + 20000 ∧ OwnC tv1 (tl ++ l) TG1:=by
 obtain ⟨ta,tc,rfl⟩:=hT.form
 obtain ⟨_,_,_,_,_,_,_,⟨ev1,ev16⟩,_⟩:=id hc
 obtain ⟨hr0,hr1⟩:=enc_ok henc
 have hb:=bytesS_le bd ok
 have hmk:=mk_calm (every:=c.every) (b:=bytesS s) lg ev16 hroom hnum hb hr0 hr1
 have wok:WlOk w x.S.length:=by rw [lg.cm.len];exact lg.wo
 refine zqJ (vs:=[_,_]) func69 ntmps69 fun B hB=>?_
 have h0':¬ ((l.length:Nat):Int) = 0:=by omega
 generalize hc2:Code.seq (Code.seq (Code.region 2 _ _) _) _ = c2
 refine zg2 ?_
 refine zqB (encode_spec B0 a cp l hC hl) hB fun v A' hR=>?_
 obtain ⟨rfl,rfl⟩:=hR
 generalize encodeF (l.map Cg.c) = en at henc hr0 hr1 hmk ⊢
 obtain ⟨r,er⟩:=en
 dsimp only at henc hr0 hr1 hmk ⊢
 have hpre:=mkW_pre c.every w x (bytesS s) r
 have hpr0:preW c.every w x (bytesS s) r = if wants c.every w x.S.length r then (snapF w x (bytesS s)).1 else (w,x):=rfl
 rw [hpre] at hmk ⊢
 obtain ⟨hmk1,hmk2,hmk3,hmk4⟩:=hmk
 refine zg1 ?_
 subst hc2
 refine Cd.cut (σ:=MkS) (fun t=>(t.w,t.x) = preW c.every w x (bytesS s) r ∧ DkA db t.x t.k t.D ∧ t.k ≤ k + 17020) (fun _=>[(0,ptr xb),(1,.slice a l.length cp),(4,.string r)]) (fun t=>CoB xb lb tb cb mb db wb sb c (.slice ta tl.length tc) dead :: WlB wb db t.w :: (SD ++ (t.D ++ TG))) ?_ (fun t ht=>?_)
 ·by_cases hw1:c.every ≤ w.recs
  ·have hwt:wants c.every w x.S.length r:=.inl hw1
   rw [if_pos hwt] at hpr0
   obtain ⟨q1,q2,q3⟩:=hmk3 hwt
   refine zg0 ?_
   refine zdr [qz 0,qz 1,qz 2,qy 3,qz 5,qz 6,qz 7,qz 8,qy 9,(4,2,[9]),qz 10,qz 11,qz 12,qz 13,qz 14,qy 15,qz 17,qz 18,(16,2,[]),qz 19,qz 20] ?_
   refine zg5 ?_
   refine Ops.call (records_spec wb db w) rfl zp1 rfl rfl rfl (fun v A' hR=>?_)
   obtain ⟨rfl,rfl⟩:=hR
   refine zg18 ?_
   refine zdr [qz 0,qz 1,qz 2,qy 3,qz 4,qz 5,qz 6,qy 7,(8,2,[3]),(9,2,[]),qz 10] ?_
   refine zg5 ?_
   refine Ops.callB (sbytes_own B0 sb s SD hS ok bd) hB rfl zp1 rfl rfl rfl (fun v A' hR=>?_)
   obtain ⟨rfl,e⟩:=hR
   subst A'
   refine zqB (snapshot_spec B0 wb db w x k D hD (bytesS s) wok (by omega) (by omega)) hB fun v A' hR=>?_
   obtain ⟨rfl,D1,rfl,hD1⟩:=hR
   rw [q1]
   refine zg4 ?_
   exact ze70
  ·by_cases hw2:roomW w x.S.length < r.size
   ·have hwt:wants c.every w x.S.length r:=.inr hw2
    have hw2':((roomW w x.S.length:Nat):Int) < ((r.size:Nat):Int):=by omega
    rw [if_pos hwt] at hpr0
    obtain ⟨q1,q2,q3⟩:=hmk3 hwt
    refine zg0 ?_
    refine zdr [qz 0,qz 1,qz 2,qy 3,qz 5,qz 6,qz 7,qz 8,qy 9,(4,2,[9]),qz 10,qz 11,qz 12,qz 13,qz 14,qy 15,qz 17,qz 18,(16,2,[]),qz 19,qz 20] ?_
    refine zg5 ?_
    refine Ops.call (records_spec wb db w) rfl zp1 rfl rfl rfl (fun v A' hR=>?_)
    obtain ⟨rfl,rfl⟩:=hR
    refine zg11 ?_
    refine Ops.callB (roomw_spec B0 wb db w x k D hD wok) hB rfl zp1 rfl rfl rfl (fun v A' hR=>?_)
    obtain ⟨rfl,rfl⟩:=hR
    refine zg8 ?_
    refine zdr [qz 0,qz 1,qz 2,qy 3,qz 4,qz 5,qz 6,qy 7,(8,2,[3]),(9,2,[]),qz 10] ?_
    refine zg5 ?_
    refine Ops.callB (sbytes_own B0 sb s SD hS ok bd) hB rfl zp1 rfl rfl rfl (fun v A' hR=>?_)
    obtain ⟨rfl,e⟩:=hR
    subst A'
    refine zqB (snapshot_spec B0 wb db w x k D hD (bytesS s) wok (by omega) (by omega)) hB fun v A' hR=>?_
    obtain ⟨rfl,D1,rfl,hD1⟩:=hR
    rw [q1]
    refine zg4 ?_
    exact ze70
   ·have hwt:¬ wants c.every w x.S.length r:=by rintro (q|q);exact hw1 q;exact hw2 q
    have hw2':¬ ((roomW w x.S.length:Nat):Int) < ((r.size:Nat):Int):=by omega
    rw [if_neg hwt] at hpr0
    refine zg0 ?_
    refine zdr [qz 0,qz 1,qz 2,qy 3,qz 5,qz 6,qz 7,qz 8,qy 9,(4,2,[9]),qz 10,qz 11,qz 12,qz 13,qz 14,qy 15,qz 17,qz 18,(16,2,[]),qz 19,qz 20] ?_
    refine zg5 ?_
    refine Ops.call (records_spec wb db w) rfl zp1 rfl rfl rfl (fun v A' hR=>?_)
    obtain ⟨rfl,rfl⟩:=hR
    refine zg11 ?_
    refine Ops.callB (roomw_spec B0 wb db w x k D hD wok) hB rfl zp1 rfl rfl rfl (fun v A' hR=>?_)
    obtain ⟨rfl,rfl⟩:=hR
    refine zg13 ?_
    exact Cd.skip (meet_end (Q:=fun _ _ _=>True) (⟨w,x,k,D⟩:MkS) ⟨hpr0.symm,hD,by show k ≤ k + 17020;omega⟩ ⟨rfl,rfl,rfl,trivial⟩ (fun w h=>h.split))
 obtain ⟨w2,x2,k2,D2⟩:=t
 obtain ⟨e2,hD2,hk2⟩:=ht
 dsimp only at e2 hD2 hk2 ⊢
 have hlg2:LgOk w2 x2 len ∧ (appendF w2 x2 r).2 = 0:=by
  by_cases hwt:wants c.every w x.S.length r
  ·rw [if_pos hwt] at hpr0
   obtain ⟨q1,q2,q3⟩:=hmk3 hwt
   rw [hpr0] at e2
   rw [← e2] at q2 q3
   exact ⟨q2,q3⟩
  ·rw [if_neg hwt] at hpr0
   have q3:=hmk4 hwt
   rw [hpr0] at e2
   injection e2 with e3 e4
   subst e3
   subst e4
   exact ⟨lg,q3⟩
 rw [← e2]
 obtain ⟨lg2,hap⟩:=hlg2
 have wok2:WlOk w2 x2.S.length:=by rw [lg2.cm.len];exact lg2.wo
 clear hmk1 hmk2 hmk3 hmk4 hpr0 hpre e2
 dsimp only
 refine zg1 ?_
 refine zqB (append_spec B0 wb db w2 x2 k2 D2 hD2 r wok2 (by omega) (by omega)) hB fun v A' hR=>?_
 obtain ⟨rfl,D1,rfl,hD1⟩:=hR
 rw [hap]
 refine zg7 ?_
 refine zqB (apply_spec B0 sb s SD hS ok a cp l hC (by omega) (fun g hg hck=>step_all B0 g.c (hC.x g hg) hck)) hB fun v A' hR=>?_
 obtain ⟨rfl,hS1⟩:=hR
 rename List Blk=>SD1
 refine zg1 ?_
 refine Ops.appS (rows:=tl.map Cg.row) (news:=l.map Cg.row) hT ((by simpa using (hC.ext hB).r.reads (cgs_ok l) (by decide) cp _):Reads _ _ _ 10 (.slice a l.length cp) _) (by simp only [List.length_map];omega) (by simp only [List.length_map];omega) rfl rfl rfl rfl rfl (noPd rfl) rfl (fun v G' hG'=>?_)
 rw [← List.map_append] at hG'
 have hG2:OwnC v (tl ++ l) G':=hG'
 obtain ⟨ta1,tc1,rfl⟩:=hG2.form
 refine zg1 ?_
 exact Ops.nilN (end0 (A':=CoB xb lb tb cb mb db wb sb c (.slice ta1 (tl ++ l).length tc1) dead :: WlB wb db (appendF w2 x2 r).1.1 :: (SD1 ++ (D1 ++ G'))) rfl (fun _ h=>h.split) ⟨SD1,D1,_,G',_,rfl,hS1,hD1,by omega,hG2⟩)
def placeF (s:StP) (badge:Int):Option (Rw × ByteArray × List ByteArray):=(lastAt s.rows badge).bind fun i=>(viewL s)[i]?
@[reducible] def pl0:Pl:=⟨Rw.zero,⟨#[]⟩,⟨none,0,[],[]⟩⟩
def PlR (s:StP) (badge:Int) (p:Pl):Prop:=p.pure = (placeF s badge).getD (Rw.zero,⟨#[]⟩,[]) ∧ RsT (.slice p.l.a p.l.txs.length p.l.c) p.l.txs p.l.G
theorem sfind_spec (B0:Base) (sb:Nat) (s:StP) (hS:StIn B0 sb s) (ok:StOk s) (badge:Int) :
  ConB prog B0 219 #[ptr sb,.int .i64 badge] [] fun v A=>∃ p:Pl,v = .tuple #[.agg p.row.toArray,.bool (placeF s badge).isSome] ∧ A = p.l.G ∧ PlR s badge p:=by
 have hS0:=hS
 obtain ⟨qb,ra,rc,pa,pc,la,lc,ls,h1,h2,h3,h4,h5,h6⟩:=hS
 obtain ⟨o1,o2,o3,o4,o5,o6,o7⟩:=id ok
 have hq2:Holds B0 [QuB qb s.att (.slice ra s.rows.length rc)]:=h1.sub fun p hp=>List.mem_cons_of_mem _ hp
 refine zqJ (vs:=[_,_]) func219 ntmps219 fun B hB=>?_
 have hQ:=hB.holds h1
 have hc0:∀ A,Rd B.plain A sb 0 (ptr qb):=hQ.cell (List.mem_cons_self ..) rfl
 repeat' (first|refine zs0 ?_|refine Ops.alloc rfl rfl rfl (noPd rfl) (fun b=>?_))
 rename Nat=>zb
 refine Ops.ldR rfl rfl rfl (hc0 _) rfl ?_
 refine zg0 ?_
 refine zqB (qfind_spec B0 qb s.att ra rc s.rows badge o3 hq2 h2) hB fun v A' hR=>?_
 cases hla:lastAt s.rows badge with
 | none =>
  have hf:findF18 s.rows badge = none:=by unfold findF18;rw [hla];rfl
  have hpf:placeF s badge = none:=by unfold placeF;rw [hla];rfl
  rw [hf] at hR
  dsimp only [Option.getD_none,Option.isSome_none] at hR
  obtain ⟨rfl,rfl⟩:=hR
  rw [hpf]
  dsimp only [Option.isSome_none]
  repeat' (first|refine zs2 ?_|refine Ops.alloc rfl rfl rfl (noPd rfl) (fun b=>?_))
  exact Cd.ret (ret2 (A':=[]) rfl (Res.cellN rfl) (Res.tmp rfl) (fun _ h=>h.split) ⟨pl0,rfl,rfl,by rw [hpf];rfl,RsT.none⟩)
 | some i =>
  have hi:=lastAt_lt hla
  obtain ⟨r,hr⟩:∃ r,s.rows[i]? = some r:=⟨_,List.getElem?_eq_getElem hi⟩
  obtain ⟨p,hp⟩:∃ p,s.progs[i]? = some p:=⟨_,List.getElem?_eq_getElem (by omega)⟩
  obtain ⟨t,ht⟩:∃ t,s.logs[i]? = some t:=⟨_,List.getElem?_eq_getElem (by omega)⟩
  have hf:findF18 s.rows badge = some r:=by unfold findF18;rw [hla];exact hr
  have hpf:placeF s badge = some (r,p,t):=by
   unfold placeF;rw [hla]
   simp [viewL,List.getElem?_zip_eq_some,hr,hp,ht]
  rw [hf] at hR
  dsimp only [Option.getD_some,Option.isSome_some] at hR
  obtain ⟨rfl,rfl⟩:=hR
  rw [hpf]
  dsimp only [Option.isSome_some]
  repeat' (first|refine zs2 ?_|refine Ops.alloc rfl rfl rfl (noPd rfl) (fun b=>?_))
  refine zqB (place_spec B0 sb s hS0 ok i r p t hr hp ht) hB fun v A' hR=>?_
  obtain ⟨x,rfl,rfl,hx,hrs⟩:=hR
  refine zg1 ?_
  exact Cd.ret (ret2 (A':=x.G) rfl (Res.cellN rfl) (Res.tmp rfl) (fun _ h=>h.split) ⟨⟨r,p,x⟩,rfl,rfl,by rw [hpf,Option.getD_some,Pl.pure,hx],hrs⟩)
theorem sfind_own (B0:Base) (sb:Nat) (s:StP) (SD:List Blk) (hD:StA sb s SD) (ok:StOk s) (badge:Int) :
  ConB prog B0 219 #[ptr sb,.int .i64 badge] SD fun v A=>∃ p:Pl,v = .tuple #[.agg p.row.toArray,.bool (placeF s badge).isSome] ∧ A = p.l.G ++ SD ∧ PlR s badge p :=
 (ConB.lend (A1:=[]) fun B1 e hG=>sfind_spec B1 sb s (hD.in_ hG) ok badge).mono fun v A hR=>by
  obtain ⟨A',⟨p,rfl,rfl,hp⟩,rfl⟩:=hR
  exact ⟨p,rfl,rfl,hp⟩
def heldF (s:StP) (badge node life:Int):Bool:=match placeF s badge with
 | none=>false
 | some (r,_,_)=>decide (r.status = 2) && (decide (r.node = node) && decide (r.life = life))
theorem chheld_spec (B0:Base) (xb lb tb cb mb db wb sb:Nat) (c:Cf) (tv:Value) (dead:Bool) (node life:Int) (m:Ms) (s:StP) (SD:List Blk) (hD:StA sb s SD) (ok:StOk s) :
  ConB prog B0 149 #[.agg (heV xb node life m).toArray] (CoB xb lb tb cb mb db wb sb c tv dead :: SD) fun v A=>∃ p:Pl,v = .tuple #[.agg p.row.toArray,.bool (heldF s m.badge node life)] ∧ A = CoB xb lb tb cb mb db wb sb c tv dead :: (p.l.G ++ SD) ∧ PlR s m.badge p:=by
 refine zqJ (vs:=[_]) func149 ntmps149 fun B hB=>?_
 generalize hc1:Code.seq (Code.region 1 _ _) _ = c1
 repeat' (first|refine zs0 ?_|refine Ops.box rfl rfl rfl rfl (noPd rfl) (fun b=>?_)|refine Ops.alloc rfl rfl rfl (noPd rfl) (fun b=>?_))
 rename_i hb
 rename Nat=>zb
 subst hc1
 refine Cd.cut (σ:=Nat × Pl) (fun t=>PlR s m.badge t.2) (fun t=>[(1,ptr hb),(2,ptr zb),(3,.bool false),(4,ptr t.1),(5,.bool (placeF s m.badge).isSome)]) (fun t=>(t.1,cl t.2.row 64) :: (zb,cl pl0.row 64) :: (hb,cl (heV xb node life m) 110) :: CoB xb lb tb cb mb db wb sb c tv dead :: (t.2.l.G ++ SD)) ?_ (fun t ht=>?_)
 ·refine zdr [qz 0,qy 1,qz 2,qz 3,qy 4,qz 5,qz 6,qy 7,(8,4,[]),qz 9,qz 10,qz 11,(12,2,[]),(13,2,[]),qz 14] ?_
  refine zg5 ?_
  refine Ops.fork' [(0,0,[]),(1,1,[]),(2,0,[]),(3,0,[]),(4,1,[]),(5,0,[]),(6,0,[]),(7,1,[]),(12,4,[1,4,7]),(8,2,[]),(9,0,[]),(10,0,[]),(11,0,[]),(13,2,[]),(14,0,[])] (by kernel_rfl) rfl (by simp only [picked,nth];exact rfl) ?_ ?_
  ·skip
   refine zqB (sfind_own B0 sb s SD hD ok m.badge) hB fun v A' hR=>?_
   obtain ⟨p,rfl,rfl,hp⟩:=hR
   repeat' (first|refine zs6 ?_|refine Ops.alloc rfl rfl rfl zp3 (fun b=>?_))
   rename Nat=>pb
   exact ze72
  ·repeat' (first|refine Ops.alloc rfl rfl rfl zp3 (fun b=>?_))
   rename Nat=>pb
   refine zqB (sfind_own B0 sb s SD hD ok m.badge) hB fun v A' hR=>?_
   obtain ⟨p,rfl,rfl,hp⟩:=hR
   refine zg19 ?_
   exact ze72
 obtain ⟨pb,p⟩:=t
 dsimp only at ht ⊢
 have hpp:=ht.1
 cases hpf:placeF s m.badge with
 | none =>
  rw [show heldF s m.badge node life = false from by unfold heldF;rw [hpf]]
  dsimp only [Option.isSome_none]
  refine zg0 ?_
  refine zdr [qy 0,qz 1,qz 2,qz 3,qz 4,qy 5,qz 6,qz 7,qz 8,qz 9,qz 10,qy 11,qz 12,qy 13,qz 14,qz 15,(16,2,[11,13]),qz 17] ?_
  refine zg12 ?_
  exact ze73
 | some z =>
  obtain ⟨r,pg,tx⟩:=z
  rw [hpf,Option.getD_some,Pl.pure] at hpp
  injection hpp with e1 _
  have hh:heldF s m.badge node life = (decide (p.r.status = 2) && (decide (p.r.node = node) && decide (p.r.life = life))):=by unfold heldF;rw [hpf,e1]
  rw [hh]
  dsimp only [Option.isSome_some]
  by_cases h2:p.r.status = 2
  ·rw [decide_eq_true h2,Bool.true_and]
   refine zg0 ?_
   refine zdr [qy 0,qz 1,qz 2,qz 3,qz 4,qy 5,qz 6,qz 7,qz 8,qz 9,qz 10,qy 11,qz 12,qy 13,qz 14,qz 15,(16,2,[11,13]),qz 17] ?_
   refine zg14 ?_
   exact Cd.ret (ret2 (A':=CoB xb lb tb cb mb db wb sb c tv dead :: (p.l.G ++ SD)) rfl (Res.cellN rfl) (Res.tmp rfl) (fun _ h=>h.split) ⟨p,by rw [Bool.and_true],rfl,ht⟩)
  ·rw [decide_eq_false h2,Bool.false_and]
   refine zg0 ?_
   refine zdr [qy 0,qz 1,qz 2,qz 3,qz 4,qy 5,qz 6,qz 7,qz 8,qz 9,qz 10,qy 11,qz 12,qy 13,qz 14,qz 15,(16,2,[11,13]),qz 17] ?_
   refine zg12 ?_
   exact ze73
end Go.Proofs.YtkoelgkghijgiaaGreat
namespace Go.Proofs.YtkoelgkghijgiaaGreat.Sw
open Go Go.Sep Go.Proofs Go.Proofs.Tryz
set_option maxRecDepth 10000
set_option maxHeartbeats 2000000
set_option synthInstance.maxSize 2000
theorem mclone_spec (b:Nat) (es:List ME) (ck:Nat):Con prog 221 #[.map (some b)] [(b,mpo es ck)] fun v A=>∃ b',v = .map (some b') ∧ A = [(b,mpo es ck),(b',mpo es ck)]:=by
 refine zqI (vs:=[_]) func221 ntmps221 fun B=>?_
 refine zg7 ?_
 refine Ops.cloneM rfl rfl rfl rfl (noPd rfl) (fun b'=>?_)
 refine zg3 ?_
 exact Cd.ret (ret1 rfl (Res.tmp rfl) (fun w h=>h.split) ⟨b',rfl,rfl⟩)
@[reducible] def ptr (n:Nat):Value:=.pointer (some ⟨n,0,none⟩)
def hv (hb:List Bool) (tx:List ByteArray) (i:Int):Option Value:=if 0 ≤ i ∧ hb[i.toNat]? = some true then (tx[i.toNat]?).map Value.string else none
def MapIs (es:List ME) (hb:List Bool) (tx:List ByteArray):Prop:=∀ i,mget es i = hv hb tx i
theorem hv_put {hb:List Bool} {tx:List ByteArray} {k:Nat} {t:ByteArray} (h1:k < hb.length) (h2:k < tx.length) (i:Int):hv (hb.set k true) (tx.set k t) i = if i = (k:Int) then some (.string t) else hv hb tx i:=by
 unfold hv
 by_cases hi:i = (k:Int)
 ·subst hi
  simp [h1,h2]
 ·by_cases h0:0 ≤ i
  ·have hne:k ≠ i.toNat:=by omega
   simp only [if_neg hi,List.getElem?_set_ne hne]
  ·simp [h0,hi]
theorem hv_clear {hb:List Bool} {tx:List ByteArray} {k:Nat} (h1:k < hb.length) (i:Int):hv (hb.set k false) tx i = if i = (k:Int) then none else hv hb tx i:=by
 unfold hv
 by_cases hi:i = (k:Int)
 ·subst hi
  simp [h1]
 ·by_cases h0:0 ≤ i
  ·have hne:k ≠ i.toNat:=by omega
   simp only [if_neg hi,List.getElem?_set_ne hne]
  ·simp [h0,hi]
theorem MapIs.put {es:List ME} {ck:Nat} {hb:List Bool} {tx:List ByteArray} (h:MapIs es hb tx) (hok:MOk es ck) {k:Nat} {t:ByteArray} (h1:k < hb.length) (h2:k < tx.length):MapIs (mput es ck k (.string t)) (hb.set k true) (tx.set k t):=fun i=>by
 rw [mget_put hok,hv_put h1 h2,h i]
theorem MapIs.clear {es:List ME} {ck:Nat} {hb:List Bool} {tx:List ByteArray} (h:MapIs es hb tx) (hok:MOk es ck) {k:Nat} (h1:k < hb.length):MapIs (mdel es k) (hb.set k false) tx:=fun i=>by
 rw [mget_del hok,hv_clear h1,h i]
theorem hv_yes {hb:List Bool} {tx:List ByteArray} {k:Nat} {t:ByteArray} (h:hb[k]? = some true) (ht:tx[k]? = some t):hv hb tx k = some (.string t):=by simp [hv,h,ht]
theorem hv_no {hb:List Bool} {tx:List ByteArray} {k:Nat} (h:hb[k]? ≠ some true):hv hb tx k = none:=by simp [hv,h]
def drain (tx:List ByteArray):Nat → Nat → List Bool → List ByteArray × Nat × List Bool
 | 0,nx,hb=>([],nx,hb)
 | f + 1,nx,hb=>if hb[nx]? = some true then ((tx[nx]?).getD ⟨#[]⟩ :: (drain tx f (nx + 1) (hb.set nx false)).1,(drain tx f (nx + 1) (hb.set nx false)).2) else ([],nx,hb)
def drained (tx:List ByteArray) (nx:Nat) (hb:List Bool):=drain tx (33 - nx) nx hb
theorem drained_stop {tx:List ByteArray} {nx:Nat} {hb:List Bool} (h:hb[nx]? ≠ some true):drained tx nx hb = ([],nx,hb):=by
 unfold drained
 cases 33 - nx with
 | zero=>rfl
 | succ f=>simp [drain,h]
theorem drained_go {tx:List ByteArray} {nx:Nat} {hb:List Bool} {t:ByteArray} (hnx:nx < 32) (h:hb[nx]? = some true) (ht:tx[nx]? = some t):drained tx nx hb = (t :: (drained tx (nx + 1) (hb.set nx false)).1,(drained tx (nx + 1) (hb.set nx false)).2):=by
 unfold drained
 rw [show 33 - nx = (33 - (nx + 1)) + 1 from by omega]
 simp [drain,h,ht]
@[reducible] def WB (n b win nx:Nat) (es:List ME) (ck:Nat):List Blk:=[(n,cl [.int .i64 win,.int .i64 nx,.map (some b)] 305),(b,mpo es ck)]
@[reducible] def trow (t:ByteArray):List Value:=[.string t]
theorem trows_ok (ts:List ByteArray):RowsOk 1 (ts.map trow):=rows_map (f:=trow) (fun _=>⟨rfl,rfl⟩) ts
def OwnT (sv:Value) (ts:List ByteArray) (G:List Blk):Prop:=Own 9 1 sv (ts.map trow) G
theorem new_yes (win hv0:Nat) (h1:1 ≤ win) (h2:win ≤ 8) (h3:hv0 ≤ 32):Con prog 193 #[.int .i64 win,.int .i64 hv0] [] fun v A=>∃ n m,v = .tuple #[ptr n,.int .i64 0] ∧ A = WB n m win hv0 [] 0:=by
 refine zqI (vs:=[_,_]) func193 ntmps193 fun B=>?_
 repeat' (first|refine Ops.mkM rfl rfl rfl (noPd rfl) (fun b=>?_)|refine Cd.seq ?_|refine Cd.reg ?_|refine Ops.nil ?_|refine Ops.mv rfl rfl rfl rfl ?_|refine Ops.asg rfl rfl rfl rfl ?_|refine Ops.bin rfl rfl rfl rfl rfl ?_|refine Ops.pickF rfl rfl rfl rfl rfl ?_|refine Ops.bld rfl rfl rfl rfl ?_|refine Ops.box rfl rfl rfl rfl (noPd rfl) (fun b=>?_)|refine Cd.skip (Cd.next ?_)|refine Cd.condF rfl zp0 ?_|((fail_if_success refine Ops.probe rfl ?_);refine Ops.gF rfl rfl zp0 ?_))
 exact ze84
theorem clone_spec (n mb win nx:Nat) (es:List ME) (ck:Nat):Con prog 153 #[ptr n] (WB n mb win nx es ck) fun v A=>∃ n' b',v = ptr n' ∧ A = WB n mb win nx es ck ++ WB n' b' win nx es ck:=by
 refine zqI (vs:=[_]) func153 ntmps153 fun B=>?_
 refine zg0 ?_
 refine zdr [qz 0,qz 1,qz 2,qy 3,qz 4,qz 5,qz 6,qy 7,qz 8,qz 9,qz 10,qy 11,(12,2,[3,7]),qz 13,(14,2,[]),qz 15] ?_
 refine zg5 ?_
 refine Ops.call (mclone_spec mb es ck) rfl zp1 rfl rfl rfl (fun v A' hR=>?_)
 obtain ⟨b',rfl,rfl⟩:=hR
 repeat' (first|refine zs0 ?_|refine Ops.box rfl rfl rfl rfl (noPd rfl) (fun b=>?_))
 rename Nat=>nb
 exact Cd.ret (ret1 rfl (Res.tmp rfl) (fun _ h=>(h.split:Sat _ ((n,cl [.int .i64 win,.int .i64 nx,.map (some mb)] 305) :: (mb,mpo es ck) :: (nb,cl [.int .i64 win,.int .i64 nx,.map (some b')] 305) :: [(b',mpo es ck)]) _)) ⟨nb,b',rfl,rfl⟩)
theorem take_long (n mb win nx:Nat) (es:List ME) (ck:Nat) (i:Int) (t:ByteArray) (h:32 < t.size) :
  Con prog 154 #[ptr n,.int .i64 i,.string t] (WB n mb win nx es ck) fun v A=>v = .tuple #[.slice none 0 0,.int .i64 152] ∧ A = WB n mb win nx es ck:=by
 have h':(32:Int) < t.size:=by omega
 refine zqI (vs:=[_,_,_]) func154 ntmps154 fun B=>?_
 refine zg2 ?_
 exact ze88
theorem take_out (n mb win nx:Nat) (es:List ME) (ck:Nat) (i:Int) (t:ByteArray) (h:t.size ≤ 32) (hn:nx ≤ 32) (hw:win ≤ 8) (ho:i < nx ∨ (nx:Int) + win ≤ i ∨ 32 ≤ i) (hi:i ≤ 9223372036854775807) :
  Con prog 154 #[ptr n,.int .i64 i,.string t] (WB n mb win nx es ck) fun v A=>v = .tuple #[.slice none 0 0,.int .i64 151] ∧ A = WB n mb win nx es ck:=by
 have h':¬ (32:Int) < t.size:=by omega
 refine zqI (vs:=[_,_,_]) func154 ntmps154 fun B=>?_
 by_cases h1:i < nx
 ·refine zg2 ?_
  refine zdr [qz 0,qz 1,qz 2,qz 3,qy 4,qz 5,qz 6,qz 7,qz 8,qz 9,qz 10,qy 11,qz 12,qz 13,qz 14,qz 15,qy 16,qz 17,qz 18,qz 19,qz 20,qz 21,qz 22,qz 23] ?_
  refine zg18 ?_
  exact ze88
 ·by_cases h2:(win:Int) ≤ i - nx
  ·refine zg2 ?_
   refine zdr [qz 0,qz 1,qz 2,qz 3,qy 4,qz 5,qz 6,qz 7,qz 8,qz 9,qz 10,qy 11,qz 12,qz 13,qz 14,qz 15,qy 16,qz 17,qz 18,qz 19,qz 20,qz 21,qz 22,qz 23] ?_
   refine zg10 ?_
   exact ze88
  ·have h3:32 ≤ i:=by omega
   refine zg2 ?_
   refine zdr [qz 0,qz 1,qz 2,qz 3,qy 4,qz 5,qz 6,qz 7,qz 8,qz 9,qz 10,qy 11,qz 12,qz 13,qz 14,qz 15,qy 16,qz 17,qz 18,qz 19,qz 20,qz 21,qz 22,qz 23] ?_
   refine zg10 ?_
   exact ze88
structure TK where
 out:List ByteArray
 nx:Nat
 hb:List Bool
 es:List ME
 sv:Value
 G:List Blk
theorem take_ok (n mb win nx:Nat) (es:List ME) (ck:Nat) (k:Nat) (t:ByteArray) (hb:List Bool) (tx:List ByteArray) (h:t.size ≤ 32) (hn:nx ≤ 32) (hw:win ≤ 8) (h1:nx ≤ k) (h2:k < nx + win) (h3:k < 32) (hok:MOk es ck) (hm:MapIs es hb tx) (hbl:hb.length = 32) (htl:tx.length = 32)
  (hb':List Bool) (tx':List ByteArray) (e1:hb' = hb.set k true) (e2:tx' = if hb[k]? = some true then tx else tx.set k t) :
  Con prog 154 #[ptr n,.int .i64 k,.string t] (WB n mb win nx es ck) fun v A=>∃ sv G es' ck',v = .tuple #[sv,.int .i64 0] ∧ OwnT sv (drained tx' nx hb').1 G ∧ A = WB n mb win (drained tx' nx hb').2.1 es' ck' ++ G ∧ MOk es' ck' ∧ MapIs es' (drained tx' nx hb').2.2 tx':=by
 have h':¬ (32:Int) < t.size:=by omega
 have g1:¬ (k:Int) < nx:=by omega
 have g2:¬ (win:Int) ≤ (k:Int) - nx:=by omega
 have g3:¬ (32:Int) ≤ k:=by omega
 refine zqI (vs:=[_,_,_]) func154 ntmps154 fun B=>?_
 generalize hc5:Code.seq (Code.seq (Code.region 5 _ _) _) _ = c5
 refine zg2 ?_
 refine zdr [qz 0,qz 1,qz 2,qz 3,qy 4,qz 5,qz 6,qz 7,qz 8,qz 9,qz 10,qy 11,qz 12,qz 13,qz 14,qz 15,qy 16,qz 17,qz 18,qz 19,qz 20,qz 21,qz 22,qz 23] ?_
 refine zg10 ?_
 subst hc5
 refine Cd.cut (σ:=List ME × Nat) (fun s=>MOk s.1 s.2 ∧ MapIs s.1 hb' tx') (fun _=>[(0,ptr n)]) (fun s=>WB n mb win nx s.1 s.2) ?_ (fun s hs=>?_)
 ·repeat' (first|refine zs6 ?_|(refine Cd.cond rfl (fun hc=>?_) (fun hc=>?_) <;> (try simp only [decide_eq_true_eq,decide_eq_false_iff_not,Bool.not_eq_true',Bool.not_eq_false',Bool.not_eq_eq_eq_not,Bool.not_true,Bool.not_false,Int.not_lt,Int.not_le] at hc)))
  ·have hno:hb[k]? ≠ some true:=fun hy=>by
    obtain ⟨x,hx⟩:∃ x,tx[k]? = some x:=⟨_,List.getElem?_eq_getElem (by omega)⟩
    rw [hm,hv_yes hy hx] at hc
    cases hc
   rw [if_neg hno] at e2
   subst e1;subst e2
   exact Ops.nilN (meet_end (Q:=fun _ _ _=>True) (mput es ck k (.string t),mck es ck k) ⟨hok.put _ _,hm.put hok (by omega) (by omega)⟩ ⟨rfl,trivial⟩ (fun w h=>h))
  ·have hyes:hb[k]? = some true:=Classical.byContradiction fun hn=>by
    rw [hm,hv_no hn] at hc
    cases hc
   rw [if_pos hyes] at e2
   have:hb.set k true = hb:=by
    apply List.ext_getElem?
    intro q
    by_cases hq:k = q
    ·subst hq;rw [List.getElem?_set_self (by omega),hyes]
    ·rw [List.getElem?_set_ne hq]
   rw [this] at e1
   subst e1;subst e2
   exact Cd.skip (meet_end (Q:=fun _ _ _=>True) (es,ck) ⟨hok,hm⟩ ⟨rfl,trivial⟩ (fun w h=>h))
 have hbl':hb'.length = 32:=by rw [e1,List.length_set,hbl]
 have htl':tx'.length = 32:=by rw [e2];split <;> simp [htl]
 clear e1 e2 hm hok
 obtain ⟨es1,ck1⟩:=s
 obtain ⟨hok,hm⟩:=hs
 dsimp only at hok hm ⊢
 refine zg1 ?_
 refine Cd.loopK (σ:=TK × Nat) (fun s=>s.1.nx ≤ 32 ∧ s.1.hb.length = 32 ∧ MOk s.1.es s.2 ∧ MapIs s.1.es s.1.hb tx' ∧ OwnT s.1.sv s.1.out s.1.G ∧ s.1.out.length + nx = s.1.nx ∧ drained tx' nx hb' = (s.1.out ++ (drained tx' s.1.nx s.1.hb).1,(drained tx' s.1.nx s.1.hb).2)) (fun s=>[(0,ptr n),(10,s.1.sv)])
  (fun s=>WB n mb win s.1.nx s.1.es s.2 ++ s.1.G) (fun s=>33 - s.1.nx) (⟨[],nx,hb',es1,.slice none 0 0,[]⟩,ck1) ⟨hn,hbl',hok,hm,Own.none,by simp,by simp⟩ ⟨rfl,rfl,trivial⟩ (fun w h=>h) (fun s hI=>?_)
 obtain ⟨⟨out,nx1,hb1,es2,sv,G⟩,ck2⟩:=s
 obtain ⟨hnx,hbl1,hok1,hm1,hO,hol,hdr⟩:=hI
 dsimp only at hnx hbl1 hok1 hm1 hO hol hdr ⊢
 obtain ⟨sa,sc,rfl⟩:=hO.form
 by_cases hh:hb1[nx1]? = some true
 ·have hlt:nx1 < 32:=by have:=(List.getElem?_eq_some_iff.1 hh).1;omega
  obtain ⟨x,hx⟩:∃ x,tx'[nx1]? = some x:=⟨_,List.getElem?_eq_getElem (by omega)⟩
  have hg:mget es2 nx1 = some (.string x):=by rw [hm1,hv_yes hh hx]
  have hs:(!(mget es2 (nx1:Int)).isSome) = false:=by rw [hg];rfl
  refine zg1 ?_
  refine zdr [qz 0,qz 1,qz 2,qy 3,qz 4,qz 5,qz 6,qy 7,qy 8,qz 9,qz 10,qz 11,qz 12,qz 13] ?_
  refine zg8 ?_
  refine zdr [qz 0,qz 1,qz 2,qy 3,qz 4,qz 5,qz 6,qy 7,(8,2,[])] ?_
  refine zg1 ?_
  simp only [hg,Option.getD_some]
  repeat' (first|refine Ops.bs1 rfl rfl rfl rfl rfl rfl rfl (noPd rfl) (fun b=>?_))
  refine Ops.app1 (rows:=out.map trow) hO (by rw [List.length_map];omega) (by rw [List.length_map];omega) rfl rfl rfl rfl (by rfl) (by rfl) rfl (noPd rfl) rfl (fun v G' hG'=>?_)
  obtain ⟨a',c',rfl⟩:=hG'.form
  refine zg9 ?_
  have hO':OwnT (.slice a' (out.map trow ++ [trow x]).length c') (out ++ [x]) G':=by unfold OwnT;rw [List.map_append];exact hG'
  exact Ops.nilN (inB (round_end ((⟨out ++ [x],nx1 + 1,hb1.set nx1 false,mdel es2 nx1,_,G'⟩,ck2):TK × Nat) ⟨by show nx1 + 1 ≤ 32;omega,by show (hb1.set nx1 false).length = 32;rw [List.length_set,hbl1],hok1.del _,hm1.clear hok1 (by omega),hO',by show (out ++ [x]).length + nx = nx1 + 1;simp;omega,by show drained tx' nx hb' = _;rw [hdr,drained_go hlt hh hx];simp⟩ (by show 33 - (nx1 + 1) < 33 - nx1;omega) ⟨rfl,rfl,trivial⟩
   (fun w h=>(h.split:Sat _ ((n,cl [.int .i64 win,.int .i64 (nx1 + 1),.map (some mb)] 305) :: (mb,mpo (mdel es2 nx1) ck2) :: G') w))))
 ·have hg:mget es2 nx1 = none:=by rw [hm1,hv_no hh]
  have hs:(!(mget es2 (nx1:Int)).isSome) = true:=by rw [hg];rfl
  refine zg1 ?_
  refine zdr [qz 0,qz 1,qz 2,qy 3,qz 4,qz 5,qz 6,qy 7,qy 8,qz 9,qz 10,qz 11,qz 12,qz 13] ?_
  refine zg8 ?_
  rw [drained_stop hh] at hdr
  exact Cd.ret (ret2 rfl (Res.tmp rfl) (Res.tmp rfl) (fun _ h=>h) ⟨_,G,es2,ck2,rfl,by rw [hdr];simpa using hO,by rw [hdr],hok1,by rw [hdr];exact hm1⟩)
structure Sp where
 nx:Nat
 hb:List Bool
 tx:List ByteArray
def takeF (win:Nat) (s:Sp) (i:Int) (t:ByteArray):Int × List ByteArray × Sp :=
 if 32 < t.size then (152,[],s) else if i < s.nx ∨ (s.nx:Int) + win ≤ i ∨ 32 ≤ i then (151,[],s) else
  (0,(drained (if s.hb[i.toNat]? = some true then s.tx else s.tx.set i.toNat t) s.nx (s.hb.set i.toNat true)).1,
   ⟨(drained (if s.hb[i.toNat]? = some true then s.tx else s.tx.set i.toNat t) s.nx (s.hb.set i.toNat true)).2.1,(drained (if s.hb[i.toNat]? = some true then s.tx else s.tx.set i.toNat t) s.nx (s.hb.set i.toNat true)).2.2,if s.hb[i.toNat]? = some true then s.tx else s.tx.set i.toNat t⟩)
structure SpOk (win:Nat) (s:Sp):Prop where
 w0:1 ≤ win
 w1:win ≤ 8
 n:s.nx ≤ 32
 hl:s.hb.length = 32
 tl:s.tx.length = 32
 free:s.hb[s.nx]? ≠ some true
 inw:∀ k,s.hb[k]? = some true → s.nx ≤ k ∧ k < s.nx + win
structure EsOk (s:Sp) (es:List ME) (ck:Nat):Prop where
 ok:MOk es ck
 is_:MapIs es s.hb s.tx
theorem drain_ok (tx:List ByteArray) (W:Nat):∀ (f nx:Nat) (hb:List Bool),33 ≤ nx + f → nx ≤ 32 → hb.length = 32 → (∀ k,hb[k]? = some true → nx ≤ k ∧ k < W) →
  nx ≤ (drain tx f nx hb).2.1 ∧ (drain tx f nx hb).2.1 ≤ 32 ∧ (drain tx f nx hb).2.2.length = 32 ∧ (drain tx f nx hb).2.2[(drain tx f nx hb).2.1]? ≠ some true ∧ (∀ k,(drain tx f nx hb).2.2[k]? = some true → (drain tx f nx hb).2.1 ≤ k ∧ k < W) ∧ (drain tx f nx hb).1.length + nx = (drain tx f nx hb).2.1
 | 0,nx,hb,hf,hn,hl,hw=>by omega
 | f + 1,nx,hb,hf,hn,hl,hw=>by
  unfold drain
  split
  ·rename_i hh
   have hlt:nx < 32:=by have:=(List.getElem?_eq_some_iff.1 hh).1;omega
   have ih:=drain_ok tx W f (nx + 1) (hb.set nx false) (by omega) (by omega) (by rw [List.length_set,hl]) fun k hk=>by
    by_cases e:nx = k
    ·subst e;rw [List.getElem?_set_self (by omega)] at hk;cases hk
    ·rw [List.getElem?_set_ne e] at hk
     have:=hw k hk
     omega
   obtain ⟨a,b,c,d,e,g⟩:=ih
   exact ⟨by show nx ≤ (drain tx f (nx + 1) (hb.set nx false)).2.1;omega,b,c,d,e,by simp only [List.length_cons];show _ = (drain tx f (nx + 1) (hb.set nx false)).2.1;omega⟩
  ·rename_i hh
   exact ⟨Nat.le_refl _,hn,hl,hh,hw,by simp⟩
theorem takeF_ok {win:Nat} {s:Sp} (h:SpOk win s) (i:Int) (t:ByteArray):SpOk win (takeF win s i t).2.2:=by
 unfold takeF
 split
 ·exact h
 ·split
  ·exact h
  ·rename_i h1 h2
   have hb':∀ k,(s.hb.set i.toNat true)[k]? = some true → s.nx ≤ k ∧ k < s.nx + win:=fun k hk=>by
    by_cases e:i.toNat = k
    ·omega
    ·rw [List.getElem?_set_ne e] at hk
     exact h.inw k hk
   obtain ⟨a,b,c,d,e,g⟩:=drain_ok (if s.hb[i.toNat]? = some true then s.tx else s.tx.set i.toNat t) (s.nx + win) (33 - s.nx) s.nx (s.hb.set i.toNat true) (by have:=h.n;omega) h.n (by rw [List.length_set,h.hl]) hb'
   exact ⟨h.w0,h.w1,b,c,by show List.length (if s.hb[i.toNat]? = some true then s.tx else s.tx.set i.toNat t) = 32;split <;> simp [h.tl],d,fun k hk=>by
    have:=e k hk
    show (drain _ (33 - s.nx) s.nx _).2.1 ≤ k ∧ k < (drain _ (33 - s.nx) s.nx _).2.1 + win
    omega⟩
theorem takeF_grow {win:Nat} {s:Sp} (h:SpOk win s) (i:Int) (t:ByteArray):(takeF win s i t).2.1.length + s.nx = (takeF win s i t).2.2.nx:=by
 unfold takeF
 split
 ·simp
 ·split
  ·simp
  ·rename_i h1 h2
   exact (drain_ok (if s.hb[i.toNat]? = some true then s.tx else s.tx.set i.toNat t) (s.nx + win) (33 - s.nx) s.nx (s.hb.set i.toNat true) (by have:=h.n;omega) h.n (by rw [List.length_set,h.hl]) fun k hk=>by
    by_cases e:i.toNat = k
    ·omega
    ·rw [List.getElem?_set_ne e] at hk
     exact h.inw k hk).2.2.2.2.2
theorem take_spec (n mb win:Nat) (s:Sp) (es:List ME) (ck:Nat) (i:Int) (t:ByteArray) (h:SpOk win s) (he:EsOk s es ck) (hi:i ≤ 9223372036854775807) :
  Con prog 154 #[ptr n,.int .i64 i,.string t] (WB n mb win s.nx es ck) fun v A=>∃ sv G es' ck',v = .tuple #[sv,.int .i64 (takeF win s i t).1] ∧ OwnT sv (takeF win s i t).2.1 G ∧ A = WB n mb win (takeF win s i t).2.2.nx es' ck' ++ G ∧ EsOk (takeF win s i t).2.2 es' ck':=by
 unfold takeF
 split
 ·rename_i h1
  exact (take_long n mb win s.nx es ck i t h1).mono fun v A ⟨e1,e2⟩=>⟨_,[],es,ck,e1,Own.none,by rw [e2];rfl,he⟩
 ·split
  ·rename_i h1 h2
   exact (take_out n mb win s.nx es ck i t (by omega) h.n h.w1 h2 hi).mono fun v A ⟨e1,e2⟩=>⟨_,[],es,ck,e1,Own.none,by rw [e2];rfl,he⟩
  ·rename_i h1 h2
   have hk:i = ((i.toNat:Nat):Int):=by omega
   have:=take_ok n mb win s.nx es ck i.toNat t s.hb s.tx (by omega) h.n h.w1 (by omega) (by omega) (by omega) he.ok he.is_ h.hl h.tl _ _ rfl rfl
   rw [← hk] at this
   exact this.mono fun v A ⟨sv,G,es',ck',e1,e2,e3,e4,e5⟩=>⟨sv,G,es',ck',e1,e2,e3,e4,e5⟩
end Go.Proofs.YtkoelgkghijgiaaGreat.Sw
namespace Go.Proofs.YtkoelgkghijgiaaGreat
open Go Go.Sep Go.Proofs Go.Proofs.Tryz
set_option maxRecDepth 10000
set_option maxHeartbeats 40000000
set_option synthInstance.maxSize 2000
theorem draws_old (xb lb tb cb mb db wb sb:Nat) (c:Cf) (hc:CfOk c) (tv:Value) (dead:Bool) (la re b la1 re1:Int) (h0:0 ≤ re) (h1:re ≤ 1099511627776) (h2:0 ≤ la) (hn:nextB c.block la re = ((b,0,0),la1,re1)) :
  Con prog 144 #[ptr xb] [CoB xb lb tb cb mb db wb sb c tv dead,CtB cb c.block la re] fun v A=>v = .tuple #[.int .i64 b,.slice none 0 0,.bool true] ∧ A = [CoB xb lb tb cb mb db wb sb c tv dead,CtB cb c.block la1 re1]:=by
 obtain ⟨_,_,_,_,_,_,⟨g1,g2⟩,_,_⟩:=id hc
 refine zqI (vs:=[_]) func144 ntmps144 fun B=>?_
 refine zg1 ?_
 refine zqA (bnext_spec cb c.block la re g1 g2 h0 h1 h2) fun v A' hR=>?_
 rw [hn] at hR
 obtain ⟨rfl,rfl⟩:=hR
 dsimp only
 refine zg4 ?_
 exact Cd.ret (ret3 (A':=[CoB xb lb tb cb mb db wb sb c tv dead,CtB cb c.block la1 re1]) rfl (Res.tmp rfl) (Res.tmp rfl) (Res.tmp rfl) (fun _ h=>h.split) ⟨rfl,rfl⟩)
theorem loose_spec (xb lb lm tb cb mb db wb sb:Nat) (c:Cf) (tv:Value) (dead:Bool) (ls:List Ls.LE) (les:List ME) (lck:Nat) (hL:Ls.TOk c.lease ls les lck) (mes:List ME) (mck_:Nat) (job badge:Int) :
  Con prog 220 #[ptr xb,.int .i64 job,.int .i64 badge] (CoB xb lb tb cb mb db wb sb c tv dead :: (Ls.TB lb lm c.lease les lck ++ [(mb,mpo mes mck_)])) fun v A=>∃ les1 lck1,A = CoB xb lb tb cb mb db wb sb c tv dead :: (Ls.TB lb lm c.lease les1 lck1 ++ [(mb,mpo (mdel mes job) mck_)]) ∧ Ls.TOk c.lease (Ls.dropF ls badge).2 les1 lck1:=by
 refine zqI (vs:=[_,_,_]) func220 ntmps220 fun B=>?_
 refine zg1 ?_
 refine zqA (Ls.drop_spec lb lm c.lease ls les lck badge hL) fun v A' hR=>?_
 obtain ⟨rfl,les1,lck1,rfl,hL1⟩:=hR
 refine zg1 ?_
 exact Ops.nilN (end0 (A':=CoB xb lb tb cb mb db wb sb c tv dead :: (Ls.TB lb lm c.lease les1 lck1 ++ [(mb,mpo (mdel mes job) mck_)])) rfl (fun _ h=>h.split) ⟨les1,lck1,rfl,hL1⟩)
theorem wnew_int (w:Int) (h1:1 ≤ w) (h2:w ≤ 8) (hv:Nat) (hh:hv ≤ 32):Con prog 193 #[.int .i64 w,.int .i64 hv] [] fun v A=>∃ n m,v = .tuple #[ptr n,.int .i64 0] ∧ A = Sw.WB n m w.toNat hv [] 0:=by
 obtain ⟨n,rfl⟩:=Int.eq_ofNat_of_zero_le (show 0 ≤ w by omega)
 exact Sw.new_yes n hv (by omega) (by omega) hh
theorem hold_spec (xb lb lm tb cb mb db wb sb:Nat) (c:Cf) (hc:CfOk c) (tv:Value) (dead:Bool) (ls:List Ls.LE) (les:List ME) (lck:Nat) (hL:Ls.TOk c.lease ls les lck) (mes:List ME) (mck_:Nat) (r:Rw) (hv:Nat) (hh:hv ≤ 32) :
  Con prog 123 #[ptr xb,.agg c.row.toArray,.agg r.row.toArray,.int .i64 hv] (CoB xb lb tb cb mb db wb sb c tv dead :: (Ls.TB lb lm c.lease les lck ++ [(mb,mpo mes mck_)])) fun v A=>∃ les1 lck1 wn wm,A = CoB xb lb tb cb mb db wb sb c tv dead :: (Ls.TB lb lm c.lease les1 lck1 ++ (Sw.WB wn wm c.window.toNat hv [] 0 ++ [(mb,mpo (mput mes mck_ r.job (ptr wn)) (mck mes mck_ r.job))])) ∧ Ls.TOk c.lease (Ls.grantF c.lease ls r.job r.badge r.node r.life).2 les1 lck1:=by
 obtain ⟨_,_,_,_,⟨w1,w2⟩,_⟩:=id hc
 have hw:c.window = ((c.window.toNat:Nat):Int):=by omega
 refine zqI (vs:=[_,_,_,_]) func123 ntmps123 fun B=>?_
 repeat' (first|refine zs1 ?_|refine Ops.box rfl rfl rfl rfl (noPd rfl) (fun b=>?_))
 rename_i cx
 rename Nat=>rx
 refine zdr [qz 0,qz 1,qz 2,qy 3,qz 4,qy 5,qz 6,qy 7,qz 8,qy 9,(10,2,[])] ?_
 refine zg3 ?_
 refine zqA (Ls.grant_spec lb lm c.lease ls les lck r.job r.badge r.node r.life hL) fun v A' hR=>?_
 obtain ⟨rfl,les1,lck1,rfl,hL1⟩:=hR
 refine zg1 ?_
 refine zqA (wnew_int c.window w1 w2 hv hh) fun v A' hR=>?_
 obtain ⟨wn,wm,rfl,rfl⟩:=hR
 refine zg1 ?_
 refine zdr [qz 0,qz 1,qz 2,qy 3,qz 4,qy 5,qz 6,(7,2,[])] ?_
 refine zg17 ?_
 exact Ops.nilN (end0 (A':=CoB xb lb tb cb mb db wb sb c tv dead :: (Ls.TB lb lm c.lease les1 lck1 ++ (Sw.WB wn wm c.window.toNat hv [] 0 ++ [(mb,mpo (mput mes mck_ r.job (ptr wn)) (mck mes mck_ r.job))]))) rfl (fun _ h=>h.split) ⟨les1,lck1,wn,wm,rfl,hL1⟩)
theorem makes_lent (B0:Base) (xb lb tb cb mb db wb sb:Nat) (c:Cf) (hc:CfOk c) (dead:Bool) (w:Wl) (x:Dk) (len:Nat) (lg:LgOk w x len) (hroom:20480 ≤ roomF len) (hnum:w.h.number + 2 < 1099511627776) (k:Nat) (D:List Blk) (hD:DkA db x k D) (hk:k ≤ 700000000000) (s:StP) (SD:List Blk) (hS:StA sb s SD) (ok:StOk s) (bd:StBd s) (tv:Value) (tl:List Cg) (TG:List Blk) (hT:OwnC tv tl TG) (htl:tl.length ≤ 1000000000)
  (a:Option Addr) (cp:Nat) (l:List Cg) (LB:List Blk) (hC:∀ B1,Ext B0 B1 → Holds B1 LB → CIn B1 a l) (h0:0 < l.length) (hl:l.length ≤ 2000000) (henc:(encodeF (l.map Cg.c)).2 = 0) :
  ConB prog B0 69 #[ptr xb,.slice a l.length cp] (CoB xb lb tb cb mb db wb sb c tv dead :: WlB wb db w :: (SD ++ (D ++ (TG ++ LB))))
   fun v A=>∃ SD1 D1 tv1 TG1 k1,A = CoB xb lb tb cb mb db wb sb c tv1 dead :: WlB wb db (mkW c.every w x (bytesS s) (encodeF (l.map Cg.c)).1).1 :: (SD1 ++ (D1 ++ (TG1 ++ LB))) ∧ StA sb (applyF s (l.map Cg.c)).2 SD1 ∧ DkA db (mkW c.every w x (bytesS s) (encodeF (l.map Cg.c)).1).2 k1 D1 ∧ k1 ≤ k + 20000 ∧ OwnC tv1 (tl ++ l) TG1:=by
 rw [show CoB xb lb tb cb mb db wb sb c tv dead :: WlB wb db w :: (SD ++ (D ++ (TG ++ LB))) = (CoB xb lb tb cb mb db wb sb c tv dead :: WlB wb db w :: (SD ++ (D ++ TG))) ++ LB from by simp only [List.cons_append,List.append_assoc]]
 refine ConB.mono (ConB.lend (R:=fun v A=>∃ SD1 D1 tv1 TG1 k1,A = CoB xb lb tb cb mb db wb sb c tv1 dead :: WlB wb db (mkW c.every w x (bytesS s) (encodeF (l.map Cg.c)).1).1 :: (SD1 ++ (D1 ++ TG1)) ∧ StA sb (applyF s (l.map Cg.c)).2 SD1 ∧ DkA db (mkW c.every w x (bytesS s) (encodeF (l.map Cg.c)).1).2 k1 D1 ∧ k1 ≤ k + 20000 ∧ OwnC tv1 (tl ++ l) TG1) fun B1 e hG=>makes_gen B1 xb lb tb cb mb db wb sb c hc dead w x len lg hroom hnum k D hD hk s SD hS ok bd tv tl TG hT htl a cp l (hC B1 e hG) h0 hl henc) (fun v X hR=>?_)
 obtain ⟨A,⟨SD1,D1,tv1,TG1,k1,rfl,q1,q2,q3,q4⟩,rfl⟩:=hR
 exact ⟨SD1,D1,tv1,TG1,k1,by simp only [List.cons_append,List.append_assoc],q1,q2,q3,q4⟩
structure Bare (g:Cg):Prop where
 a:g.a = none
 t:g.c.txs = []
 x:0 ≤ g.c.rbits ∧ g.c.rbits < 18446744073709551616
theorem OwnC.cin {a:Option Addr} {n cp:Nat} {l:List Cg} {LG:List Blk} (h:OwnC (.slice a n cp) l LG) (hb:∀ g ∈ l,Bare g) {B:Base} (hG:Holds B LG):CIn B a l :=
 ⟨Own.rin h hG,fun g hg=>(by rw [(hb g hg).a,(hb g hg).t];exact SIn.nil),fun g hg=>(by rw [(hb g hg).t];exact Nat.zero_le _),fun g hg=>(hb g hg).x⟩
@[reducible] def expC (x:Ls.LE):Ch:=⟨5,0,0,x.badge,0,0,0,0,⟨#[]⟩,[]⟩
def expL (l:List Ls.LE):List Cg:=l.map fun x=>⟨expC x,none,0⟩
theorem expL_bare (l:List Ls.LE):∀ g ∈ expL l,Bare g:=fun g hg=>by
 obtain ⟨x,_,rfl⟩:=List.mem_map.1 hg
 exact ⟨rfl,rfl,by show (0:Int) ≤ 0 ∧ (0:Int) < _;omega⟩
theorem exp_check {x:Ls.LE} (h:1 ≤ x.badge ∧ x.badge ≤ 1099511627776):checkF (expC x) = 0:=by
 unfold checkF
 rw [if_neg (by show ¬ ¬ (1 ≤ (5:Int) ∧ (5:Int) ≤ 6);omega),if_pos]
 have e4:rg4 (expC x) = true:=by
  show rgt true _ (decide (1 ≤ x.badge ∧ x.badge ≤ 1099511627776)) = true
  rw [decide_eq_true h];rfl
 rw [show rg1 (expC x) = true from rfl,show rg2 (expC x) = true from rfl,show rg3 (expC x) = true from rfl,e4,show rg5 (expC x) = true from rfl,show rg6 (expC x) = true from rfl,show rg7 (expC x) = true from rfl]
 rfl
theorem enc_fine {l:List Ch} (h1:1 ≤ l.length) (h2:l.length ≤ 16) (hck:∀ c ∈ l,checkF c = 0) (hsz:(encN l l.length).size ≤ 2048):(encodeF l).2 = 0:=by
 unfold encodeF
 rw [if_neg (by omega)]
 have:(l.find? fun c=>decide (checkF c ≠ 0)) = none:=by
  rw [List.find?_eq_none]
  intro c hc
  simp [hck c hc]
 rw [this]
 dsimp only
 rw [if_neg (by omega)]
theorem encN_le {l:List Ch} {m:Nat} (h:∀ c ∈ l,(putB c).size ≤ m) (hl:l.length < 128):∀ i,(encN l i).size ≤ 1 + i * m
 | 0=>by rw [encN];have:=numB_le (k:=0) (n:=l.length) (by omega);omega
 | i + 1=>by
  have h1:=encN_le h hl i
  rw [encN,ByteArray.size_append,Nat.succ_mul]
  cases hg:l[i]? with
  | none=>dsimp only;rw [show (ByteArray.empty).size = 0 from rfl];omega
  | some c=>have:=h c (List.mem_of_getElem? hg);dsimp only;omega
end Go.Proofs.YtkoelgkghijgiaaGreat
