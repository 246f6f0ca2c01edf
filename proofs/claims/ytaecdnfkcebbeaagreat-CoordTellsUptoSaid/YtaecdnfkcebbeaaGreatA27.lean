import Derived.Test.YtaecdnfkcebbeaaGreatA01
import Derived.Test.YtaecdnfkcebbeaaGreatA26
set_option linter.unusedVariables false
set_option linter.unusedSimpArgs false
namespace Go.Proofs.YtaecdnfkcebbeaaGreat
open Go Go.Sep Go.Proofs
set_option maxRecDepth 10000
set_option maxHeartbeats 40000000
set_option synthInstance.maxSize 2000
theorem grant1_spec (xb:Nat) (badge:Int) (r:Rw):Con Tryz.prog 185 ([Value.agg r.row.toArray] ++ [ptr xb]).toArray [(xb,cl [.int .i64 badge] 3)] fun v A=>v = .bool (decide (badge ≤ r.badge)) ∧ A = [(xb,cl [.int .i64 badge] 3)]:=by
 refine Con.intro (vs:=[_,_]) Tryz.func185 rfl Tryz.ntmps185 rfl (fun B=>?_)
 repeat' (first|refine Cd.seq ?_|refine Cd.reg ?_|refine Ops.nil ?_|refine Ops.asg rfl rfl rfl rfl ?_|refine Ops.fa0 rfl rfl rfl rfl ?_|refine Ops.ld1 rfl rfl rfl rfl rfl ?_|refine Ops.bin rfl rfl rfl rfl rfl ?_|refine Ops.box rfl rfl rfl rfl (noPd rfl) (fun b=>?_))
 exact Cd.ret (ret1 (A':=[(xb,cl [.int .i64 badge] 3)]) rfl (Res.tmp rfl) (fun _ h=>h.split) ⟨rfl,rfl⟩)
theorem find1_spec (xb:Nat) (badge:Int) (r:Rw):Con Tryz.prog 187 ([Value.agg r.row.toArray] ++ [ptr xb]).toArray [(xb,cl [.int .i64 badge] 3)] fun v A=>v = .bool (decide (r.badge = badge ∧ 0 < badge)) ∧ A = [(xb,cl [.int .i64 badge] 3)]:=by
 refine Con.intro (vs:=[_,_]) Tryz.func187 rfl Tryz.ntmps187 rfl (fun B=>?_)
 by_cases h1:r.badge = badge
 ·repeat' (first|refine Cd.seq ?_|refine Cd.reg ?_|refine Ops.nil ?_|refine Ops.mv rfl rfl rfl rfl ?_|refine Ops.asg rfl rfl rfl rfl ?_|refine Ops.fa0 rfl rfl rfl rfl ?_|refine Ops.ld1 rfl rfl rfl rfl rfl ?_|refine Ops.bin rfl rfl rfl rfl rfl ?_|refine Ops.pickT rfl rfl rfl rfl rfl ?_|refine Ops.box rfl rfl rfl rfl (noPd rfl) (fun b=>?_)|((fail_if_success refine Ops.probe rfl ?_);refine Ops.gT rfl rfl zp0 ?_))
  exact ze46
 ·repeat' (first|refine Cd.seq ?_|refine Cd.reg ?_|refine Ops.nil ?_|refine Ops.mv rfl rfl rfl rfl ?_|refine Ops.asg rfl rfl rfl rfl ?_|refine Ops.fa0 rfl rfl rfl rfl ?_|refine Ops.ld1 rfl rfl rfl rfl rfl ?_|refine Ops.bin rfl rfl rfl rfl rfl ?_|refine Ops.pickF rfl rfl rfl rfl rfl ?_|refine Ops.box rfl rfl rfl rfl (noPd rfl) (fun b=>?_)|refine Ops.gSkip rfl rfl rfl ?_|((fail_if_success refine Ops.probe rfl ?_);refine Ops.gF rfl rfl zp0 ?_))
  exact ze46
theorem head1_spec (r:Rw):Con Tryz.prog 258 ([Value.agg r.row.toArray] ++ []).toArray [] fun v A=>v = .bool (decide (r.status = 1)) ∧ A = []:=by
 refine Con.intro (vs:=[_]) Tryz.func258 rfl Tryz.ntmps258 rfl (fun B=>?_)
 repeat' (first|refine Cd.seq ?_|refine Cd.reg ?_|refine Ops.nil ?_|refine Ops.asg rfl rfl rfl rfl ?_|refine Ops.fa0 rfl rfl rfl rfl ?_|refine Ops.ld1 rfl rfl rfl rfl rfl ?_|refine Ops.bin rfl rfl rfl rfl rfl ?_|refine Ops.box rfl rfl rfl rfl (noPd rfl) (fun b=>?_))
 exact ze8
def headF18 (rows:List Rw):Int:=idxF rows (fun r=>decide (r.status = 1)) + 1
theorem idxF_le (rows:List Rw) (p:Rw → Bool):-1 ≤ idxF rows p ∧ idxF rows p < rows.length:=by
 unfold idxF
 split
 ·rename_i i h
  rw [List.findIdx?_eq_some_iff_getElem] at h
  have:=h.1
  omega
 ·omega
theorem qhead_spec (B0:Base) (qb:Nat) (att:Int) (a:Option Addr) (c:Nat) (rows:List Rw) (RG:List Blk) (hO:OwnQ (.slice a rows.length c) rows RG) (hl:rows.length ≤ 8) :
  ConB Tryz.prog B0 230 #[ptr qb] (QuB qb att (.slice a rows.length c) :: RG) fun v A=>v = .int .i64 (headF18 rows) ∧ A = QuB qb att (.slice a rows.length c) :: RG:=by
 have hle:=idxF_le rows (fun r=>decide (r.status = 1))
 refine ConB.intro (vs:=[_]) Tryz.func230 rfl Tryz.ntmps230 rfl (fun B hB=>?_)
 have hf:=first_own B0 a c rows RG hO (by omega) 258 [] [] _ (fun r=>head1_spec r)
 simp only [List.nil_append] at hf
 refine zg4 ?_
 refine Ops.callB hf hB rfl (noPd rfl) rfl rfl rfl (fun v A' hR=>?_)
 obtain ⟨rfl,e⟩:=hR
 subst A'
 refine zg23 ?_
 exact ze47
@[reducible] def Rw.zero:Rw:=⟨0,0,0,0,0,0,0,0⟩
theorem qrow_no (B0:Base) (qb:Nat) (att:Int) (a:Option Addr) (c n:Nat) (job:Int) (hl:n ≤ 8) (hj:¬ (1 ≤ job ∧ job ≤ n)) (hQ:Holds B0 [QuB qb att (.slice a n c)]) :
  ConB Tryz.prog B0 188 #[ptr qb,.int .i64 job] [] fun v A=>v = .tuple #[.agg Rw.zero.row.toArray,.bool false] ∧ A = []:=by
 refine ConB.intro (vs:=[_,_]) Tryz.func188 rfl Tryz.ntmps188 rfl (fun B hB=>?_)
 have hQ:=hB.holds hQ
 have hc1:∀ A,Rd B.plain A qb 1 (.slice a n c):=hQ.cell (List.mem_singleton.2 rfl) rfl
 repeat' (first|refine Cd.seq ?_|refine Cd.reg ?_|refine Ops.mv rfl rfl rfl rfl ?_|refine Ops.asg rfl rfl rfl rfl ?_|refine Ops.nilP rfl rfl rfl rfl ?_|refine Ops.fa0 rfl rfl rfl rfl ?_|refine Ops.alloc rfl rfl rfl (noPd rfl) (fun b=>?_))
 refine Ops.ldR rfl rfl rfl (hc1 _) rfl ?_
 refine zg3 ?_
 refine Ops.call (qin_spec job 1 n) rfl (noPd rfl) rfl rfl rfl (fun v A' hR=>?_)
 obtain ⟨rfl,rfl⟩:=hR
 rw [decide_eq_false hj]
 refine zg20 ?_
 exact ze41
theorem qrow_yes (B0:Base) (qb:Nat) (att:Int) (a:Option Addr) (c:Nat) (rows:List Rw) (job:Int) (hl:rows.length ≤ 8) (hj:1 ≤ job ∧ job ≤ rows.length) (r:Rw) (hr:rows[(job - 1).toNat]? = some r) (hQ:Holds B0 [QuB qb att (.slice a rows.length c)]) (hR0:RIn 8 B0 a (rows.map Rw.row)) :
  ConB Tryz.prog B0 188 #[ptr qb,.int .i64 job] [] fun v A=>v = .tuple #[.agg r.row.toArray,.bool true] ∧ A = []:=by
 refine ConB.intro (vs:=[_,_]) Tryz.func188 rfl Tryz.ntmps188 rfl (fun B hB=>?_)
 have hQ:=hB.holds hQ
 have hc1:∀ A,Rd B.plain A qb 1 (.slice a rows.length c):=hQ.cell (List.mem_singleton.2 rfl) rfl
 obtain ⟨g,off,rfl,hrd⟩:=(hR0.ext hB) _ r.row (rget hr)
 repeat' (first|refine Cd.seq ?_|refine Cd.reg ?_|refine Ops.mv rfl rfl rfl rfl ?_|refine Ops.asg rfl rfl rfl rfl ?_|refine Ops.nilP rfl rfl rfl rfl ?_|refine Ops.fa0 rfl rfl rfl rfl ?_|refine Ops.alloc rfl rfl rfl (noPd rfl) (fun b=>?_))
 refine Ops.ldR rfl rfl rfl (hc1 _) rfl ?_
 refine zg3 ?_
 refine Ops.call (qin_spec job 1 rows.length) rfl (noPd rfl) rfl rfl rfl (fun v A' hR=>?_)
 obtain ⟨rfl,rfl⟩:=hR
 rw [decide_eq_true hj]
 refine zg7 ?_
 refine Ops.ldR rfl rfl rfl (hc1 _) rfl ?_
 refine zg38 ?_
 refine Ops.ldRN (r:=r.row) rfl rfl rfl rfl (hrd _) rfl ?_
 refine zg5 ?_
 exact ze41
theorem lastAt_lt {rows:List Rw} {badge:Int} {i:Nat} (h:lastAt rows badge = some i):i < rows.length:=by
 unfold lastAt at h
 rw [List.findIdx?_eq_some_iff_getElem] at h
 exact h.1
def findF18 (rows:List Rw) (badge:Int):Option Rw:=(lastAt rows badge).bind fun i=>rows[i]?
theorem qfind_spec (B0:Base) (qb:Nat) (att:Int) (a:Option Addr) (c:Nat) (rows:List Rw) (badge:Int) (hl:rows.length ≤ 8) (hQ0:Holds B0 [QuB qb att (.slice a rows.length c)]) (hR0:RIn 8 B0 a (rows.map Rw.row)) :
  ConB Tryz.prog B0 114 #[ptr qb,.int .i64 badge] [] fun v A=>v = .tuple #[.agg ((findF18 rows badge).getD Rw.zero).row.toArray,.bool (findF18 rows badge).isSome] ∧ A = []:=by
 refine ConB.intro (vs:=[_,_]) Tryz.func114 rfl Tryz.ntmps114 rfl (fun B hB=>?_)
 have hQ:=hB.holds hQ0
 have hc1:∀ A,Rd B.plain A qb 1 (.slice a rows.length c):=hQ.cell (List.mem_singleton.2 rfl) rfl
 repeat' (first|refine Cd.seq ?_|refine Cd.reg ?_|refine Ops.mv rfl rfl rfl rfl ?_|refine Ops.asg rfl rfl rfl rfl ?_|refine Ops.nilP rfl rfl rfl rfl ?_|refine Ops.fa0 rfl rfl rfl rfl ?_|refine Ops.box rfl rfl rfl rfl (noPd rfl) (fun b=>?_)|refine Ops.alloc rfl rfl rfl (noPd rfl) (fun b=>?_))
 rename_i xb
 rename Nat=>rb
 refine Ops.ldR rfl rfl rfl (hc1 _) rfl ?_
 refine zg3 ?_
 refine Ops.callB (first_spec B0 a c rows hR0 (by omega) 187 [ptr xb] [(xb,cl [.int .i64 badge] 3)] _ (fun r=>find1_spec xb badge r)) hB rfl (noPd rfl) rfl rfl rfl (fun v A' hR=>?_)
 obtain ⟨rfl,e⟩:=hR
 subst A'
 have hix:idxF rows (fun r=>decide (r.badge = badge ∧ 0 < badge)) = match lastAt rows badge with|some i=>(i:Int)|none=>-1:=rfl
 have hle:=idxF_le rows (fun r=>decide (r.badge = badge ∧ 0 < badge))
 rw [hix] at hle ⊢
 unfold findF18
 cases hla:lastAt rows badge with
 | none =>
  dsimp only [Option.bind_none,Option.getD_none,Option.isSome_none]
  refine zg23 ?_
  refine Ops.callB (qrow_no B0 qb att a c rows.length (-1 + 1) hl (by omega) hQ0) hB rfl (noPd rfl) rfl rfl rfl (fun v A' hR=>?_)
  obtain ⟨rfl,rfl⟩:=hR
  refine zg5 ?_
  exact ze41
 | some i =>
  have hi:=lastAt_lt hla
  obtain ⟨r,hr⟩:∃ r,rows[i]? = some r:=⟨_,List.getElem?_eq_getElem hi⟩
  have hi0:(0:Int) ≤ (i:Int):=Int.natCast_nonneg i
  have hi1:(i:Int) < (rows.length:Int):=by omega
  clear hle
  dsimp only [Option.bind_some]
  rw [hr]
  dsimp only [Option.getD_some,Option.isSome_some]
  refine zg23 ?_
  refine Ops.callB (qrow_yes B0 qb att a c rows ((i:Int) + 1) hl ⟨(by omega:(1:Int) ≤ (i:Int) + 1),(by omega:(i:Int) + 1 ≤ (rows.length:Int))⟩ r (by rw [show ((i:Int) + 1 - 1).toNat = i from by omega];exact hr) hQ0 hR0) hB rfl (noPd rfl) rfl rfl rfl (fun v A' hR=>?_)
  obtain ⟨rfl,rfl⟩:=hR
  refine zg5 ?_
  exact ze41
theorem idxF_any {rows:List Rw} {p:Rw → Bool}:(rows.any p = true → 0 ≤ idxF rows p) ∧ (rows.any p = false → idxF rows p = -1):=by
 unfold idxF
 constructor
 ·intro h
  split
  ·omega
  ·rename_i h2
   rw [List.findIdx?_eq_none_iff] at h2
   rw [List.any_eq_true] at h
   obtain ⟨x,hx,hp⟩:=h
   rw [h2 x hx] at hp;cases hp
 ·intro h
  split
  ·rename_i i h2
   rw [List.findIdx?_eq_some_iff_getElem] at h2
   obtain ⟨h3,h4,_⟩:=h2
   rw [List.any_eq_false] at h
   exact absurd h4 (h _ (List.getElem_mem h3))
  ·rfl
theorem grant_range (B0:Base) (qb:Nat) (att:Int) (a:Option Addr) (c n:Nat) (job badge node life:Int) (hl:n ≤ 8) (hj:¬ (1 ≤ job ∧ job ≤ n)) :
  ConB Tryz.prog B0 113 #[ptr qb,.int .i64 job,.int .i64 badge,.agg [.int .i64 node,.int .i64 life].toArray] [QuB qb att (.slice a n c)] fun v A=>v = .int .i64 111 ∧ A = [QuB qb att (.slice a n c)]:=by
 refine ConB.intro (vs:=[_,_,_,_]) Tryz.func113 rfl Tryz.ntmps113 rfl (fun B hB=>?_)
 repeat' (first|refine Cd.seq ?_|refine Cd.reg ?_|refine Ops.mv rfl rfl rfl rfl ?_|refine Ops.asg rfl rfl rfl rfl ?_|refine Ops.nilP rfl rfl rfl rfl ?_|refine Ops.fa0 rfl rfl rfl rfl ?_|refine Ops.ld1 rfl rfl rfl rfl rfl ?_|refine Ops.lenS rfl rfl rfl rfl ?_|refine Ops.box rfl rfl rfl rfl (noPd rfl) (fun b=>?_)|refine Cd.block ?_)
 refine Ops.call (qin_spec job 1 n) rfl (noPd rfl) rfl rfl rfl (fun v A' hR=>?_)
 obtain ⟨rfl,rfl⟩:=hR
 rw [decide_eq_false hj]
 refine zg15 ?_
 exact Cd.ret (ret1 (A':=[QuB qb att (.slice a n c)]) rfl (Res.tmp rfl) (fun _ h=>h.split) ⟨rfl,rfl⟩)
def badgeOk (rows:List Rw) (badge:Int):Prop:=(1 ≤ badge ∧ badge ≤ 1099511627776) ∧ rows.any (fun q=>decide (badge ≤ q.badge)) = false
theorem grant_spec (B0:Base) (qb:Nat) (att:Int) (g c:Nat) (sp:List Value) (rows:List Rw) (hO:OwnQ (.slice (some ⟨g,0,none⟩) rows.length c) rows [(g,cl ((rows.map Rw.row).flatten ++ sp) 98)]) (hl:rows.length ≤ 8) (job badge node life:Int) (hj:1 ≤ job ∧ job ≤ rows.length) (r:Rw) (hr:rows[(job - 1).toNat]? = some r) (hat:0 ≤ r.att ∧ r.att ≤ 1000) :
  ConB Tryz.prog B0 113 #[ptr qb,.int .i64 job,.int .i64 badge,.agg [.int .i64 node,.int .i64 life].toArray] [QuB qb att (.slice (some ⟨g,0,none⟩) rows.length c),(g,cl ((rows.map Rw.row).flatten ++ sp) 98)]
   fun v A=>((r.status ≠ 1 ∨ ¬ badgeOk rows badge ∨ holderOk node life = false) ∧ (∃ e:Int,e ≠ 0 ∧ v = .int .i64 e) ∧ A = [QuB qb att (.slice (some ⟨g,0,none⟩) rows.length c),(g,cl ((rows.map Rw.row).flatten ++ sp) 98)]) ∨
    (r.status = 1 ∧ badgeOk rows badge ∧ holderOk node life = true ∧ v = .int .i64 0 ∧ A = [QuB qb att (.slice (some ⟨g,0,none⟩) rows.length c),(g,cl (((rows.set (job - 1).toNat (r.give badge node life)).map Rw.row).flatten ++ sp) 98)]):=by
 have hi:(job - 1).toNat < rows.length:=by omega
 obtain ⟨jb,st,at_,bd,nd,lf,rc,rx⟩:=r
 dsimp only at hat ⊢
 have hok:=rws_ok rows
 have hrw:=rget hr
 refine ConB.intro (vs:=[_,_,_,_]) Tryz.func113 rfl Tryz.ntmps113 rfl (fun B hB=>?_)
 repeat' (first|refine Cd.seq ?_|refine Cd.reg ?_|refine Ops.mv rfl rfl rfl rfl ?_|refine Ops.asg rfl rfl rfl rfl ?_|refine Ops.nilP rfl rfl rfl rfl ?_|refine Ops.fa0 rfl rfl rfl rfl ?_|refine Ops.ld1 rfl rfl rfl rfl rfl ?_|refine Ops.lenS rfl rfl rfl rfl ?_|refine Ops.box rfl rfl rfl rfl (noPd rfl) (fun b=>?_)|refine Cd.block ?_)
 rename_i xb
 rename Nat=>ab
 refine Ops.call (qin_spec job 1 rows.length) rfl (noPd rfl) rfl rfl rfl (fun v A' hR=>?_)
 obtain ⟨rfl,rfl⟩:=hR
 rw [decide_eq_true hj]
 by_cases h1:st = 1
 case neg =>
  refine zg40 ?_
  exact Cd.ret (ret1 (A':=[QuB qb att (.slice (some ⟨g,0,none⟩) rows.length c),(g,cl ((rows.map Rw.row).flatten ++ sp) 98)]) rfl (Res.tmp rfl) (fun _ h=>h.split) (.inl ⟨.inl h1,⟨112,by decide,rfl⟩,rfl⟩))
 subst h1
 refine zg40 ?_
 refine Ops.call (qin_spec badge 1 1099511627776) rfl (noPd rfl) rfl rfl rfl (fun v A' hR=>?_)
 obtain ⟨rfl,rfl⟩:=hR
 by_cases h2:1 ≤ badge ∧ badge ≤ 1099511627776
 case neg =>
  rw [decide_eq_false h2]
  refine zg20 ?_
  exact Cd.ret (ret1 (A':=[QuB qb att (.slice (some ⟨g,0,none⟩) rows.length c),(g,cl ((rows.map Rw.row).flatten ++ sp) 98)]) rfl (Res.tmp rfl) (fun _ h=>h.split) (.inl ⟨.inr (.inl (fun q=>h2 q.1)),⟨113,by decide,rfl⟩,rfl⟩))
 rw [decide_eq_true h2]
 refine zg26 ?_
 refine Ops.callB (first_own B0 (some ⟨g,0,none⟩) c rows _ hO (by omega) 185 [ptr xb] [(xb,cl [.int .i64 badge] 3)] _ (fun r=>grant1_spec xb badge r)) hB rfl (noPd rfl) rfl rfl rfl (fun v A' hR=>?_)
 obtain ⟨rfl,e⟩:=hR
 subst A'
 cases h3:rows.any (fun q=>decide (badge ≤ q.badge)) with
 | true =>
  have h4:=idxF_any.1 h3
  refine zg29 ?_
  exact Cd.ret (ret1 (A':=[QuB qb att (.slice (some ⟨g,0,none⟩) rows.length c),(g,cl ((rows.map Rw.row).flatten ++ sp) 98)]) rfl (Res.tmp rfl) (fun _ h=>h.split) (.inl ⟨.inr (.inl (fun q=>by rw [q.2] at h3;cases h3)),⟨113,by decide,rfl⟩,rfl⟩))
 | false =>
  have h4:=idxF_any.2 h3
  rw [h4]
  refine zg19 ?_
  refine Ops.call (qholder_spec node life) rfl (noPd rfl) rfl rfl rfl (fun v A' hR=>?_)
  obtain ⟨rfl,rfl⟩:=hR
  cases h5:holderOk node life with
  | false =>
   refine zg15 ?_
   exact Cd.ret (ret1 (A':=[QuB qb att (.slice (some ⟨g,0,none⟩) rows.length c),(g,cl ((rows.map Rw.row).flatten ++ sp) 98)]) rfl (Res.tmp rfl) (fun _ h=>h.split) (.inl ⟨.inr (.inr rfl),⟨1,by decide,rfl⟩,rfl⟩))
  | true =>
   refine zg37 ?_
   refine Cd.draw [(0,0,[]),(1,0,[]),(2,0,[]),(3,1,[]),(4,1,[]),(5,0,[]),(6,0,[]),(7,2,[3,4]),(8,0,[]),(9,0,[]),(10,2,[4]),(11,0,[]),(12,0,[]),(13,2,[])] (by kernel_rfl) (by kernel_rfl) (by simp only [picked,nth];exact rfl) ?_
   refine zg9 ?_
   refine Ops.stRow1 (i:=(job - 1).toNat) (o:=1) rfl rfl rfl rfl rfl hok hrw rfl zp4 ?_
   rw [show (rows.map Rw.row).set (job - 1).toNat ((⟨jb,1,at_,bd,nd,lf,rc,rx⟩:Rw).row.set 1 (.int .i64 2)) = (rows.set (job - 1).toNat ⟨jb,2,at_,bd,nd,lf,rc,rx⟩).map Rw.row from rset (q:=⟨jb,2,at_,bd,nd,lf,rc,rx⟩)]
   refine zg2 ?_
   refine Ops.stRow1 (i:=(job - 1).toNat) (o:=3) rfl rfl rfl rfl rfl (rws_ok _) (rget_set hi) rfl zp4 ?_
   rw [show ((rows.set (job - 1).toNat ⟨jb,2,at_,bd,nd,lf,rc,rx⟩).map Rw.row).set (job - 1).toNat ((⟨jb,2,at_,bd,nd,lf,rc,rx⟩:Rw).row.set 3 (.int .i64 badge)) = (rows.set (job - 1).toNat ⟨jb,2,at_,badge,nd,lf,rc,rx⟩).map Rw.row from rset2 (q2:=⟨jb,2,at_,badge,nd,lf,rc,rx⟩)]
   refine zg2 ?_
   refine Ops.stRowN (i:=(job - 1).toNat) (o:=4) rfl rfl rfl rfl rfl rfl (rws_ok _) (rget_set hi) (noPd rfl) ?_
   rw [show ((rows.set (job - 1).toNat ⟨jb,2,at_,badge,nd,lf,rc,rx⟩).map Rw.row).set (job - 1).toNat (⟨jb,2,at_,badge,node,life,rc,rx⟩:Rw).row = (rows.set (job - 1).toNat ⟨jb,2,at_,badge,node,life,rc,rx⟩).map Rw.row from rset2]
   refine zg4 ?_
   refine Ops.ldRow1 (i:=(job - 1).toNat) (o:=2) rfl rfl rfl (rws_ok _) (rget_set hi) rfl rfl ?_
   dsimp only
   refine zg23 ?_
   refine Ops.stRow1 (i:=(job - 1).toNat) (o:=2) rfl rfl rfl rfl rfl (rws_ok _) (rget_set hi) rfl (noPd rfl) ?_
   rw [show ((rows.set (job - 1).toNat ⟨jb,2,at_,badge,node,life,rc,rx⟩).map Rw.row).set (job - 1).toNat ((⟨jb,2,at_,badge,node,life,rc,rx⟩:Rw).row.set 2 (.int .i64 (at_ + 1))) = (rows.set (job - 1).toNat ⟨jb,2,at_ + 1,badge,node,life,rc,rx⟩).map Rw.row from rset2 (q2:=⟨jb,2,at_ + 1,badge,node,life,rc,rx⟩)]
   refine zg3 ?_
   exact Cd.ret (ret1 (A':=[QuB qb att (.slice (some ⟨g,0,none⟩) rows.length c),(g,cl (((rows.set (job - 1).toNat ⟨jb,2,at_ + 1,badge,node,life,rc,rx⟩).map Rw.row).flatten ++ sp) 98)]) rfl (Res.tmp rfl) (fun _ h=>h.split) (.inr ⟨rfl,⟨h2,h3⟩,rfl,rfl,rfl⟩))
theorem own_set {rows:List Rw} {n g c i:Nat} {sp:List Value} {q:Rw} (h:OwnQ (.slice (some ⟨g,0,none⟩) n c) rows [(g,cl ((rows.map Rw.row).flatten ++ sp) 98)]):OwnQ (.slice (some ⟨g,0,none⟩) n c) (rows.set i q) [(g,cl (((rows.set i q).map Rw.row).flatten ++ sp) 98)]:=by
 refine ⟨rws_ok _,.inr ⟨g,c,sp,?_,rfl,?_,?_⟩⟩
 ·rcases h.2 with ⟨h1,_⟩|⟨g',c',sp',h1,_⟩
  ·cases h1
  ·injection h1 with _ h2 _
   rw [h2,List.length_map,List.length_map,List.length_set]
 ·rcases h.2 with ⟨h1,_⟩|⟨g',c',sp',h1,h2,h3,_⟩
  ·cases h1
  ·injection h1 with e1 e2 e3
   subst e3
   have e4:sp'.length = sp.length:=by
    injection h2 with h2 _
    injection h2 with _ h2
    have:=congrArg (fun o:Obj=>match o with|.cells a _ _=>a.size|_=>0) h2
    simpa [cl] using this.symm
   rw [(rws_ok rows).len] at h3
   rw [(rws_ok _).len]
   simp only [List.length_map,List.length_set] at h3 ⊢
   omega
 ·rcases h.2 with ⟨h1,_⟩|⟨g',c',sp',h1,_,_,h4⟩
  ·cases h1
  ·injection h1 with e1 e2 e3
   subst e3
   simpa using h4
theorem step_expire (B0:Base) (c:Ch) (h:c.kind = 5):StepOk B0 c:=by
 intro sb s D a k hD ok hS
 obtain ⟨qb,rv,RG,pv,PG,lv,LG,ls,rfl,y1,y2,y3,y4,y5⟩:=hD
 obtain ⟨o1,o2,o3,o4,o5,o6,o7⟩:=id ok
 have e1:doesN c.kind = 66:=by rw [h];rfl
 have hs:stepF s c = (match heldAt s.rows c.badge with|none=>none|some i=>some { s with rows:=s.rows.set i ((s.rows.getD i ⟨0,0,0,0,0,0,0,0⟩).free s.att) }):=by
  unfold stepF
  rw [if_neg (by omega),if_neg (by omega),if_neg (by omega),if_neg (by omega),if_pos h]
  rfl
 rw [e1,hs]
 obtain ⟨ra,rc,rfl⟩:=y1.form
 cases hh:heldAt s.rows c.badge with
 | none =>
  refine ConB.intro (vs:=[_,_]) Tryz.func66 rfl Tryz.ntmps66 rfl (fun B hB=>?_)
  repeat' (first|refine Cd.seq ?_|refine Cd.reg ?_|refine Ops.asg rfl rfl rfl rfl ?_|refine Ops.box rfl rfl rfl rfl (noPd rfl) (fun b=>?_))
  refine Cd.draw [(0,0,[]),(1,0,[]),(2,0,[]),(3,0,[]),(4,1,[]),(5,0,[]),(6,1,[]),(7,2,[]),(8,0,[]),(9,0,[]),(10,0,[]),(11,0,[]),(12,0,[])] (by kernel_rfl) (by kernel_rfl) (by simp only [picked,nth];exact rfl) ?_
  refine zg2 ?_
  refine Ops.callB (expire_none B0 qb s.att ra rc s.rows RG y1 o3 c.badge hh) hB rfl (noPd rfl) rfl rfl rfl (fun v A' hR=>?_)
  obtain ⟨rfl,rfl⟩:=hR
  refine zg5 ?_
  exact ze51
 | some i =>
  have hi:=held_lt hh
  obtain ⟨r,hr⟩:∃ r,s.rows[i]? = some r:=⟨_,List.getElem?_eq_getElem hi⟩
  obtain ⟨g,c',sp,hsv,rfl,hsp,hle⟩:=Own.some_ y1 (by rw [List.length_map];omega)
  injection hsv with q1 q2 q3
  subst q1
  refine ConB.intro (vs:=[_,_]) Tryz.func66 rfl Tryz.ntmps66 rfl (fun B hB=>?_)
  repeat' (first|refine Cd.seq ?_|refine Cd.reg ?_|refine Ops.asg rfl rfl rfl rfl ?_|refine Ops.box rfl rfl rfl rfl (noPd rfl) (fun b=>?_))
  refine Cd.draw [(0,0,[]),(1,0,[]),(2,0,[]),(3,0,[]),(4,1,[]),(5,0,[]),(6,1,[]),(7,2,[]),(8,0,[]),(9,0,[]),(10,0,[]),(11,0,[]),(12,0,[])] (by kernel_rfl) (by kernel_rfl) (by simp only [picked,nth];exact rfl) ?_
  refine zg2 ?_
  refine Ops.callB (expire_some B0 qb s.att g rc sp s.rows y1 o3 c.badge i r hh hr) hB rfl (noPd rfl) rfl rfl rfl (fun v A' hR=>?_)
  obtain ⟨rfl,rfl⟩:=hR
  refine zg5 ?_
  refine Cd.ret (ret1 (A':=StB sb qb s.res pv lv :: QuB qb s.att (.slice (some ⟨g,0,none⟩) s.rows.length rc) :: ([(g,cl (((s.rows.set i (r.free s.att)).map Rw.row).flatten ++ sp) 98)] ++ (PG ++ (LG ++ ls.flatMap Lg.G)))) rfl (Res.tmp rfl) (fun _ h=>h.split) ⟨rfl,qb,_,_,pv,PG,lv,LG,ls,rfl,?_,y2,y3,y4,y5⟩)
  show OwnQ _ (s.rows.set i ((s.rows.getD i ⟨0,0,0,0,0,0,0,0⟩).free s.att)) _
  rw [getD_of hr]
  exact own_set y1
theorem step_settle (B0:Base) (c:Ch) (h:c.kind = 6):StepOk B0 c:=by
 intro sb s D a k hD ok hS
 obtain ⟨qb,rv,RG,pv,PG,lv,LG,ls,rfl,y1,y2,y3,y4,y5⟩:=hD
 obtain ⟨o1,o2,o3,o4,o5,o6,o7⟩:=id ok
 have e1:doesN c.kind = 67:=by rw [h];rfl
 have hs:stepF s c = (match heldAt s.rows c.badge with|none=>none|some i=>if resOk c.rcode c.rbits = false then none else some { s with rows:=s.rows.set i ((s.rows.getD i ⟨0,0,0,0,0,0,0,0⟩).done c.rcode c.rbits) }):=by
  unfold stepF
  rw [if_neg (by omega),if_neg (by omega),if_neg (by omega),if_neg (by omega),if_neg (by omega)]
  cases heldAt s.rows c.badge with
  | none=>rfl
  | some i =>
   dsimp only
   by_cases hb:0 ≤ c.rcode ∧ c.rcode ≤ 7 ∧ (c.rcode = 0 ∨ c.rbits = 0)
   ·rw [if_neg (not_not_intro hb),if_neg (by unfold resOk;simp;omega)]
   ·rw [if_pos hb,if_pos (by unfold resOk;simp;omega)]
 rw [e1,hs]
 obtain ⟨ra,rc,rfl⟩:=y1.form
 cases hh:heldAt s.rows c.badge with
 | none =>
  refine ConB.intro (vs:=[_,_]) Tryz.func67 rfl Tryz.ntmps67 rfl (fun B hB=>?_)
  repeat' (first|refine Cd.seq ?_|refine Cd.reg ?_|refine Ops.asg rfl rfl rfl rfl ?_|refine Ops.box rfl rfl rfl rfl (noPd rfl) (fun b=>?_))
  refine Cd.draw [(0,0,[]),(1,0,[]),(2,0,[]),(3,0,[]),(4,1,[]),(5,0,[]),(6,1,[]),(7,0,[]),(8,1,[]),(9,2,[]),(10,0,[]),(11,0,[]),(12,0,[]),(13,0,[]),(14,0,[])] (by kernel_rfl) (by kernel_rfl) (by simp only [picked,nth];exact rfl) ?_
  refine zg9 ?_
  refine Ops.callB (settle_none B0 qb s.att ra rc s.rows RG y1 o3 c.badge c.rcode c.rbits hh) hB rfl (noPd rfl) rfl rfl rfl (fun v A' hR=>?_)
  obtain ⟨rfl,rfl⟩:=hR
  refine zg5 ?_
  exact ze51
 | some i =>
  have hi:=held_lt hh
  obtain ⟨r,hr⟩:∃ r,s.rows[i]? = some r:=⟨_,List.getElem?_eq_getElem hi⟩
  obtain ⟨g,c',sp,hsv,rfl,hsp,hle⟩:=Own.some_ y1 (by rw [List.length_map];omega)
  injection hsv with q1 q2 q3
  subst q1
  refine ConB.intro (vs:=[_,_]) Tryz.func67 rfl Tryz.ntmps67 rfl (fun B hB=>?_)
  repeat' (first|refine Cd.seq ?_|refine Cd.reg ?_|refine Ops.asg rfl rfl rfl rfl ?_|refine Ops.box rfl rfl rfl rfl (noPd rfl) (fun b=>?_))
  refine Cd.draw [(0,0,[]),(1,0,[]),(2,0,[]),(3,0,[]),(4,1,[]),(5,0,[]),(6,1,[]),(7,0,[]),(8,1,[]),(9,2,[]),(10,0,[]),(11,0,[]),(12,0,[]),(13,0,[]),(14,0,[])] (by kernel_rfl) (by kernel_rfl) (by simp only [picked,nth];exact rfl) ?_
  refine zg9 ?_
  cases hb:resOk c.rcode c.rbits with
  | false =>
   refine Ops.callB (settle_bad B0 qb s.att g rc sp s.rows y1 o3 c.badge c.rcode c.rbits i hh hb) hB rfl (noPd rfl) rfl rfl rfl (fun v A' hR=>?_)
   obtain ⟨rfl,rfl⟩:=hR
   refine zg5 ?_
   exact Cd.ret (ret1 (A':=StB sb qb s.res pv lv :: QuB qb s.att (.slice (some ⟨g,0,none⟩) s.rows.length rc) :: ([(g,cl ((s.rows.map Rw.row).flatten ++ sp) 98)] ++ (PG ++ (LG ++ ls.flatMap Lg.G)))) rfl (Res.tmp rfl) (fun _ h=>h.split) ⟨rfl,qb,_,_,pv,PG,lv,LG,ls,rfl,y1,y2,y3,y4,y5⟩)
  | true =>
   refine Ops.callB (settle_some B0 qb s.att g rc sp s.rows y1 o3 c.badge c.rcode c.rbits i r hh hr hb) hB rfl (noPd rfl) rfl rfl rfl (fun v A' hR=>?_)
   obtain ⟨rfl,rfl⟩:=hR
   refine zg5 ?_
   refine Cd.ret (ret1 (A':=StB sb qb s.res pv lv :: QuB qb s.att (.slice (some ⟨g,0,none⟩) s.rows.length rc) :: ([(g,cl (((s.rows.set i (r.done c.rcode c.rbits)).map Rw.row).flatten ++ sp) 98)] ++ (PG ++ (LG ++ ls.flatMap Lg.G)))) rfl (Res.tmp rfl) (fun _ h=>h.split) ⟨rfl,qb,_,_,pv,PG,lv,LG,ls,rfl,?_,y2,y3,y4,y5⟩)
   show OwnQ _ (s.rows.set i ((s.rows.getD i ⟨0,0,0,0,0,0,0,0⟩).done c.rcode c.rbits)) _
   rw [getD_of hr]
   exact own_set y1
theorem step_submit (B0:Base) (c:Ch) (h:c.kind = 2):StepOk B0 c:=by
 intro sb s D a k hD ok hS
 obtain ⟨qb,rv,RG,pv,PG,lv,LG,ls,rfl,y1,y2,y3,y4,y5⟩:=hD
 obtain ⟨o1,o2,o3,o4,o5,o6,o7⟩:=id ok
 have e1:doesN c.kind = 63:=by rw [h];rfl
 have hs:stepF s c = (if c.job ≠ (s.progs.length:Nat) + 1 ∨ 8 ≤ s.rows.length then none else some { s with rows:=s.rows ++ [⟨(s.rows.length:Nat) + 1,1,0,0,0,0,0,0⟩],progs:=s.progs ++ [c.prog],logs:=s.logs ++ [[]] }):=by
  unfold stepF
  rw [if_neg (by omega),if_pos h]
 rw [e1,hs]
 obtain ⟨ra,rc,rfl⟩:=y1.form
 obtain ⟨pa,pc,rfl⟩:=y2.form
 obtain ⟨la,lc,rfl⟩:=Own.form y3
 have hlen:(ls.map Lg.row).length = s.logs.length:=by rw [← y5,List.length_map,List.length_map]
 rw [hlen] at y3 ⊢
 refine ConB.intro (vs:=[_,_]) Tryz.func63 rfl Tryz.ntmps63 rfl (fun B hB=>?_)
 by_cases hj:c.job = ((s.progs.length:Nat):Int) + 1
 case neg =>
  rw [if_pos (.inl hj)]
  repeat' (first|refine Cd.seq ?_|refine Cd.reg ?_|refine Ops.asg rfl rfl rfl rfl ?_|refine Ops.box rfl rfl rfl rfl (noPd rfl) (fun b=>?_))
  refine Cd.draw [(0,0,[]),(1,1,[]),(2,0,[]),(3,0,[]),(4,0,[]),(5,1,[]),(6,1,[]),(7,0,[]),(8,0,[])] (by kernel_rfl) (by kernel_rfl) (by simp only [picked,nth];exact rfl) ?_
  refine zg33 ?_
  exact ze52
 by_cases hf:8 ≤ s.rows.length
 ·rw [if_pos (.inr hf)]
  repeat' (first|refine Cd.seq ?_|refine Cd.reg ?_|refine Ops.asg rfl rfl rfl rfl ?_|refine Ops.box rfl rfl rfl rfl (noPd rfl) (fun b=>?_))
  refine Cd.draw [(0,0,[]),(1,1,[]),(2,0,[]),(3,0,[]),(4,0,[]),(5,1,[]),(6,1,[]),(7,0,[]),(8,0,[])] (by kernel_rfl) (by kernel_rfl) (by simp only [picked,nth];exact rfl) ?_
  refine zg27 ?_
  refine Ops.call (qsubmit_full qb s.att ra rc s.rows.length hf) rfl (noPd rfl) rfl rfl rfl (fun v A' hR=>?_)
  obtain ⟨rfl,rfl⟩:=hR
  refine zg19 ?_
  exact ze52
 rw [if_neg (by rintro (q|q);exact q hj;exact hf q)]
 repeat' (first|refine Cd.seq ?_|refine Cd.reg ?_|refine Ops.asg rfl rfl rfl rfl ?_|refine Ops.box rfl rfl rfl rfl (noPd rfl) (fun b=>?_))
 refine Cd.draw [(0,0,[]),(1,1,[]),(2,0,[]),(3,0,[]),(4,0,[]),(5,1,[]),(6,1,[]),(7,0,[]),(8,0,[])] (by kernel_rfl) (by kernel_rfl) (by simp only [picked,nth];exact rfl) ?_
 refine zg27 ?_
 refine Ops.call (qsubmit_spec qb s.att ra rc s.rows RG y1 (by omega)) rfl (noPd rfl) rfl rfl rfl (fun v A' hR=>?_)
 obtain ⟨rfl,rv1,RG1,rfl,hQ1⟩:=hR
 refine zg13 ?_
 refine Cd.draw [(0,0,[]),(1,0,[]),(2,0,[]),(3,0,[]),(4,1,[]),(5,0,[]),(6,1,[]),(7,2,[4]),(8,2,[]),(9,0,[]),(10,0,[]),(11,2,[])] (by kernel_rfl) (by kernel_rfl) (by simp only [picked,nth];exact rfl) ?_
 repeat' (first|refine Ops.mv rfl rfl rfl rfl ?_|refine Ops.nilP rfl rfl rfl rfl ?_|refine Ops.fa0 rfl rfl rfl rfl ?_|refine Ops.ld1 rfl rfl rfl rfl rfl ?_|refine Ops.bs1 rfl rfl rfl rfl rfl rfl rfl zp3 (fun b=>?_))
 refine Ops.app1 (rows:=s.progs.map trow) y2 (by simp only [List.length_map];omega) (by simp only [List.length_map];omega) rfl rfl rfl rfl (by rfl) (by rfl) rfl (noPd rfl) rfl (fun v G' hG'=>?_)
 have hP1:OwnT v (s.progs ++ [c.prog]) G':=by
  unfold OwnT
  rw [List.map_append]
  exact hG'
 clear hG'
 obtain ⟨pa1,pc1,rfl⟩:=hP1.form
 rename List Blk=>PG1
 repeat' (first|refine Cd.seq ?_|refine Cd.reg ?_|refine Ops.nil ?_|refine Ops.mv rfl rfl rfl rfl ?_|refine Ops.nilP rfl rfl rfl rfl ?_|refine Ops.fa0 rfl rfl rfl rfl ?_|refine Ops.ld1 rfl rfl rfl rfl rfl ?_|refine Ops.bs1 rfl rfl rfl rfl rfl rfl rfl zp3 (fun b=>?_)|refine Ops.st1 rfl rfl rfl rfl rfl zp4 ?_)
 refine Ops.app1 (rows:=ls.map Lg.row) y3 (by rw [hlen];omega) (by rw [hlen];omega) rfl rfl rfl rfl (by rfl) (by rfl) rfl (noPd rfl) rfl (fun v G' hG'=>?_)
 have hL1:Own 67 1 v ((ls ++ [(⟨none,0,[],[]⟩:Lg)]).map Lg.row) G':=by
  rw [List.map_append]
  exact hG'
 clear hG'
 obtain ⟨la1,lc1,rfl⟩:=Own.form hL1
 refine zg4 ?_
 refine Cd.ret (ret1 (A':=StB sb qb s.res (.slice pa1 (s.progs ++ [c.prog]).length pc1) (.slice la1 ((ls ++ [(⟨none,0,[],[]⟩:Lg)]).map Lg.row).length lc1) :: QuB qb s.att rv1 :: (RG1 ++ (PG1 ++ (G' ++ ls.flatMap Lg.G)))) rfl (Res.tmp rfl) (fun _ h=>h.split) ⟨rfl,qb,rv1,RG1,_,PG1,_,G',ls ++ [(⟨none,0,[],[]⟩:Lg)],?_,hQ1,hP1,hL1,fun x hx=>?_,?_⟩)
 ·simp
 ·rcases List.mem_append.1 hx with hx|hx
  ·exact y4 x hx
  ·rw [List.mem_singleton] at hx
   subst hx
   exact Own.none
 ·show (ls ++ [(⟨none,0,[],[]⟩:Lg)]).map Lg.txs = s.logs ++ [[]]
  rw [List.map_append,y5];rfl
theorem own_setL {ls:List Lg} {n g c i:Nat} {sp:List Value} {q:Lg} (h:Own 67 1 (.slice (some ⟨g,0,none⟩) n c) (ls.map Lg.row) [(g,cl ((ls.map Lg.row).flatten ++ sp) 67)]):Own 67 1 (.slice (some ⟨g,0,none⟩) n c) ((ls.set i q).map Lg.row) [(g,cl (((ls.set i q).map Lg.row).flatten ++ sp) 67)]:=by
 refine ⟨lgs_ok _,.inr ⟨g,c,sp,?_,rfl,?_,?_⟩⟩
 ·rcases h.2 with ⟨h1,_⟩|⟨g',c',sp',h1,_⟩
  ·cases h1
  ·injection h1 with _ h2 _
   rw [h2,List.length_map,List.length_map,List.length_set]
 ·rcases h.2 with ⟨h1,_⟩|⟨g',c',sp',h1,h2,h3,_⟩
  ·cases h1
  ·injection h1 with e1 e2 e3
   subst e3
   have e4:sp'.length = sp.length:=by
    injection h2 with h2 _
    injection h2 with _ h2
    have:=congrArg (fun o:Obj=>match o with|.cells a _ _=>a.size|_=>0) h2
    simpa [cl] using this.symm
   rw [(lgs_ok ls).len] at h3
   rw [(lgs_ok _).len]
   simp only [List.length_map,List.length_set] at h3 ⊢
   omega
 ·rcases h.2 with ⟨h1,_⟩|⟨g',c',sp',h1,_,_,h4⟩
  ·cases h1
  ·injection h1 with e1 e2 e3
   subst e3
   simpa using h4
theorem lset {ls:List Lg} {i:Nat} {q:Lg}:(ls.map Lg.row).set i q.row = (ls.set i q).map Lg.row:=List.map_set.symm
theorem flat_take:∀ {ls:List Lg} {i:Nat} {x e:Lg},ls[i]? = some x → e.G = [] → (ls.flatMap Lg.G).Perm (x.G ++ (ls.set i e).flatMap Lg.G)
 | [],i,x,e,h,_=>by simp at h
 | y :: ls,0,x,e,h,he=>by
  simp only [List.getElem?_cons_zero,Option.some.injEq] at h
  subst h
  simp [he]
 | y :: ls,i + 1,x,e,h,he=>by
  simp only [List.getElem?_cons_succ] at h
  rw [List.set_cons_succ,List.flatMap_cons,List.flatMap_cons]
  refine ((flat_take h he).append_left y.G).trans ?_
  rw [← List.append_assoc,← List.append_assoc]
  exact List.perm_append_comm.append_right _
theorem sat_drop {B:Base} {X g r:List Blk} {w:World} (h:Sat B (X ++ (g ++ r)) w):Sat B (X ++ r) w:=by
 have h2:=h.perm (List.Perm.append_left X List.perm_append_comm)
 rw [← List.append_assoc] at h2
 exact h2.left
theorem check_more {c:Ch} (h:checkF c = 0):(0 ≤ c.slot ∧ c.slot ≤ 7) ∧ c.txs.length ≤ 8 ∧ c.job ≤ 8:=by
 unfold checkF at h
 split at h
 ·cases h
 ·split at h
  ·rename_i hall
   simp only [Bool.and_eq_true] at hall
   obtain ⟨_,h2,_,_,h5,h6,_⟩:=hall
   have h2:=rgt_true h2
   have h5:=rgt_true h5
   have h6:=rgt_true h6
   simp only [decide_eq_true_eq,Bool.and_eq_true] at h2 h5 h6
   refine ⟨by omega,?_,by omega⟩
   rcases h6 with h6|h6
   ·unfold textsF at h6
    simp only [Bool.and_eq_true,decide_eq_true_eq] at h6
    omega
   ·omega
  ·cases h
theorem step_grant (B0:Base) (c:Ch) (h:c.kind = 3) (hck:checkF c = 0) (hx:0 ≤ c.rbits ∧ c.rbits < 18446744073709551616):StepOk B0 c:=by
 intro sb s D a k hD ok hS
 obtain ⟨qb,rv,RG,pv,PG,lv,LG,ls,rfl,y1,y2,y3,y4,y5⟩:=hD
 obtain ⟨o1,o2,o3,o4,o5,o6,o7⟩:=id ok
 obtain ⟨hsl,_,hj8⟩:=check_more hck
 have e1:doesN c.kind = 64:=by rw [h];rfl
 have hs:stepF s c = (if s.res < c.badge then none else match (if 1 ≤ c.job then s.rows[(c.job - 1).toNat]? else none) with
  | none=>none
  | some r=>if r.status ≠ 1 ∨ ¬ (1 ≤ c.badge ∧ c.badge ≤ 1099511627776) ∨ s.rows.any (fun q=>decide (c.badge ≤ q.badge)) ∨ ¬ holderOk (2 + c.slot) c.life then none
   else some { s with rows:=s.rows.set (c.job - 1).toNat (r.give c.badge (2 + c.slot) c.life),logs:=s.logs.set (c.job - 1).toNat [] }):=by
  unfold stepF
  rw [if_neg (by omega),if_neg (by omega),if_pos h]
  rfl
 rw [e1,hs]
 obtain ⟨ra,rc,rfl⟩:=y1.form
 obtain ⟨pa,pc,rfl⟩:=y2.form
 obtain ⟨la,lc,rfl⟩:=Own.form y3
 have hlen:(ls.map Lg.row).length = s.logs.length:=by rw [← y5,List.length_map,List.length_map]
 rw [hlen] at y3 ⊢
 refine ConB.intro (vs:=[_,_]) Tryz.func64 rfl Tryz.ntmps64 rfl (fun B hB=>?_)
 by_cases hb:s.res < c.badge
 ·rw [if_pos hb]
  repeat' (first|refine Cd.seq ?_|refine Cd.reg ?_|refine Ops.asg rfl rfl rfl rfl ?_|refine Ops.box rfl rfl rfl rfl (noPd rfl) (fun b=>?_))
  refine Cd.draw [(0,0,[]),(1,1,[]),(2,0,[]),(3,0,[]),(4,0,[]),(5,1,[]),(6,0,[]),(7,0,[]),(8,0,[]),(9,0,[]),(10,0,[]),(11,0,[]),(12,1,[]),(13,0,[]),(14,1,[]),(15,0,[]),(16,1,[]),(17,0,[]),(18,1,[]),(19,0,[]),(20,0,[]),(21,1,[]),(22,0,[]),(23,2,[]),(24,0,[]),(25,0,[])] (by kernel_rfl) (by kernel_rfl) (by simp only [picked,nth];exact rfl) ?_
  refine zg22 ?_
  exact ze52
 rw [if_neg hb]
 by_cases hj:1 ≤ c.job ∧ c.job ≤ s.rows.length
 case neg =>
  have hno:(if 1 ≤ c.job then s.rows[(c.job - 1).toNat]? else none) = none:=by
   split
   ·rw [List.getElem?_eq_none_iff];omega
   ·rfl
  rw [hno]
  repeat' (first|refine Cd.seq ?_|refine Cd.reg ?_|refine Ops.asg rfl rfl rfl rfl ?_|refine Ops.box rfl rfl rfl rfl (noPd rfl) (fun b=>?_))
  refine Cd.draw [(0,0,[]),(1,1,[]),(2,0,[]),(3,0,[]),(4,0,[]),(5,1,[]),(6,0,[]),(7,0,[]),(8,0,[]),(9,0,[]),(10,0,[]),(11,0,[]),(12,1,[]),(13,0,[]),(14,1,[]),(15,0,[]),(16,1,[]),(17,0,[]),(18,1,[]),(19,0,[]),(20,0,[]),(21,1,[]),(22,0,[]),(23,2,[]),(24,0,[]),(25,0,[])] (by kernel_rfl) (by kernel_rfl) (by simp only [picked,nth];exact rfl) ?_
  refine zg30 ?_
  refine Ops.callB (grant_range B0 qb s.att ra rc s.rows.length c.job c.badge (2 + c.slot) c.life o3 hj) hB rfl (noPd rfl) rfl rfl rfl (fun v A' hR=>?_)
  obtain ⟨rfl,rfl⟩:=hR
  refine zg20 ?_
  exact ze52
 have hi:(c.job - 1).toNat < s.rows.length:=by omega
 obtain ⟨r,hr⟩:∃ r,s.rows[(c.job - 1).toNat]? = some r:=⟨_,List.getElem?_eq_getElem hi⟩
 obtain ⟨m1,m2,m3⟩:=ok.am r (List.mem_of_getElem? hr)
 rw [if_pos hj.1,hr]
 dsimp only
 obtain ⟨g,c',sp,hsv,rfl,hsp,hle⟩:=Own.some_ y1 (by rw [List.length_map];omega)
 injection hsv with q1 q2 q3
 subst q1
 repeat' (first|refine Cd.seq ?_|refine Cd.reg ?_|refine Ops.asg rfl rfl rfl rfl ?_|refine Ops.box rfl rfl rfl rfl (noPd rfl) (fun b=>?_))
 refine Cd.draw [(0,0,[]),(1,1,[]),(2,0,[]),(3,0,[]),(4,0,[]),(5,1,[]),(6,0,[]),(7,0,[]),(8,0,[]),(9,0,[]),(10,0,[]),(11,0,[]),(12,1,[]),(13,0,[]),(14,1,[]),(15,0,[]),(16,1,[]),(17,0,[]),(18,1,[]),(19,0,[]),(20,0,[]),(21,1,[]),(22,0,[]),(23,2,[]),(24,0,[]),(25,0,[])] (by kernel_rfl) (by kernel_rfl) (by simp only [picked,nth];exact rfl) ?_
 refine zg30 ?_
 refine Ops.callB (grant_spec B0 qb s.att g rc sp s.rows y1 o3 c.job c.badge (2 + c.slot) c.life hj r hr ⟨m1,by omega⟩) hB rfl (noPd rfl) rfl rfl rfl (fun v A' hR=>?_)
 rcases hR with ⟨hno,⟨e,he,rfl⟩,rfl⟩|⟨t1,t2,t3,rfl,rfl⟩
 ·rw [if_pos (by
   rcases hno with q|q|q
   ·exact .inl q
   ·unfold badgeOk at q
    by_cases q1:1 ≤ c.badge ∧ c.badge ≤ 1099511627776
    ·refine .inr (.inr (.inl ?_))
     cases q2:s.rows.any (fun q=>decide (c.badge ≤ q.badge)) with
     | true=>rfl
     | false=>exact absurd ⟨q1,q2⟩ q
    ·exact .inr (.inl q1)
   ·exact .inr (.inr (.inr (by rw [q];simp))))]
  refine zg29 ?_
  exact Cd.ret (ret1 (A':=StB sb qb s.res (.slice pa s.progs.length pc) (.slice la s.logs.length lc) :: QuB qb s.att (.slice (some ⟨g,0,none⟩) s.rows.length rc) :: ([(g,cl ((s.rows.map Rw.row).flatten ++ sp) 98)] ++ (PG ++ (LG ++ ls.flatMap Lg.G)))) rfl (Res.tmp rfl) (fun _ h=>h.split) ⟨rfl,qb,_,_,_,PG,_,LG,ls,rfl,y1,y2,y3,y4,y5⟩)
 ·rw [if_neg (by
   rintro (q|q|q|q)
   ·exact q t1
   ·exact q t2.1
   ·rw [t2.2] at q;cases q
   ·exact q t3)]
  obtain ⟨lg,lc',lsp,hlv,rfl,hlsp,hlle⟩:=Own.some_ y3 (by rw [hlen];omega)
  injection hlv with w1 w2 w3
  subst w1
  have hil:(c.job - 1).toNat < ls.length:=by rw [List.length_map] at hlen;omega
  obtain ⟨x,hx2⟩:∃ x,ls[(c.job - 1).toNat]? = some x:=⟨_,List.getElem?_eq_getElem hil⟩
  have hlt':c.job - 1 < ((s.logs.length:Nat):Int):=by omega
  have hxr:(ls.map Lg.row)[(c.job - 1).toNat]? = some x.row:=by rw [List.getElem?_map,hx2];rfl
  refine zg19 ?_
  refine Cd.draw [(0,0,[]),(1,0,[]),(2,0,[]),(3,1,[]),(4,0,[]),(5,1,[]),(6,0,[]),(7,0,[]),(8,2,[])] (by kernel_rfl) (by kernel_rfl) (by simp only [picked,nth];exact rfl) ?_
  refine zg37 ?_
  refine Ops.stRow1 (i:=(c.job - 1).toNat) (o:=0) rfl rfl rfl rfl rfl (lgs_ok ls) hxr rfl (noPd rfl) ?_
  rw [show (ls.map Lg.row).set (c.job - 1).toNat (x.row.set 0 (.slice none 0 0)) = (ls.set (c.job - 1).toNat (⟨none,0,[],[]⟩:Lg)).map Lg.row from lset (q:=⟨none,0,[],[]⟩)]
  refine zg3 ?_
  refine Cd.ret (ret1 (A':=StB sb qb s.res (.slice pa s.progs.length pc) (.slice (some ⟨lg,0,none⟩) s.logs.length lc) :: QuB qb s.att (.slice (some ⟨g,0,none⟩) s.rows.length rc) :: ([(g,cl (((s.rows.set (c.job - 1).toNat (r.give c.badge (2 + c.slot) c.life)).map Rw.row).flatten ++ sp) 98)] ++ (PG ++ ([(lg,cl (((ls.set (c.job - 1).toNat (⟨none,0,[],[]⟩:Lg)).map Lg.row).flatten ++ lsp) 67)] ++ (ls.set (c.job - 1).toNat (⟨none,0,[],[]⟩:Lg)).flatMap Lg.G)))) rfl (Res.tmp rfl) (fun w h=>?_) ⟨rfl,qb,_,_,_,PG,_,_,ls.set (c.job - 1).toNat (⟨none,0,[],[]⟩:Lg),rfl,own_set y1,y2,own_setL y3,fun z hz=>?_,?_⟩)
  ·have h2:Sat _ ((StB sb qb s.res (.slice pa s.progs.length pc) (.slice (some ⟨lg,0,none⟩) s.logs.length lc) :: QuB qb s.att (.slice (some ⟨g,0,none⟩) s.rows.length rc) :: ([(g,cl (((s.rows.set (c.job - 1).toNat (r.give c.badge (2 + c.slot) c.life)).map Rw.row).flatten ++ sp) 98)] ++ (PG ++ ([(lg,cl (((ls.set (c.job - 1).toNat (⟨none,0,[],[]⟩:Lg)).map Lg.row).flatten ++ lsp) 67)] ++ ls.flatMap Lg.G))))) w:=h.split
   have h3:=sat_drop (X:=StB sb qb s.res (.slice pa s.progs.length pc) (.slice (some ⟨lg,0,none⟩) s.logs.length lc) :: QuB qb s.att (.slice (some ⟨g,0,none⟩) s.rows.length rc) :: ([(g,cl (((s.rows.set (c.job - 1).toNat (r.give c.badge (2 + c.slot) c.life)).map Rw.row).flatten ++ sp) 98)] ++ (PG ++ [(lg,cl (((ls.set (c.job - 1).toNat (⟨none,0,[],[]⟩:Lg)).map Lg.row).flatten ++ lsp) 67)]))) (g:=x.G) (r:=(ls.set (c.job - 1).toNat (⟨none,0,[],[]⟩:Lg)).flatMap Lg.G) (w:=w) (B:=B.plain) (by
    refine h2.perm ?_
    simp only [List.cons_append,List.append_assoc,List.nil_append]
    refine List.Perm.cons _ (List.Perm.cons _ (List.Perm.cons _ (List.Perm.append_left _ (List.Perm.cons _ (flat_take hx2 rfl)))))
    )
   simpa only [List.cons_append,List.append_assoc,List.nil_append] using h3
  ·rcases List.mem_or_eq_of_mem_set hz with hz|rfl
   ·exact y4 z hz
   ·exact Own.none
  ·show (ls.set (c.job - 1).toNat (⟨none,0,[],[]⟩:Lg)).map Lg.txs = s.logs.set (c.job - 1).toNat []
   rw [List.map_set,y5]
end Go.Proofs.YtaecdnfkcebbeaaGreat
