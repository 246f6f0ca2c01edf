import Derived.Test.YtkoelgkghijgiaaGreatA17
import Derived.Test.YtkoelgkghijgiaaGreatA16
import Derived.Test.YtkoelgkghijgiaaGreatA04
import Derived.Test.YtkoelgkghijgiaaGreatA01
set_option linter.unusedVariables false
set_option linter.unusedSimpArgs false
namespace Go.Proofs.YtkoelgkghijgiaaGreat
open Go Go.Sep Go.Proofs Go.Proofs.Tryz
instance wy1 :Ty prog 142 true 4 40 [.string ⟨#[]⟩,.int .i64 0,.int .i64 0,.int .i64 0]:=⟨⟨_,underlying142,rfl⟩,by kernel_rfl⟩
instance wy2 :FOff prog 142 0 0 1:=⟨⟨_,_,underlying142,rfl,by kernel_rfl,by decide,rfl⟩⟩
instance wy3 :FOff prog 142 1 1 1:=⟨⟨_,_,underlying142,rfl,by kernel_rfl,by decide,rfl⟩⟩
instance wy4 :FOff prog 142 2 2 1:=⟨⟨_,_,underlying142,rfl,by kernel_rfl,by decide,rfl⟩⟩
instance wy5 :FOff prog 142 3 3 1:=⟨⟨_,_,underlying142,rfl,by kernel_rfl,by decide,rfl⟩⟩
instance wy6 :Places prog 142 [(0,1),(1,1),(2,1),(3,1)]:=⟨by kernel_rfl⟩
instance wy7 :FnOk prog 28:=⟨⟨_,func28,by kernel_rfl,by kernel_rfl⟩⟩
instance wy8 :FnOk prog 59:=⟨⟨_,func59,by kernel_rfl,by kernel_rfl⟩⟩
instance wy9 :FnOk prog 60:=⟨⟨_,func60,by kernel_rfl,by kernel_rfl⟩⟩
instance wy10 :FnOk prog 61:=⟨⟨_,func61,by kernel_rfl,by kernel_rfl⟩⟩
instance wy11 :FnOk prog 62:=⟨⟨_,func62,by kernel_rfl,by kernel_rfl⟩⟩
instance wy12 :FnOk prog 100:=⟨⟨_,func100,by kernel_rfl,by kernel_rfl⟩⟩
instance wy13 :FnOk prog 101:=⟨⟨_,func101,by kernel_rfl,by kernel_rfl⟩⟩
instance wy14 :FnOk prog 162:=⟨⟨_,func162,by kernel_rfl,by kernel_rfl⟩⟩
end Go.Proofs.YtkoelgkghijgiaaGreat
namespace Go.Proofs.YtkoelgkghijgiaaGreat
open Go Go.Sep Go.Proofs
set_option maxRecDepth 10000
set_option maxHeartbeats 40000000
theorem numGo_most {b:ByteArray} {m1 m2:Nat} {o1 o2:Int}:∀ (k i p acc:Nat) {n q:Nat},numGo b m1 o1 k i p acc = .good n q → n ≤ m2 → numGo b m2 o2 k i p acc = .good n q
 | 0,_,_,_,n,q,h,_=>by cases h
 | k + 1,i,p,acc,n,q,h,hm=>by
  unfold numGo at h ⊢
  cases hc:b[p]? with
  | none=>rw [hc] at h;cases h
  | some c =>
   rw [hc] at h
   dsimp only at h ⊢
   split at h
   ·rename_i h1
    rw [if_pos h1];exact numGo_most k _ _ _ h hm
   ·rename_i h1
    rw [if_neg h1]
    split at h
    ·cases h
    ·rename_i h2
     rw [if_neg h2]
     split at h
     ·cases h
     ·injection h with h3 h4
      subst h3;subst h4
      rw [if_neg (by omega)]
theorem numGo_bad {b:ByteArray} {most:Nat} {over:Int} (ho:over ≠ 0):∀ (k i p acc:Nat) {er:Int},numGo b most over k i p acc = .bad er → er ≠ 0
 | 0,_,_,_,er,h=>by
  injection h with h
  omega
 | k + 1,i,p,acc,er,h=>by
  unfold numGo at h
  split at h
  ·injection h with h;omega
  ·split at h
   ·exact numGo_bad ho k _ _ _ h
   ·split at h
    ·injection h with h;omega
    ·split at h
     ·injection h with h;omega
     ·cases h
theorem numGo_cut {b:ByteArray} {most:Nat} {over:Int}:∀ (k i p acc:Nat),acc < 18446744073709551616 → numGo b most over k i p acc = match numGo b 18446744073709551615 1 k i p acc with
  | .bad e=>.bad e
  | .good n q=>if most < n then .bad over else .good n q
 | 0,_,_,_,_=>rfl
 | k + 1,i,p,acc,hacc=>by
  unfold numGo
  cases hc:b[p]? with
  | none=>rfl
  | some c =>
   dsimp only
   have h2:=accN_lt (c:=c.toNat) (i:=i) hacc
   by_cases h1:127 < c.toNat
   ·rw [if_pos h1,if_pos h1];exact numGo_cut k _ _ _ h2
   ·rw [if_neg h1,if_neg h1]
    by_cases h3:(0 < i ∧ c.toNat = 0) ∨ (i = 9 ∧ 1 < c.toNat)
    ·rw [if_pos h3,if_pos h3]
    ·rw [if_neg h3,if_neg h3,if_neg (show ¬ 18446744073709551615 < accN acc c.toNat i by omega)]
theorem rdNum_e {b:ByteArray} {most p:Nat} {e:Int} (he:e ≠ 0):rdNum b most p e = (0,p,e):=if_pos he
theorem rdText_e {b:ByteArray} {most p:Nat} {e:Int} (he:e ≠ 0):rdText b most p e = (.empty,p,e):=if_pos he
theorem rdBits_e {b:ByteArray} {p:Nat} {e:Int} (he:e ≠ 0):rdBits b p e = (0,p,e):=if_pos he
theorem rdNum_most {b:ByteArray} {m1 m2 p:Nat} {e:Int} (h:(rdNum b m1 p e).2.2 = 0) (hm:(rdNum b m1 p e).1 ≤ m2):rdNum b m2 p e = rdNum b m1 p e:=by
 by_cases he:e ≠ 0
 ·rw [rdNum_e he,rdNum_e he]
 ·unfold rdNum at h hm ⊢
  rw [if_neg he] at h hm
  rw [if_neg he,if_neg he]
  cases hn:numR b m1 21 p with
  | bad er =>
   rw [hn] at h
   exact absurd h (numGo_bad (by decide) _ _ _ _ hn)
  | good n q =>
   rw [hn] at hm
   have h2:numR b m2 21 p = .good n q:=numGo_most _ _ _ _ hn hm
   rw [h2]
theorem rdText_most {b:ByteArray} {m1 m2 p:Nat} {e:Int} (h:(rdText b m1 p e).2.2 = 0) (hm:(rdText b m1 p e).1.size ≤ m2):rdText b m2 p e = rdText b m1 p e:=by
 by_cases he:e ≠ 0
 ·rw [rdText_e he,rdText_e he]
 ·unfold rdText txR at h hm ⊢
  rw [if_neg he] at h hm
  rw [if_neg he,if_neg he]
  cases hn:numR b m1 23 p with
  | bad er =>
   rw [hn] at h
   exact absurd h (numGo_bad (by decide) _ _ _ _ hn)
  | good n q =>
   rw [hn] at hm h
   dsimp only at hm h
   by_cases hq:q + n ≤ b.size
   ·rw [if_pos hq] at hm
    have hm2:(b.extract q (q + n)).size ≤ m2:=hm
    rw [ByteArray.size_extract] at hm2
    have h2:numR b m2 23 p = .good n q:=numGo_most _ _ _ _ hn (by omega)
    rw [h2]
   ·rw [if_neg hq] at h
    exact absurd h (by show (20:Int) ≠ 0;decide)
theorem rdText_hi {b:ByteArray} {most p:Nat} {e:Int}:(rdText b most p e).1.size ≤ most:=by
 unfold rdText txR
 split
 ·exact Nat.zero_le _
 ·cases hn:numR b most 23 p with
  | bad er=>exact Nat.zero_le _
  | good n q =>
   have hle:n ≤ most:=numGo_le _ _ _ _ hn
   dsimp only
   by_cases hq:q + n ≤ b.size
   ·rw [if_pos hq]
    show (b.extract q (q + n)).size ≤ most
    rw [ByteArray.size_extract];omega
   ·rw [if_neg hq]
    exact Nat.zero_le _
def read7 (b:ByteArray) (ch:Int) (s:Ms × Nat × Int):Ms × Nat × Int :=
 if ch = 115 then (Wh.set s.1 ((rdNum b 1099511627776 s.2.1 s.2.2).1:Nat) .session,(rdNum b 1099511627776 s.2.1 s.2.2).2)
 else if ch = 110 then (Wh.set s.1 ((rdNum b 1099511627776 s.2.1 s.2.2).1:Nat) .number,(rdNum b 1099511627776 s.2.1 s.2.2).2)
 else if ch = 106 then (Wh.set s.1 ((rdNum b 1099511627776 s.2.1 s.2.2).1:Nat) .job,(rdNum b 1099511627776 s.2.1 s.2.2).2)
 else if ch = 98 then (Wh.set s.1 ((rdNum b 1099511627776 s.2.1 s.2.2).1:Nat) .badge,(rdNum b 1099511627776 s.2.1 s.2.2).2)
 else if ch = 105 then (Wh.set s.1 ((rdNum b 1099511627776 s.2.1 s.2.2).1:Nat) .index,(rdNum b 1099511627776 s.2.1 s.2.2).2)
 else if ch = 99 then (Wh.set s.1 ((rdNum b 1099511627776 s.2.1 s.2.2).1:Nat) .count,(rdNum b 1099511627776 s.2.1 s.2.2).2)
 else if ch = 114 then ({ s.1 with rcode:=((rdNum b 1099511627776 s.2.1 s.2.2).1:Nat),rbits:=((rdBits b (rdNum b 1099511627776 s.2.1 s.2.2).2.1 (rdNum b 1099511627776 s.2.1 s.2.2).2.2).1:Nat) },(rdBits b (rdNum b 1099511627776 s.2.1 s.2.2).2.1 (rdNum b 1099511627776 s.2.1 s.2.2).2.2).2)
 else if ch = 116 then (Th.set s.1 (rdText b 2048 s.2.1 s.2.2).1 .text,(rdText b 2048 s.2.1 s.2.2).2)
 else if ch = 112 then (Th.set s.1 (rdText b 2048 s.2.1 s.2.2).1 .prog,(rdText b 2048 s.2.1 s.2.2).2)
 else s
def rd7 (b:ByteArray) (l:List Int) (s:Ms × Nat × Int):Ms × Nat × Int:=l.foldl (fun s ch=>read7 b ch s) s
def rdF (b:ByteArray) (fds:List Fd) (s:Ms × Nat × Int):Ms × Nat × Int:=fds.foldl (fun s fd=>fd.read b s) s
def Wh.ch:Wh → Int
 | .session=>115|.number=>110|.job=>106|.badge=>98|.index=>105|.count=>99
theorem read7_whole (b:ByteArray) (w:Wh) (s:Ms × Nat × Int):read7 b w.ch s = (w.set s.1 ((rdNum b 1099511627776 s.2.1 s.2.2).1:Nat),(rdNum b 1099511627776 s.2.1 s.2.2).2):=by
 cases w <;> simp [read7,Wh.ch]
theorem read7_114 (b:ByteArray) (s:Ms × Nat × Int):read7 b 114 s = ({ s.1 with rcode:=((rdNum b 1099511627776 s.2.1 s.2.2).1:Nat),rbits:=((rdBits b (rdNum b 1099511627776 s.2.1 s.2.2).2.1 (rdNum b 1099511627776 s.2.1 s.2.2).2.2).1:Nat) },(rdBits b (rdNum b 1099511627776 s.2.1 s.2.2).2.1 (rdNum b 1099511627776 s.2.1 s.2.2).2.2).2):=by simp [read7]
theorem read7_116 (b:ByteArray) (s:Ms × Nat × Int):read7 b 116 s = (Th.set s.1 (rdText b 2048 s.2.1 s.2.2).1 .text,(rdText b 2048 s.2.1 s.2.2).2):=by simp [read7]
theorem read7_112 (b:ByteArray) (s:Ms × Nat × Int):read7 b 112 s = (Th.set s.1 (rdText b 2048 s.2.1 s.2.2).1 .prog,(rdText b 2048 s.2.1 s.2.2).2):=by simp [read7]
theorem read7_err {b:ByteArray} {ch:Int} {s:Ms × Nat × Int} (h:s.2.2 ≠ 0):(read7 b ch s).2.2 ≠ 0:=by
 unfold read7
 (repeat' split)
 all_goals (try simp only [rdNum_e h,rdText_e h,rdBits_e h])
 all_goals exact h
theorem rd7_err {b:ByteArray}:∀ (l:List Int) {s:Ms × Nat × Int},s.2.2 ≠ 0 → (rd7 b l s).2.2 ≠ 0
 | [],s,h=>h
 | ch :: l,s,h=>rd7_err l (s:=read7 b ch s) (read7_err h)
theorem readF_err {b:ByteArray} {fd:Fd} {s:Ms × Nat × Int} (h:s.2.2 ≠ 0):(fd.read b s).2.2 ≠ 0:=by
 cases fd with
 | whole w lo hi=>show (rdNum b 1099511627776 s.2.1 s.2.2).2.2 ≠ 0;rw [rdNum_e h];exact h
 | text t lo hi=>show (rdText b hi s.2.1 s.2.2).2.2 ≠ 0;rw [rdText_e h];exact h
 | result =>
  show (rdBits b (rdNum b 7 s.2.1 s.2.2).2.1 (rdNum b 7 s.2.1 s.2.2).2.2).2.2 ≠ 0
  rw [rdNum_e h,rdBits_e h];exact h
theorem rdF_err {b:ByteArray}:∀ (l:List Fd) {s:Ms × Nat × Int},s.2.2 ≠ 0 → (rdF b l s).2.2 ≠ 0
 | [],s,h=>h
 | fd :: l,s,h=>rdF_err l (s:=fd.read b s) (readF_err h)
theorem read7_keep {b:ByteArray} {ch:Int} {s:Ms × Nat × Int}:(read7 b ch s).1.kind = s.1.kind ∧ (ch ≠ 116 → (read7 b ch s).1.text = s.1.text) ∧ (ch ≠ 112 → (read7 b ch s).1.prog = s.1.prog) ∧ (ch ≠ 114 → (read7 b ch s).1.rcode = s.1.rcode):=by
 unfold read7
 (repeat' split) <;> refine ⟨rfl,fun h=>?_,fun h=>?_,fun h=>?_⟩ <;> first|rfl|(exfalso;omega)
theorem rd7_keep {b:ByteArray}:∀ (l:List Int) (s:Ms × Nat × Int),(rd7 b l s).1.kind = s.1.kind ∧ (116 ∉ l → (rd7 b l s).1.text = s.1.text) ∧ (112 ∉ l → (rd7 b l s).1.prog = s.1.prog) ∧ (114 ∉ l → (rd7 b l s).1.rcode = s.1.rcode)
 | [],s=>⟨rfl,fun _=>rfl,fun _=>rfl,fun _=>rfl⟩
 | ch :: l,s=>by
  obtain ⟨h1,h2,h3,h4⟩:=rd7_keep l (read7 b ch s)
  obtain ⟨g1,g2,g3,g4⟩:=read7_keep (b:=b) (ch:=ch) (s:=s)
  refine ⟨h1.trans g1,fun h=>?_,fun h=>?_,fun h=>?_⟩ <;> rw [List.mem_cons,not_or] at h
  ·exact (h2 h.2).trans (g2 fun e=>h.1 e.symm)
  ·exact (h3 h.2).trans (g3 fun e=>h.1 e.symm)
  ·exact (h4 h.2).trans (g4 fun e=>h.1 e.symm)
theorem rdF_kind {b:ByteArray}:∀ (l:List Fd) (s:Ms × Nat × Int),(rdF b l s).1.kind = s.1.kind
 | [],s=>rfl
 | fd :: l,s=>(rdF_kind l (fd.read b s)).trans (by
  cases fd with
  | whole w lo hi=>cases w <;> rfl
  | text t lo hi=>cases t <;> rfl
  | result=>rfl)
def FdL:Fd → Int → Prop
 | .whole w _ _,ch=>ch = w.ch
 | .text .text _ hi,ch=>ch = 116 ∧ hi = 32
 | .text .prog _ hi,ch=>ch = 112 ∧ hi = 1024
 | .result,ch=>ch = 114
inductive FdLs:List Fd → List Int → Prop where
 | nil:FdLs [] []
 | cons {fd:Fd} {ch:Int} {fds:List Fd} {l:List Int}:FdL fd ch → FdLs fds l → FdLs (fd :: fds) (ch :: l)
theorem rdBits_zero {b:ByteArray} {p:Nat} {e:Int} (h:(rdBits b p e).2.2 = 0):e = 0:=Decidable.by_contra fun he=>by
 rw [rdBits_e he] at h
 exact he h
theorem step_ab {b:ByteArray} {fd:Fd} {ch:Int} {s:Ms × Nat × Int} (h:FdL fd ch) (h1:(fd.read b s).2.2 = 0):read7 b ch s = fd.read b s:=by
 cases fd with
 | whole w lo hi =>
  have h:ch = w.ch:=h
  rw [h,read7_whole];rfl
 | text t lo hi =>
  have h1:(rdText b hi s.2.1 s.2.2).2.2 = 0:=h1
  have hsz:(rdText b hi s.2.1 s.2.2).1.size ≤ hi:=rdText_hi
  cases t
  ·obtain ⟨rfl,rfl⟩:ch = 116 ∧ hi = 32:=h
   rw [read7_116,rdText_most h1 (by omega)];rfl
  ·obtain ⟨rfl,rfl⟩:ch = 112 ∧ hi = 1024:=h
   rw [read7_112,rdText_most h1 (by omega)];rfl
 | result =>
  have h:ch = 114:=h
  have h2:(rdNum b 7 s.2.1 s.2.2).2.2 = 0:=rdBits_zero h1
  have h3:(rdNum b 7 s.2.1 s.2.2).1 ≤ 7:=rdNum_le
  rw [h,read7_114,rdNum_most h2 (by omega)];rfl
theorem step_ba {b:ByteArray} {fd:Fd} {ch:Int} {s:Ms × Nat × Int} (h:FdL fd ch) (h1:(read7 b ch s).2.2 = 0) (ht:ch = 116 → (read7 b ch s).1.text.size ≤ 32) (hp:ch = 112 → (read7 b ch s).1.prog.size ≤ 1024) (hr:ch = 114 → (read7 b ch s).1.rcode ≤ 7):fd.read b s = read7 b ch s:=by
 cases fd with
 | whole w lo hi =>
  have h:ch = w.ch:=h
  rw [h,read7_whole];rfl
 | text t lo hi =>
  cases t
  ·obtain ⟨rfl,rfl⟩:ch = 116 ∧ hi = 32:=h
   have ht:=ht rfl
   rw [read7_116] at h1 ht ⊢
   show (Th.set s.1 (rdText b 32 s.2.1 s.2.2).1 .text,(rdText b 32 s.2.1 s.2.2).2) = _
   rw [rdText_most h1 ht]
  ·obtain ⟨rfl,rfl⟩:ch = 112 ∧ hi = 1024:=h
   have hp:=hp rfl
   rw [read7_112] at h1 hp ⊢
   show (Th.set s.1 (rdText b 1024 s.2.1 s.2.2).1 .prog,(rdText b 1024 s.2.1 s.2.2).2) = _
   rw [rdText_most h1 hp]
 | result =>
  have h:ch = 114:=h
  subst h
  have hr:=hr rfl
  rw [read7_114] at h1 hr ⊢
  have h2:(rdNum b 1099511627776 s.2.1 s.2.2).2.2 = 0:=rdBits_zero h1
  have hr2:(((rdNum b 1099511627776 s.2.1 s.2.2).1:Nat):Int) ≤ 7:=hr
  show ({ s.1 with rcode:=((rdNum b 7 s.2.1 s.2.2).1:Nat),rbits:=((rdBits b (rdNum b 7 s.2.1 s.2.2).2.1 (rdNum b 7 s.2.1 s.2.2).2.2).1:Nat) },(rdBits b (rdNum b 7 s.2.1 s.2.2).2.1 (rdNum b 7 s.2.1 s.2.2).2.2).2) = _
  rw [rdNum_most (m2:=7) h2 (by omega)]
structure Bd7 (m:Ms):Prop where
 t:m.text.size ≤ 32
 p:m.prog.size ≤ 1024
 r:m.rcode ≤ 7
theorem fold_ab {b:ByteArray}:∀ {fds:List Fd} {l:List Int},FdLs fds l → ∀ (s:Ms × Nat × Int),(rdF b fds s).2.2 = 0 → rd7 b l s = rdF b fds s
 | _,_,.nil,s,_=>rfl
 | _,_,.cons (fd:=fd) (ch:=ch) (fds:=fds) (l:=l) h hr,s,he=>by
  have he':(rdF b fds (fd.read b s)).2.2 = 0:=he
  have h1:(fd.read b s).2.2 = 0:=Decidable.by_contra fun q=>rdF_err fds q he'
  have h2:read7 b ch s = fd.read b s:=step_ab h h1
  show rd7 b l (read7 b ch s) = rdF b fds (fd.read b s)
  rw [h2];exact fold_ab hr _ he'
theorem fold_ba {b:ByteArray}:∀ {fds:List Fd} {l:List Int},FdLs fds l → l.Nodup → ∀ (s:Ms × Nat × Int),(rd7 b l s).2.2 = 0 → Bd7 (rd7 b l s).1 → rdF b fds s = rd7 b l s
 | _,_,.nil,_,s,_,_=>rfl
 | _,_,.cons (fd:=fd) (ch:=ch) (fds:=fds) (l:=l) h hr,hn,s,he,hb=>by
  obtain ⟨n1,n2⟩:=List.nodup_cons.1 hn
  have he':(rd7 b l (read7 b ch s)).2.2 = 0:=he
  have hb':Bd7 (rd7 b l (read7 b ch s)).1:=hb
  have h1:(read7 b ch s).2.2 = 0:=Decidable.by_contra fun q=>rd7_err l q he'
  obtain ⟨_,k1,k2,k3⟩:=rd7_keep (b:=b) l (read7 b ch s)
  have h2:fd.read b s = read7 b ch s:=step_ba h h1 (fun e=>by rw [← k1 (e ▸ n1)];exact hb'.t) (fun e=>by rw [← k2 (e ▸ n1)];exact hb'.p) (fun e=>by rw [← k3 (e ▸ n1)];exact hb'.r)
  show rdF b fds (fd.read b s) = rd7 b l (read7 b ch s)
  rw [h2];exact fold_ba hr n2 _ he' hb'
theorem readG_fold {b:ByteArray} {fds:List Fd} {s:Ms × Nat × Int}:∀ i,i ≤ fds.length → readG b fds s i = rdF b (fds.take i) s
 | 0,_=>rfl
 | i + 1,h=>by
  have hg:=List.getElem?_eq_getElem (show i < fds.length by omega)
  generalize fds[i] = fd at hg
  have e1:readG b fds s (i + 1) = fd.read b (readG b fds s i):=by
   show (match fds[i]? with|none=>readG b fds s i|some fd=>fd.read b (readG b fds s i)) = _
   rw [hg]
  rw [e1,readG_fold i (by omega),List.take_add_one,hg]
  unfold rdF
  rw [List.foldl_append];rfl
theorem fields_letters {k:Int} (h0:1 ≤ k) (h1:k ≤ 16):FdLs (fieldsF k) (nmL k) ∧ (nmL k).Nodup:=by
 rcases kinds16 h0 h1 with rfl|rfl|rfl|rfl|rfl|rfl|rfl|rfl|rfl|rfl|rfl|rfl|rfl|rfl|rfl|rfl
 all_goals
  refine ⟨?_,by decide⟩
  simp [fieldsF,nmL,nmT]
  repeat (first|exact FdLs.nil|refine FdLs.cons (by first|exact rfl|exact ⟨rfl,rfl⟩) ?_)
theorem named_bd {m:Ms} (hw:wcheckF m = 0):Bd7 m:=by
 have h:check7F m = 0:=by rw [check7_eq];exact hw
 have hk:¬ (m.kind < 1 ∨ 16 < m.kind):=fun q=>by unfold wcheckF at hw;rw [if_pos q] at hw;cases hw
 have he:r7e m = true:=by
  unfold check7F at h
  rw [if_neg (fun q=>hk (nm_none.1 q))] at h
  cases hr:r7e m with
  | true=>rfl
  | false=>rw [hr] at h;cases h
 simp only [r7e,r7d,r7c,r7b,r7a,Bool.and_eq_true] at he
 obtain ⟨_,_,⟨_,e7,e8,e9⟩⟩:=he
 have hr:∀ {f n lo hi:Int},rightF m.kind f n lo hi = true → n = 0 ∨ (lo ≤ n ∧ n ≤ hi):=fun {f n lo hi} hr=>by
  unfold rightF at hr
  split at hr
  ·rw [Bool.and_eq_true,decide_eq_true_iff,decide_eq_true_iff] at hr;exact .inr hr
  ·exact .inl (of_decide_eq_true hr)
 have b7:=hr e7
 have b8:=hr e8
 have b9:=hr e9
 exact ⟨by omega,by omega,by omega⟩
def dec7R (b:ByteArray):Ms × Nat × Int:=rd7 b (nmL ((rdNum b 16 0 0).1:Nat)) (readK b)
def dec7F (b:ByteArray):Ms × Int:=if 2048 < b.size then (Ms.zero,73) else if (endF b (dec7R b).2.1 (dec7R b).2.2).1 = 0 ∧ wcheckF (dec7R b).1 = 0 then ((dec7R b).1,0) else (Ms.zero,72)
theorem end_zero {b:ByteArray} {p:Nat} {e:Int} (h:(endF b p e).1 = 0):e = 0:=by
 unfold endF at h
 split at h
 ·cases h
 ·unfold faultF at h
  split at h
  ·assumption
  ·exact h
theorem dec7_eq (b:ByteArray):dec7F b = decF b:=by
 unfold dec7F decF
 by_cases hb:2048 < b.size
 ·rw [if_pos hb,if_pos hb]
 rw [if_neg hb,if_neg hb]
 have hk:(rdNum b 16 0 0).1 ≤ 16:=rdNum_le
 have hm:readM b = rdF b (fieldsF ((rdNum b 16 0 0).1:Nat)) (readK b):=by
  unfold readM
  rw [readG_fold _ (Nat.le_refl _),List.take_length]
 have hkd:(readK b).1.kind = ((rdNum b 16 0 0).1:Nat):=rfl
 by_cases h0:(rdNum b 16 0 0).1 = 0
 ·have z:∀ {m:Ms},m.kind = 0 → wcheckF m ≠ 0:=fun {m} h=>by
   unfold wcheckF
   rw [if_pos (by omega)];decide
  have e1:wcheckF (readM b).1 ≠ 0:=z (by rw [hm,rdF_kind,hkd,h0];rfl)
  have e2:wcheckF (dec7R b).1 ≠ 0:=z (by unfold dec7R;rw [(rd7_keep _ _).1,hkd,h0];rfl)
  rw [if_neg (fun q=>e2 q.2),if_neg (fun q=>e1 q.2)]
 obtain ⟨hL,hN⟩:=fields_letters (k:=((rdNum b 16 0 0).1:Nat)) (by omega) (by omega)
 by_cases g:(endF b (readM b).2.1 (readM b).2.2).1 = 0 ∧ wcheckF (readM b).1 = 0
 ·have e:dec7R b = readM b:=by
   unfold dec7R
   rw [hm]
   exact fold_ab hL _ (by rw [← hm];exact end_zero g.1)
  rw [e]
 ·by_cases g':(endF b (dec7R b).2.1 (dec7R b).2.2).1 = 0 ∧ wcheckF (dec7R b).1 = 0
  ·exfalso
   have e:readM b = dec7R b:=by
    rw [hm]
    exact fold_ba hL hN _ (end_zero g'.1) (named_bd g'.2)
   rw [e] at g
   exact g g'
  ·rw [if_neg g',if_neg g]
end Go.Proofs.YtkoelgkghijgiaaGreat
namespace Go.Sep
open Go
section
variable {P:Program} {N:Fi} {B:Base} {Q:Exit → Act → World → Prop} {T:Tm} {A:List Blk} {ops:Array Oper} {l:List Oper}
variable {d:Nat} {ty:TypeId} {pos:String} {af:Array Edge} {m:Md} {gd:Option (Nat × Bool)}
theorem Ops.remU8 {t t':TypeId} {x y:Operand} {a b:Nat} (hm:m.rd true = true) (hg:gst ops T gd = some true) (hx:ev T x = some (.int .u8 a)) (hy:ev T y = some (.int .u8 b)) (hb:b ≠ 0) (hd:Nat.blt d N.n = true)
  (k:Ops P N B Q ops m.tl l ((d,.int .u8 ((a % b:Nat):Int)) :: T) A):Ops P N B Q ops m (⟨some d,.binOp .rem t x y t',ty,pos,af,gd⟩ :: l) T A :=
 Ops.pureV hm hg hd (fun a' w hF=>by
  have h3:((a:Int)).tmod (b:Int) = (a:Int) % (b:Int):=rfl
  simp [execOp,hF.eval hx,hF.eval hy,eqGuard,binOp,Op.intDiv,hb,h3]) k
theorem Ops.mk0 {t e:TypeId} {ge:Bool} {x y:Operand} {bs:Nat} {z:Value} {i:Int} {k1 k2:IntKind} (hm:m.eff = true) (hg:gst ops T gd = some true) [ht:TyD P t (.slice e)] [he:Ty P e ge 1 bs [z]] (hx:ev T x = some (.int k1 0)) (hy:ev T y = some (.int k2 i)) (h0:0 < i) (h1:i ≤ 1048576) (hb:bs ≤ 65536) (hd:Nat.blt d N.n = true)
  (hp:Pd P N B ops m T (some d) (NewR (fun b=>.slice (some ⟨b,0,none⟩) 0 i.toNat) (cl (List.replicate i.toNat z) e) A)) (k:∀ b,Ops P N B Q ops m.tl l ((d,.slice (some ⟨b,0,none⟩) 0 i.toNat) :: T) ((b,cl (List.replicate i.toNat z) e) :: A)):Ops P N B Q ops m (⟨some d,.makeSlice t x y,ty,pos,af,gd⟩ :: l) T A :=
 Ops.new (v:=fun b=>.slice (some ⟨b,0,none⟩) 0 i.toNat) hm hp hg hd (fun a w hF hS=>by
  obtain ⟨zv,hz,hzc⟩:=he.run_zero (w:=w)
  obtain ⟨i3,hi3,his3,hib3⟩:=he.run_info (w:=w)
  obtain ⟨n,rfl⟩:∃ n:Nat,i = n:=⟨i.toNat,by omega⟩
  have wl:IntKind.i64.wrap (n:Int) = n:=by simp [IntKind.wrap,IntKind.bits,IntKind.signed];omega
  have w0:IntKind.i64.wrap 0 = 0:=by decide
  have hnb:n * bs ≤ 1048576 * 65536:=Nat.mul_le_mul (by omega) hb
  have hnb':(bs:Int) * (n:Int) ≤ 68719476736:=by
   have:((n * bs:Nat):Int) ≤ ((1048576 * 65536:Nat):Int):=by exact_mod_cast hnb
   rw [Int.natCast_mul,Int.mul_comm] at this
   omega
  have n1:¬ ((n:Int) < 0):=by omega
  have n2:¬ (281474976710656 < (bs:Int) * (n:Int)):=by omega
  have n3:¬ (140737488355328 < n * bs):=by omega
  have hn0:n ≠ 0:=by omega
  simp [execOp,hF.eval hx,hF.eval hy,Instr.makeSlice,ht.run_und,asInt,asIntOf,hi3,his3,hib3,he.run_size,wl,w0,n1,n2,n3,newRow,askRoom,roomBytes,cl,hn0,hz,hzc]
  congr 2
  apply Array.ext
  ·simp
  ·intro q h1 h2;simp [Nat.mod_one]) k
end
end Go.Sep
namespace Go.Proofs.YtkoelgkghijgiaaGreat
open Go Go.Sep Go.Proofs Go.Proofs.Tryz
set_option maxRecDepth 10000
set_option maxHeartbeats 40000000
set_option synthInstance.maxSize 2000
@[reducible] def RgB (rb:Nat) (b:ByteArray) (p e a:Int):Blk:=(rb,cl [.string b,.int .i64 p,.int .i64 e,.int .i64 a] 142)
theorem rem128 {c:UInt8}:((c.toNat % 128:Nat):Int) = ((c.toNat &&& 127:Nat):Int):=by
 have:=Nat.and_two_pow_sub_one_eq_mod c.toNat 7
 rw [show c.toNat % 128 = c.toNat &&& 127 from this.symm]
structure FmS where
 i:Nat
 acc:Nat
def formV (b:ByteArray) (p:Nat):Value:=match numR b 18446744073709551615 1 p with
 | .bad e=>.tuple #[.int .u64 0,.int .i64 0,.int .i64 e]
 | .good n q=>.tuple #[.int .u64 n,.int .i64 q,.int .i64 0]
theorem form_spec (b:ByteArray) (p:Nat) (hp:p ≤ b.size) (hb:b.size ≤ 1000000):Con prog 162 #[.string b,.int .i64 p] [] fun v A=>v = formV b p ∧ A = []:=by
 refine zqI (vs:=[_,_]) func162 ntmps162 fun B=>?_
 refine zg1 ?_
 refine Cd.loopK (σ:=FmS) (fun s=>s.i ≤ 10 ∧ numR b 18446744073709551615 1 p = numGo b 18446744073709551615 1 (10 - s.i) s.i (p + s.i) s.acc ∧ s.acc < 18446744073709551616) (fun s=>[(0,.string b),(1,.int .i64 p),(7,.int .u64 s.acc),(8,.int .i64 s.i)]) (fun s=>[]) (fun s=>10 - s.i) ⟨0,0⟩ ⟨Nat.zero_le _,rfl,(by decide:(0:Nat) < 18446744073709551616)⟩ ⟨rfl,rfl,rfl,rfl,trivial⟩ (fun w h=>h.split) (fun s hs=>?_)
 obtain ⟨i,acc⟩:=s
 obtain ⟨hi,hR,hacc⟩:=hs
 dsimp only at hi hR hacc ⊢
 by_cases hi10:i = 10
 ·subst hi10
  have hbad:numR b 18446744073709551615 1 p = .bad 22:=hR
  refine zg4 ?_
  exact ze19
 have hi9:i ≤ 9:=by omega
 have hi':(i:Int) < 10:=by omega
 rw [show 10 - i = (9 - i) + 1 from by omega] at hR
 unfold numGo at hR
 generalize hcb:Code.seq (Code.block 1 _) _ = c1
 refine zg2 ?_
 subst hcb
 refine Cd.cut (σ:=Nat) (fun a2=>numR b 18446744073709551615 1 p = numGo b 18446744073709551615 1 (9 - i) (i + 1) (p + i + 1) a2 ∧ a2 < 18446744073709551616) (fun a2=>[(0,.string b),(1,.int .i64 p),(7,.int .u64 a2),(8,.int .i64 i)]) (fun _=>[]) ?_ (fun a2 h2=>?_)
 rotate_left
 ·obtain ⟨h2,h3⟩:=h2
  refine zg9 ?_
  exact Ops.nilN (round_end (⟨i + 1,a2⟩:FmS) ⟨by show i + 1 ≤ 10;omega,by show _ = numGo b _ _ (10 - (i + 1)) (i + 1) (p + (i + 1)) a2;rw [show 10 - (i + 1) = 9 - i from by omega];exact h2,h3⟩ (by show 10 - (i + 1) < 10 - i;omega) ⟨rfl,rfl,rfl,rfl,trivial⟩ (fun w h=>h.split))
 refine Cd.block ?_
 by_cases hsz:p + i < b.size
 rotate_left
 ·have hsz':(b.size:Int) ≤ (p:Int) + (i:Int):=by omega
  have hno:b[p + i]? = none:=by rw [getElem?_neg b (p + i) (by omega)]
  rw [hno] at hR
  have hbad:numR b 18446744073709551615 1 p = .bad 20:=hR
  refine zg16 ?_
  exact ze19
 have hsz':¬ (b.size:Int) ≤ (p:Int) + (i:Int):=by omega
 obtain ⟨c,hc⟩:∃ c,b[p + i]? = some c:=⟨_,getElem?_pos b (p + i) hsz⟩
 rw [hc] at hR
 dsimp only at hR
 have hc8:=UInt8.toNat_lt c
 have hc7:c.toNat &&& 127 < 18446744073709551616:=Nat.lt_of_le_of_lt Nat.and_le_left (by omega)
 have hacc2:accN acc c.toNat i < 18446744073709551616:=accN_lt hacc
 rw [show p + i = ((p:Int) + (i:Int)).toNat from by omega] at hc
 refine zg13 ?_
 refine Ops.ixS rfl rfl rfl rfl (by omega) hc rfl ?_
 refine zg0 ?_
 refine Ops.remU8 (b:=128) rfl rfl rfl rfl (by decide) rfl ?_
 refine Ops.cvI rfl rfl rfl rfl ?_
 rw [rem128,wrap_u64 hc7]
 refine zg17 ?_
 refine Ops.shlI rfl rfl rfl rfl (by omega) rfl ?_
 rw [shl_step hi9]
 refine Ops.bin rfl rfl rfl rfl rfl ?_
 rw [orI_u64 hacc (Nat.mod_lt _ (by decide))]
 rw [show acc ||| (c.toNat &&& 127) * 2 ^ (7 * i) % 18446744073709551616 = accN acc c.toNat i from rfl]
 generalize accN acc c.toNat i = acc2 at hR hacc2 ⊢
 by_cases h127:127 < c.toNat
 ·rw [if_pos h127] at hR
  have h127':(128:Int) ≤ c.toNat:=by omega
  refine zg2 ?_
  exact Cd.exit (inTx (inBs (meet_end (Q:=fun _ _ _=>True) acc2 ⟨hR,hacc2⟩ ⟨rfl,rfl,rfl,rfl,trivial⟩ (fun w h=>h.split))))
 rw [if_neg h127] at hR
 have h127':¬ (128:Int) ≤ c.toNat:=by omega
 by_cases hform:(0 < i ∧ c.toNat = 0) ∨ (i = 9 ∧ 1 < c.toNat)
 ·rw [if_pos hform] at hR
  have hbad:numR b 18446744073709551615 1 p = .bad 22:=hR
  rcases hform with ⟨f1,f2⟩|⟨f1,f2⟩
  ·have f1':(0:Int) < i:=by omega
   have f2':(c.toNat:Int) = 0:=by omega
   refine zg10 ?_
   exact ze19
  ·have f1':(i:Int) = 9:=by omega
   have f2':(1:Int) < (c.toNat:Int):=by omega
   have f3':¬ (c.toNat:Int) = 0:=by omega
   refine zg10 ?_
   exact ze19
 ·rw [if_neg hform,if_neg (show ¬ 18446744073709551615 < acc2 by omega)] at hR
  have fin:formV b p = .tuple #[.int .u64 (acc2:Nat),.int .i64 ((p + i + 1:Nat):Int),.int .i64 0]:=by unfold formV;rw [hR]
  by_cases g1:c.toNat = 0
  ·have g1':(c.toNat:Int) = 0:=by omega
   have g2:i = 0:=by omega
   subst g2
   refine zg10 ?_
   exact ze20
  ·have g1':¬ (c.toNat:Int) = 0:=by omega
   by_cases g2:i = 9
   ·have g2':(i:Int) = 9:=by omega
    have g3':¬ (1:Int) < (c.toNat:Int):=by omega
    refine zg10 ?_
    exact ze20
   ·have g2':¬ (i:Int) = 9:=by omega
    refine zg10 ?_
    exact ze20
theorem wrong2_spec (rb:Nat) (b:ByteArray) (p:Nat) (a er:Int):Con prog 101 #[ptr rb,.int .i64 er] [RgB rb b p 0 a] fun v A=>A = [RgB rb b p er p]:=by
 refine zqI (vs:=[_,_]) func101 ntmps101 fun B=>?_
 refine zg7 ?_
 exact Ops.nilN (end0 (A':=[RgB rb b p er p]) rfl (fun _ h=>h.split) rfl)
def nm7 (b:ByteArray) (most:Nat) (over:Int) (p:Nat) (e:Int):Nat × Nat × Int:=if e ≠ 0 then (0,p,e) else match numR b most over p with
 | .bad er=>(0,p,er)
 | .good n q=>(n,q,0)
theorem r2number_spec (rb:Nat) (b:ByteArray) (p:Nat) (e a:Int) (most:Nat) (over:Int) (ho:over ≠ 0) (hp:p ≤ b.size) (hb:b.size ≤ 1000000) (hmost:most < 18446744073709551616) :
  Con prog 100 #[ptr rb,.int .u64 most,.int .i64 over] [RgB rb b p e a] fun v A=>∃ a':Int,v = .tuple #[.int .u64 ((nm7 b most over p e).1:Nat),.int .i64 ((nm7 b most over p e).2.1:Nat)] ∧ A = [RgB rb b p (nm7 b most over p e).2.2 a']:=by
 refine zqI (vs:=[_,_,_]) func100 ntmps100 fun B=>?_
 by_cases he:e = 0
 rotate_left
 ·rw [show nm7 b most over p e = (0,p,e) from if_pos he]
  refine zg15 ?_
  refine zdr [qz 0,qz 1,qz 2,qy 3,qz 4,qz 5] ?_
  refine zg1 ?_
  exact Cd.ret (ret2 (A':=[RgB rb b p e a]) rfl (Res.tmp rfl) (Res.tmp rfl) (fun _ h=>h.split) ⟨a,rfl,rfl⟩)
 subst he
 have hcut:numR b most over p = match numR b 18446744073709551615 1 p with|.bad e=>.bad e|.good n q=>if most < n then .bad over else .good n q:=numGo_cut (b:=b) (most:=most) (over:=over) 10 0 p 0 (by decide)
 have hu:nm7 b most over p 0 = match numR b most over p with|.bad er=>(0,p,er)|.good n q=>(n,q,0):=if_neg (by simp)
 refine zg7 ?_
 refine zdr [qz 0,qz 1,qz 2,qy 3,qz 4,qz 5,qz 6,qy 7,(8,2,[]),qz 9,qz 10,qz 11,qz 12,qz 13,qz 14,qz 15] ?_
 refine zg5 ?_
 refine zqA (form_spec b p hp hb) fun v A' hR=>?_
 obtain ⟨rfl,rfl⟩:=hR
 unfold formV
 cases hM:numR b 18446744073709551615 1 p with
 | bad er =>
  have her:er ≠ 0:=numGo_bad (by decide) _ _ _ _ hM
  rw [hM] at hcut
  rw [hu,hcut]
  dsimp only
  refine zg15 ?_
  refine zqA (wrong2_spec rb b p a er) fun v A' hR=>?_
  subst hR
  refine zg0 ?_
  refine zdr [qz 0,qz 1,qz 2,qy 3,qz 4,qz 5] ?_
  refine zg1 ?_
  exact Cd.ret (ret2 (A':=[RgB rb b p er p]) rfl (Res.tmp rfl) (Res.tmp rfl) (fun _ h=>h.split) ⟨p,rfl,rfl⟩)
 | good n q =>
  rw [hM] at hcut
  dsimp only at hcut ⊢
  by_cases hov:most < n
  ·have hov':(most:Int) < (n:Int):=by omega
   rw [if_pos hov] at hcut
   rw [hu,hcut]
   dsimp only
   refine zg8 ?_
   refine zqA (wrong2_spec rb b p a over) fun v A' hR=>?_
   subst hR
   refine zg0 ?_
   refine zdr [qz 0,qz 1,qz 2,qy 3,qz 4,qz 5] ?_
   refine zg1 ?_
   exact Cd.ret (ret2 (A':=[RgB rb b p over p]) rfl (Res.tmp rfl) (Res.tmp rfl) (fun _ h=>h.split) ⟨p,rfl,rfl⟩)
  ·have hov':¬ (most:Int) < (n:Int):=by omega
   rw [if_neg hov] at hcut
   rw [hu,hcut]
   dsimp only
   refine zg8 ?_
   exact Cd.ret (ret2 (A':=[RgB rb b p 0 a]) rfl (Res.tmp rfl) (Res.tmp rfl) (fun _ h=>h.split) ⟨a,rfl,rfl⟩)
theorem r2num_rd (rb:Nat) (b:ByteArray) (p most:Nat) (e a:Int) (hp:p ≤ b.size) (hb:b.size ≤ 1000000) (hm:most ≤ 1099511627776) :
  Con prog 59 #[ptr rb,.int .u64 most] [RgB rb b p e a] fun v A=>∃ a':Int,v = .int .u64 ((rdNum b most p e).1:Nat) ∧ A = [RgB rb b ((rdNum b most p e).2.1:Nat) (rdNum b most p e).2.2 a']:=by
 refine zqI (vs:=[_,_]) func59 ntmps59 fun B=>?_
 have hu:rdNum b most p e = nm7 b most 21 p e:=rfl
 rw [hu]
 refine zg0 ?_
 refine zqA (r2number_spec rb b p e a most 21 (by decide) hp hb (by omega)) fun v A' hR=>?_
 obtain ⟨a',rfl,rfl⟩:=hR
 generalize nm7 b most 21 p e = r
 obtain ⟨n,q,e1⟩:=r
 dsimp only
 refine zg1 ?_
 exact Cd.ret (ret1 (A':=[RgB rb b q e1 a']) rfl (Res.tmp rfl) (fun _ h=>h.split) ⟨a',rfl,rfl⟩)
theorem r2text_rd (rb:Nat) (b:ByteArray) (p most:Nat) (e a:Int) (hp:p ≤ b.size) (hb:b.size ≤ 1000000) (hm:most ≤ 1000000) :
  Con prog 61 #[ptr rb,.int .i64 most] [RgB rb b p e a] fun v A=>∃ a':Int,v = .string (rdText b most p e).1 ∧ A = [RgB rb b ((rdText b most p e).2.1:Nat) (rdText b most p e).2.2 a']:=by
 refine zqI (vs:=[_,_]) func61 ntmps61 fun B=>?_
 refine zg4 ?_
 refine Ops.cvI rfl rfl rfl rfl ?_
 rw [wrap_u64 (by omega)]
 refine zqA (r2number_spec rb b p e a most 23 (by decide) hp hb (by omega)) fun v A' hR=>?_
 obtain ⟨a',rfl,rfl⟩:=hR
 by_cases he:e = 0
 rotate_left
 ·rw [rdText_e he,show nm7 b most 23 p e = (0,p,e) from if_pos he]
  dsimp only
  refine zg8 ?_
  exact Cd.ret (ret1 (A':=[RgB rb b p e a']) rfl (Res.tmp rfl) (fun _ h=>h.split) ⟨a',rfl,rfl⟩)
 subst he
 have hu:nm7 b most 23 p 0 = match numR b most 23 p with|.bad er=>(0,p,er)|.good n q=>(n,q,0):=if_neg (by simp)
 have ht:rdText b most p 0 = match txR b most p with|.inl er=>(.empty,p,er)|.inr (u,q)=>(u,q,0):=if_neg (by simp)
 unfold txR at ht
 rw [ht,hu]
 cases hn:numR b most 23 p with
 | bad er =>
  have her:er ≠ 0:=numGo_bad (by decide) _ _ _ _ hn
  dsimp only
  refine zg8 ?_
  exact Cd.ret (ret1 (A':=[RgB rb b p er a']) rfl (Res.tmp rfl) (fun _ h=>h.split) ⟨a',rfl,rfl⟩)
 | good n q =>
  have hq:q ≤ b.size:=numGo_at _ _ _ _ hn hp
  have hle:n ≤ most:=numGo_le _ _ _ _ hn
  dsimp only
  have hw:IntKind.wrap .u64 ((b.size:Int) - (q:Int)) = ((b.size - q:Nat):Int):=by
   rw [show (b.size:Int) - (q:Int) = ((b.size - q:Nat):Int) from by omega,wrap_u64 (by omega)]
  by_cases hlt:q + n ≤ b.size
  ·rw [if_pos hlt]
   have hlt':¬ ((b.size - q:Nat):Int) < (n:Int):=by omega
   dsimp only
   refine zg11 ?_
   refine Ops.cvI rfl rfl rfl rfl ?_
   rw [hw]
   refine zg8 ?_
   refine Ops.cvI rfl rfl rfl rfl ?_
   rw [wrap_i64 (by omega)]
   refine zg9 ?_
   refine zdr [qz 0,qz 1,qz 2,qy 3,qz 4,qz 5,qz 6,qz 7,qy 8,qz 9,qz 10] ?_
   refine zg5 ?_
   refine Ops.slS rfl rfl rfl rfl rfl (by omega) (by omega) (by omega) rfl ?_
   rw [show ((q:Nat):Int).toNat = q from by omega,show ((q:Int) + n).toNat = q + n from by omega,show (q:Int) + n = ((q + n:Nat):Int) from by omega]
   refine zg0 ?_
   exact Cd.ret (ret1 (A':=[RgB rb b ((q + n:Nat):Int) 0 a']) rfl (Res.tmp rfl) (fun _ h=>h.split) ⟨a',rfl,rfl⟩)
  ·rw [if_neg hlt]
   have hlt':((b.size - q:Nat):Int) < (n:Int):=by omega
   dsimp only
   refine zg11 ?_
   refine Ops.cvI rfl rfl rfl rfl ?_
   rw [hw]
   refine zg8 ?_
   refine zqA (wrong2_spec rb b p a' 20) fun v A' hR=>?_
   subst hR
   refine zg7 ?_
   exact ze21
theorem r2bits_rd (rb:Nat) (b:ByteArray) (p:Nat) (e a:Int) (hp:p ≤ b.size) (hb:b.size ≤ 1000000) :
  Con prog 60 #[ptr rb] [RgB rb b p e a] fun v A=>∃ a':Int,v = .int .u64 (((rdBits b p e).1:Nat):Int) ∧ A = [RgB rb b (((rdBits b p e).2.1:Nat):Int) (rdBits b p e).2.2 a']:=by
 refine zqI (vs:=[_]) func60 ntmps60 fun B=>?_
 by_cases he:e = 0
 rotate_left
 ·rw [rdBits_e he]
  refine zg0 ?_
  refine zdr [qz 0,qz 1,qz 2,qy 3,qz 4,qz 5,qz 6,qz 7,qz 8,qy 9,qz 10,qz 11,qz 12,qz 13,qy 14,qz 15,qz 16,qz 17] ?_
  refine zg8 ?_
  exact Cd.ret (ret1 (A':=[RgB rb b p e a]) rfl (Res.tmp rfl) (fun _ h=>h.split) ⟨a,rfl,rfl⟩)
 subst he
 by_cases hlt:p + 8 ≤ b.size
 rotate_left
 ·have hlt':(b.size:Int) - (p:Int) < 8:=by omega
  rw [show rdBits b p 0 = (0,p,20) from (if_neg (by simp)).trans (if_neg hlt)]
  refine zg0 ?_
  refine zdr [qz 0,qz 1,qz 2,qy 3,qz 4,qz 5,qz 6,qz 7,qz 8,qy 9,qz 10,qz 11,qz 12,qz 13,qy 14,qz 15,qz 16,qz 17] ?_
  refine zg14 ?_
  refine zqA (wrong2_spec rb b p a 20) fun v A' hR=>?_
  subst hR
  refine zg7 ?_
  exact ze21
 have hlt':¬ ((b.size:Int) - (p:Int) < 8):=by omega
 rw [show rdBits b p 0 = (ofn (b.extract p (p + 8)) 8,p + 8,0) from (if_neg (by simp)).trans (if_pos hlt)]
 have hbx:∀ i,i < 8 → bat (b.extract p (p + 8)) i = bat b (p + i):=fun i hi=>bat_extract (by omega) hlt
 generalize b.extract p (p + 8) = u at hbx ⊢
 refine zg0 ?_
 refine zdr [qz 0,qz 1,qz 2,qy 3,qz 4,qz 5,qz 6,qz 7,qz 8,qy 9,qz 10,qz 11,qz 12,qz 13,qy 14,qz 15,qz 16,qz 17] ?_
 refine zg10 ?_
 refine Cd.loopK (σ:=Nat) (fun i=>i ≤ 8) (fun i=>[(0,ptr rb),(3,.int .u64 ((ofn u i:Nat):Int)),(4,.int .i64 ((i:Nat):Int))]) (fun _=>[RgB rb b p 0 a]) (fun i=>8 - i) 0 (Nat.zero_le _) ⟨rfl,rfl,rfl,trivial⟩ (fun w h=>h.split) (fun i hi=>?_)
 by_cases hi8:i < 8
 ·have hi8':((i:Nat):Int) < 8:=by omega
  obtain ⟨c,hc⟩:∃ c,b[p + i]? = some c:=⟨_,getElem?_pos b (p + i) (by omega)⟩
  have hst:ofn u (i + 1) = ofn u i * 256 + c.toNat:=by
   show ofn u i * 256 + bat u i = _
   rw [hbx i hi8,bat_some hc]
  have ho:=ofn_lt u i
  have ho2:256 ^ i ≤ 256 ^ 7:=Nat.pow_le_pow_right (by decide) (by omega)
  have hbl:=UInt8.toNat_lt c
  rw [show p + i = ((p:Int) + (i:Int)).toNat from by omega] at hc
  refine zg2 ?_
  refine zdr [qz 0,qz 1,qz 2,qz 3,qz 4,qy 5,qz 6,qz 7,qz 8,qy 9,qz 10,qz 11,qz 12,qz 13,qz 14,(15,2,[])] ?_
  refine zg0 ?_
  refine Ops.shlI rfl rfl rfl rfl (by decide) rfl ?_
  rw [show (2:Int) ^ min (Int.toNat 8) (IntKind.bits .u64) = 2 ^ 8 from rfl]
  refine zg9 ?_
  refine Ops.ixS rfl rfl rfl rfl (by omega) hc rfl ?_
  refine Ops.cvI rfl rfl rfl rfl ?_
  rw [wrap_u64 (by omega)]
  refine zg13 ?_
  rw [ofn_step (by omega) hbl,← hst]
  exact ze22
 ·have hi8':¬ ((i:Nat):Int) < 8:=by omega
  have he:i = 8:=by omega
  subst he
  refine zg16 ?_
  exact Cd.ret (ret1 (A':=[RgB rb b ((p:Int) + 8) 0 a]) rfl (Res.tmp rfl) (fun _ h=>h.split) ⟨a,rfl,rfl⟩)
theorem r2end_rd (rb:Nat) (b:ByteArray) (p:Nat) (e a:Int):Con prog 62 #[ptr rb] [RgB rb b p e a] fun v A=>(∃ a':Int,v = .tuple #[.int .i64 (endF b p e).1,.int .i64 a']) ∧ A = [RgB rb b p e a]:=by
 refine zqI (vs:=[_]) func62 ntmps62 fun B=>?_
 unfold endF faultF
 by_cases he:e = 0
 ·by_cases hlt:p < b.size
  ·have hlt':(p:Int) < b.size:=by omega
   rw [if_pos ⟨he,hlt⟩]
   refine zg0 ?_
   refine zdr [qz 0,qz 1,qz 2,qy 3,qz 4,qz 5,qz 6,qz 7,qz 8,qy 9,qz 10,qz 11,qz 12,qy 13,qz 14,qz 15,qz 16] ?_
   refine zg14 ?_
   refine zdr [qz 0,qz 1,qz 2,qy 3,qz 4,qz 5] ?_
   refine zg1 ?_
   exact ze23
  ·have hlt':¬ (p:Int) < b.size:=by omega
   rw [if_neg (fun h=>hlt h.2),if_pos he]
   subst he
   refine zg0 ?_
   refine zdr [qz 0,qz 1,qz 2,qy 3,qz 4,qz 5,qz 6,qz 7,qz 8,qy 9,qz 10,qz 11,qz 12,qy 13,qz 14,qz 15,qz 16] ?_
   refine zg8 ?_
   refine zdr [qz 0,qz 1,qz 2,qy 3,qz 4,qz 5,qz 6,qy 7,qz 8,qz 9] ?_
   refine zg1 ?_
   exact Cd.ret (ret2 (A':=[RgB rb b p 0 a]) rfl (Res.tmp rfl) (Res.tmp rfl) (fun _ h=>h.split) ⟨⟨_,rfl⟩,rfl⟩)
 ·rw [if_neg (fun h=>he h.1),if_neg he]
  refine zg0 ?_
  refine zdr [qz 0,qz 1,qz 2,qy 3,qz 4,qz 5,qz 6,qz 7,qz 8,qy 9,qz 10,qz 11,qz 12,qy 13,qz 14,qz 15,qz 16] ?_
  refine zg8 ?_
  refine zdr [qz 0,qz 1,qz 2,qy 3,qz 4,qz 5,qz 6,qy 7,qz 8,qz 9] ?_
  refine zg1 ?_
  exact ze23
theorem read7_ok {b:ByteArray} {ch:Int} {s:Ms × Nat × Int} (h:s.2.1 ≤ b.size) (hx:0 ≤ s.1.rbits ∧ s.1.rbits < 18446744073709551616):(read7 b ch s).2.1 ≤ b.size ∧ 0 ≤ (read7 b ch s).1.rbits ∧ (read7 b ch s).1.rbits < 18446744073709551616:=by
 have hb:=rdBits_lt b (rdNum b 1099511627776 s.2.1 s.2.2).2.1 (rdNum b 1099511627776 s.2.1 s.2.2).2.2
 unfold read7
 (repeat' split)
 all_goals first
  | exact ⟨rdNum_at h,hx⟩
  | exact ⟨rdText_at h,hx⟩
  | exact ⟨h,hx⟩
  | refine ⟨rdBits_at (rdNum_at h),?_,?_⟩
 ·exact Int.natCast_nonneg _
 ·show (((rdBits b (rdNum b 1099511627776 s.2.1 s.2.2).2.1 (rdNum b 1099511627776 s.2.1 s.2.2).2.2).1:Nat):Int) < _
  omega
structure De7 where
 m:Ms
 p:Nat
 e:Int
 a:Int
 i:Nat
theorem decode7_full (b:ByteArray):Con prog 28 #[.string b] [] fun v A=>v = .tuple #[.agg (dec7F b).1.row.toArray,.int .i64 (dec7F b).2] ∧ A = []:=by
 refine zqI (vs:=[_]) func28 ntmps28 fun B=>?_
 by_cases hb:2048 < b.size
 ·rw [show dec7F b = (Ms.zero,73) from if_pos hb]
  have hb':(2048:Int) < (b.size:Int):=by omega
  repeat' (first|refine zs5 ?_|refine Ops.alloc rfl rfl rfl (noPd rfl) (fun b=>?_))
  exact ze24
 have hb':¬ (2048:Int) < (b.size:Int):=by omega
 rw [show dec7F b = if (endF b (dec7R b).2.1 (dec7R b).2.2).1 = 0 ∧ wcheckF (dec7R b).1 = 0 then ((dec7R b).1,0) else (Ms.zero,72) from if_neg hb]
 have hk:(rdNum b 16 0 0).1 ≤ 16:=rdNum_le
 have hkp:(rdNum b 16 0 0).2.1 ≤ b.size:=rdNum_at (Nat.zero_le _)
 have hsp:dec7R b = rd7 b (nmL ((rdNum b 16 0 0).1:Nat)) (Ms.of ((rdNum b 16 0 0).1:Nat),(rdNum b 16 0 0).2.1,(rdNum b 16 0 0).2.2):=rfl
 repeat' (first|refine zs4 ?_|refine Ops.box rfl rfl rfl rfl (noPd rfl) (fun b=>?_)|refine Ops.alloc rfl rfl rfl (noPd rfl) (fun b=>?_))
 rename_i zb
 rename Nat=>rb
 refine Ops.call (r2num_rd rb b 0 16 0 0 (Nat.zero_le _) (by omega) (by omega)) rfl (noPd rfl) rfl rfl rfl (fun v A' hR=>?_)
 obtain ⟨a1,rfl,rfl⟩:=hR
 generalize dec7R b = rm at hsp ⊢
 generalize rdNum b 16 0 0 = r0 at hsp hk hkp ⊢
 obtain ⟨kd,p0,e0⟩:=r0
 dsimp only at hsp hk hkp ⊢
 refine Ops.cvI rfl rfl rfl rfl ?_
 rw [wrap_i64 (by omega)]
 generalize hc5:Code.seq (Code.seq (Code.region 6 _ _) _) _ = c5
 repeat' (first|refine zs4 ?_|refine Ops.alloc rfl rfl rfl (noPd rfl) (fun b=>?_))
 rename Nat=>mb
 refine zqA (named7_full (kd:Int)) fun v A' hR=>?_
 obtain ⟨⟨s,rfl,hs⟩,rfl⟩:=hR
 have hsl:=bl_len s
 have h5:s.size ≤ 5:=by
  rw [← hsl,hs]
  rcases Nat.eq_zero_or_pos kd with e|e
  ·rw [e];decide
  ·rcases kinds16 (k:=(kd:Int)) (by omega) (by omega) with e|e|e|e|e|e|e|e|e|e|e|e|e|e|e|e <;> rw [e] <;> decide
 refine zg0 ?_
 subst hc5
 refine zg1 ?_
 refine Cd.loopK (σ:=De7) (fun t=>t.i ≤ s.size ∧ (t.m,t.p,t.e) = rd7 b ((bl s).take t.i) (Ms.of (kd:Int),p0,e0) ∧ t.p ≤ b.size ∧ 0 ≤ t.m.rbits ∧ t.m.rbits < 18446744073709551616) (fun t=>[(2,ptr zb),(4,ptr rb),(5,ptr mb),(6,.string s),(7,.int .i64 t.i)]) (fun t=>[Mb7 mb t.m,RgB rb b t.p t.e t.a,(zb,cl Ms.zero.row 38)]) (fun t=>s.size - t.i) ⟨Ms.of (kd:Int),p0,e0,a1,0⟩ ⟨Nat.zero_le _,rfl,hkp,(by show (0:Int) ≤ 0;omega),(by show (0:Int) < _;omega)⟩ ⟨rfl,rfl,rfl,rfl,rfl,trivial⟩ (fun w h=>h.split) (fun t ht2=>?_)
 obtain ⟨m,p,e,a,i⟩:=t
 obtain ⟨hi,hbe,hpb,hx⟩:=ht2
 dsimp only at hi hbe hpb hx ⊢
 by_cases hil:i < s.size
 ·have hil':(i:Int) < s.size:=by omega
  have hbi:s[((i:Nat):Int).toNat]? = some (s[i]'hil):=by rw [Int.toNat_natCast];exact getElem?_eq_some_iff.2 ⟨hil,rfl⟩
  have hbl:(bl s)[i]? = some (((s[i]'hil).toNat:Nat):Int):=bl_at (by rw [Int.toNat_natCast] at hbi;exact hbi)
  generalize s[i]'hil = c at hbi hbl
  have htk:rd7 b ((bl s).take (i + 1)) (Ms.of (kd:Int),p0,e0) = read7 b ((c.toNat:Nat):Int) (m,p,e):=by
   rw [List.take_add_one,hbl,hbe]
   unfold rd7
   rw [List.foldl_append];rfl
  generalize hc2:Code.seq (Code.block 1 _) _ = c2
  refine zg2 ?_
  subst hc2
  have hok:=read7_ok (b:=b) (ch:=((c.toNat:Nat):Int)) (s:=(m,p,e)) hpb hx
  refine Cd.cut (σ:=Int) (fun _=>True) (fun _=>[(2,ptr zb),(4,ptr rb),(5,ptr mb),(6,.string s),(7,.int .i64 i)]) (fun a'=>[Mb7 mb (read7 b ((c.toNat:Nat):Int) (m,p,e)).1,RgB rb b (read7 b ((c.toNat:Nat):Int) (m,p,e)).2.1 (read7 b ((c.toNat:Nat):Int) (m,p,e)).2.2 a',(zb,cl Ms.zero.row 38)]) ?_ (fun a2 _=>?_)
  ·clear hok htk
   refine Cd.block ?_
   refine zg0 ?_
   refine Ops.ixS rfl rfl rfl rfl (by omega) hbi rfl ?_
   generalize ((c.toNat:Nat):Int) = ch
   by_cases c1:ch = 115
   ·rw [show read7 b ch (m,p,e) = ({ m with session:=((rdNum b 1099511627776 p e).1:Nat) },(rdNum b 1099511627776 p e).2) from by rw [c1];exact read7_whole b .session (m,p,e)]
    have hle:=rdNum_le (b:=b) (most:=1099511627776) (p:=p) (e:=e)
    refine zg2 ?_
    refine zqA (r2num_rd rb b p 1099511627776 e a hpb (by omega) (by omega)) fun v A' hR=>?_
    obtain ⟨a',rfl,rfl⟩:=hR
    generalize rdNum b 1099511627776 p e = r at hle ⊢
    obtain ⟨n,q,e1⟩:=r
    dsimp only at hle ⊢
    refine Ops.cvI rfl rfl rfl rfl ?_
    rw [wrap_i64 (by omega)]
    refine zg5 ?_
    exact ze25
   by_cases c2:ch = 110
   ·rw [show read7 b ch (m,p,e) = ({ m with number:=((rdNum b 1099511627776 p e).1:Nat) },(rdNum b 1099511627776 p e).2) from by rw [c2];exact read7_whole b .number (m,p,e)]
    have hle:=rdNum_le (b:=b) (most:=1099511627776) (p:=p) (e:=e)
    refine zg2 ?_
    refine zqA (r2num_rd rb b p 1099511627776 e a hpb (by omega) (by omega)) fun v A' hR=>?_
    obtain ⟨a',rfl,rfl⟩:=hR
    generalize rdNum b 1099511627776 p e = r at hle ⊢
    obtain ⟨n,q,e1⟩:=r
    dsimp only at hle ⊢
    refine Ops.cvI rfl rfl rfl rfl ?_
    rw [wrap_i64 (by omega)]
    refine zg5 ?_
    exact ze25
   by_cases c3:ch = 106
   ·rw [show read7 b ch (m,p,e) = ({ m with job:=((rdNum b 1099511627776 p e).1:Nat) },(rdNum b 1099511627776 p e).2) from by rw [c3];exact read7_whole b .job (m,p,e)]
    have hle:=rdNum_le (b:=b) (most:=1099511627776) (p:=p) (e:=e)
    refine zg2 ?_
    refine zqA (r2num_rd rb b p 1099511627776 e a hpb (by omega) (by omega)) fun v A' hR=>?_
    obtain ⟨a',rfl,rfl⟩:=hR
    generalize rdNum b 1099511627776 p e = r at hle ⊢
    obtain ⟨n,q,e1⟩:=r
    dsimp only at hle ⊢
    refine Ops.cvI rfl rfl rfl rfl ?_
    rw [wrap_i64 (by omega)]
    refine zg5 ?_
    exact ze25
   by_cases c4:ch = 98
   ·rw [show read7 b ch (m,p,e) = ({ m with badge:=((rdNum b 1099511627776 p e).1:Nat) },(rdNum b 1099511627776 p e).2) from by rw [c4];exact read7_whole b .badge (m,p,e)]
    have hle:=rdNum_le (b:=b) (most:=1099511627776) (p:=p) (e:=e)
    refine zg2 ?_
    refine zqA (r2num_rd rb b p 1099511627776 e a hpb (by omega) (by omega)) fun v A' hR=>?_
    obtain ⟨a',rfl,rfl⟩:=hR
    generalize rdNum b 1099511627776 p e = r at hle ⊢
    obtain ⟨n,q,e1⟩:=r
    dsimp only at hle ⊢
    refine Ops.cvI rfl rfl rfl rfl ?_
    rw [wrap_i64 (by omega)]
    refine zg5 ?_
    exact ze25
   by_cases c5:ch = 105
   ·rw [show read7 b ch (m,p,e) = ({ m with index:=((rdNum b 1099511627776 p e).1:Nat) },(rdNum b 1099511627776 p e).2) from by rw [c5];exact read7_whole b .index (m,p,e)]
    have hle:=rdNum_le (b:=b) (most:=1099511627776) (p:=p) (e:=e)
    refine zg2 ?_
    refine zqA (r2num_rd rb b p 1099511627776 e a hpb (by omega) (by omega)) fun v A' hR=>?_
    obtain ⟨a',rfl,rfl⟩:=hR
    generalize rdNum b 1099511627776 p e = r at hle ⊢
    obtain ⟨n,q,e1⟩:=r
    dsimp only at hle ⊢
    refine Ops.cvI rfl rfl rfl rfl ?_
    rw [wrap_i64 (by omega)]
    refine zg5 ?_
    exact ze25
   by_cases c6:ch = 99
   ·rw [show read7 b ch (m,p,e) = ({ m with count:=((rdNum b 1099511627776 p e).1:Nat) },(rdNum b 1099511627776 p e).2) from by rw [c6];exact read7_whole b .count (m,p,e)]
    have hle:=rdNum_le (b:=b) (most:=1099511627776) (p:=p) (e:=e)
    refine zg2 ?_
    refine zqA (r2num_rd rb b p 1099511627776 e a hpb (by omega) (by omega)) fun v A' hR=>?_
    obtain ⟨a',rfl,rfl⟩:=hR
    generalize rdNum b 1099511627776 p e = r at hle ⊢
    obtain ⟨n,q,e1⟩:=r
    dsimp only at hle ⊢
    refine Ops.cvI rfl rfl rfl rfl ?_
    rw [wrap_i64 (by omega)]
    refine zg5 ?_
    exact ze25
   by_cases c7:ch = 114
   ·rw [show read7 b ch (m,p,e) = ({ m with rcode:=((rdNum b 1099511627776 p e).1:Nat),rbits:=((rdBits b (rdNum b 1099511627776 p e).2.1 (rdNum b 1099511627776 p e).2.2).1:Nat) },(rdBits b (rdNum b 1099511627776 p e).2.1 (rdNum b 1099511627776 p e).2.2).2) from by rw [c7];exact read7_114 b (m,p,e)]
    dsimp only
    have hle:=rdNum_le (b:=b) (most:=1099511627776) (p:=p) (e:=e)
    have hat:=rdNum_at (b:=b) (most:=1099511627776) (p:=p) (e:=e) hpb
    refine zg2 ?_
    refine zqA (r2num_rd rb b p 1099511627776 e a hpb (by omega) (by omega)) fun v A' hR=>?_
    obtain ⟨a',rfl,rfl⟩:=hR
    generalize rdNum b 1099511627776 p e = r at hle hat ⊢
    obtain ⟨n,q,e1⟩:=r
    dsimp only at hle hat ⊢
    refine Ops.cvI rfl rfl rfl rfl ?_
    rw [wrap_i64 (by omega)]
    refine zg1 ?_
    refine zqA (r2bits_rd rb b q e1 a' hat (by omega)) fun v A' hR=>?_
    obtain ⟨a3,rfl,rfl⟩:=hR
    generalize rdBits b q e1 = r
    obtain ⟨x,q2,e2⟩:=r
    dsimp only
    refine zg1 ?_
    exact Ops.nilN (inB (inB (meet_end (Q:=fun _ _ _=>True) a3 trivial ⟨rfl,rfl,rfl,rfl,rfl,trivial⟩ (fun w h=>h.split))))
   by_cases c8:ch = 116
   ·rw [show read7 b ch (m,p,e) = ({ m with text:=(rdText b 2048 p e).1 },(rdText b 2048 p e).2) from by rw [c8];exact read7_116 b (m,p,e)]
    dsimp only
    refine zg2 ?_
    refine zqA (r2text_rd rb b p 2048 e a hpb (by omega) (by omega)) fun v A' hR=>?_
    obtain ⟨a',rfl,rfl⟩:=hR
    generalize rdText b 2048 p e = r
    obtain ⟨u,q,e1⟩:=r
    dsimp only
    refine zg5 ?_
    exact ze25
   by_cases c9:ch = 112
   ·rw [show read7 b ch (m,p,e) = ({ m with prog:=(rdText b 2048 p e).1 },(rdText b 2048 p e).2) from by rw [c9];exact read7_112 b (m,p,e)]
    dsimp only
    refine zg2 ?_
    refine zqA (r2text_rd rb b p 2048 e a hpb (by omega) (by omega)) fun v A' hR=>?_
    obtain ⟨a',rfl,rfl⟩:=hR
    generalize rdText b 2048 p e = r
    obtain ⟨u,q,e1⟩:=r
    dsimp only
    refine zg5 ?_
    exact ze25
   ·rw [show read7 b ch (m,p,e) = (m,p,e) from by unfold read7;rw [if_neg c1,if_neg c2,if_neg c3,if_neg c4,if_neg c5,if_neg c6,if_neg c7,if_neg c8,if_neg c9]]
    dsimp only
    refine zg2 ?_
    exact Cd.skip (inB (inB (meet_end (Q:=fun _ _ _=>True) a trivial ⟨rfl,rfl,rfl,rfl,rfl,trivial⟩ (fun w h=>h.split))))
  ·rw [← htk] at hok ⊢
   generalize hrr:rd7 b ((bl s).take (i + 1)) (Ms.of (kd:Int),p0,e0) = rr at hok ⊢
   obtain ⟨m2,p2,e2⟩:=rr
   dsimp only at hok ⊢
   refine zg9 ?_
   exact Ops.nilN (round_end (⟨m2,p2,e2,a2,i + 1⟩:De7) ⟨by show i + 1 ≤ s.size;omega,hrr.symm,hok⟩ zp21 ⟨rfl,rfl,rfl,rfl,rfl,trivial⟩ (fun w h=>h.split))
 ·have hil':¬ (i:Int) < s.size:=by omega
  have hfin:rm = (m,p,e):=by rw [hsp,hbe,List.take_of_length_le (by omega),hs]
  rw [hfin]
  clear hfin hsp hbe
  dsimp only
  refine zg2 ?_
  refine zqA (r2end_rd rb b p e a) fun v A' hR=>?_
  obtain ⟨⟨a',rfl⟩,rfl⟩:=hR
  generalize endF b p e = en
  obtain ⟨en,ep⟩:=en
  dsimp only
  by_cases he:en = 0
  case neg =>
   rw [if_neg (fun q=>he q.1)]
   refine zg7 ?_
   exact ze24
  subst he
  refine zg4 ?_
  refine zqA (check7_full m hx) fun v A' hR=>?_
  obtain ⟨rfl,rfl⟩:=hR
  rw [check7_eq]
  generalize wcheckF m = we
  by_cases hw:we = 0
  ·subst hw
   rw [if_pos ⟨rfl,rfl⟩]
   refine zg7 ?_
   exact ze24
  ·rw [if_neg (fun q=>hw q.2)]
   refine zg8 ?_
   exact ze24
theorem decode7_is (b:ByteArray):Con prog 28 #[.string b] [] fun v A=>v = .tuple #[.agg (decF b).1.row.toArray,.int .i64 (decF b).2] ∧ A = []:=by
 have h:=decode7_full b
 rwa [dec7_eq] at h
def sts (l:List ByteArray):List (List Value):=l.map fun s=>[.string s]
theorem sts_len (l:List ByteArray):(sts l).length = l.length:=List.length_map _
theorem sts_at {l:List ByteArray} {i:Nat} {s:ByteArray} (h:l[i]? = some s):(sts l)[i]? = some [.string s]:=by unfold sts;rw [List.getElem?_map,h];rfl
theorem sts_ok (l:List ByteArray):RowsOk 1 (sts l):=fun r hr=>by
 obtain ⟨s,_,rfl⟩:=List.mem_map.1 hr
 exact ⟨rfl,rfl⟩
theorem sts_take {l:List ByteArray} {i:Nat} {s:ByteArray} (h:l[i]? = some s):sts (l.take (i + 1)) = sts (l.take i) ++ [[.string s]]:=by
 unfold sts
 rw [List.take_add_one,h,List.map_append];rfl
structure SecS where
 i:Nat
 sv:Value
 G:List Blk
theorem sectors_spec (db:Nat) (S:List ByteArray) (ar bd:Int) (de:Bool) (k:Nat) (D:List Blk) (hD:DiskA db S ar bd de k D) (h0:0 < S.length) (h1:S.length ≤ 1026) :
  Con prog 26 #[ptr db] D fun v A=>∃ G,A = G ++ D ∧ Own 9 1 v (sts S) G:=by
 obtain ⟨g,c,sp,rv,rows,H,rfl,hown,hk,hc,hs⟩:=hD
 refine zqI (vs:=[_]) func26 ntmps26 fun B=>?_
 refine zg1 ?_
 refine Ops.mk0 (z:=.string ⟨#[]⟩) rfl rfl rfl rfl (by omega) (by omega) (by decide) rfl (noPd rfl) (fun g2=>?_)
 rw [show ((S.length:Nat):Int).toNat = S.length from by omega]
 refine zg1 ?_
 refine Cd.loopK (σ:=SecS) (fun t=>t.i ≤ S.length ∧ Own 9 1 t.sv (sts (S.take t.i)) t.G) (fun t=>[(0,ptr db),(3,t.sv),(15,.int .i64 S.length),(16,.int .i64 t.i)]) (fun t=>t.G ++ (DkB db g c S.length rv ar bd de :: SeB g S sp :: H)) (fun t=>S.length - t.i) ⟨0,.slice (some ⟨g2,0,none⟩) 0 S.length,[(g2,cl (List.replicate S.length (.string ⟨#[]⟩)) 9)]⟩ ⟨Nat.zero_le _,(fun r hr=>by cases hr),.inr ⟨g2,S.length,List.replicate S.length (.string ⟨#[]⟩),rfl,rfl,by simp [sts],Nat.zero_le _⟩⟩ ⟨rfl,rfl,rfl,rfl,trivial⟩ (fun w h=>h.split) (fun t ht=>?_)
 obtain ⟨i,sv,G⟩:=t
 obtain ⟨hi,hO⟩:=ht
 dsimp only at hi hO ⊢
 obtain ⟨a,c2,rfl⟩:=hO.form
 have hll:(sts (S.take i)).length = i:=by rw [sts_len,List.length_take];omega
 by_cases hil:i < S.length
 ·have hil':(i:Int) < S.length:=by omega
  obtain ⟨x,hx⟩:∃ x,S[i]? = some x:=⟨_,List.getElem?_eq_getElem hil⟩
  have hx2:S[((i:Nat):Int).toNat]? = some x:=by rw [Int.toNat_natCast];exact hx
  have hsx:=hs x (List.mem_of_getElem? hx)
  have hsec:=sec_at hs hx2 sp
  have htk:=sts_take hx
  refine zg10 ?_
  refine Ops.slAr rfl rfl rfl rfl ?_
  refine Ops.cvSp (bs:=x) rfl rfl rfl hsx hsec rfl ?_
  repeat' (first|refine Ops.bs1 rfl rfl rfl rfl rfl rfl rfl (noPd rfl) (fun b=>?_))
  refine Ops.app1 (rows:=sts (S.take i)) hO (by rw [hll];omega) (by rw [hll];omega) rfl rfl rfl rfl (by rfl) (by rfl) rfl (noPd rfl) rfl (fun v G' hG'=>?_)
  rw [← htk] at hG'
  refine zg9 ?_
  exact Ops.nilN (round_end (⟨i + 1,v,G'⟩:SecS) ⟨by show i + 1 ≤ S.length;omega,hG'⟩ (by show S.length - (i + 1) < S.length - i;omega) ⟨rfl,rfl,rfl,rfl,trivial⟩ (fun w h=>h.split))
 ·have hil':¬ (i:Int) < S.length:=by omega
  rw [List.take_of_length_le (by omega)] at hO hll ⊢
  refine zg2 ?_
  exact Cd.ret (ret1 (A':=G ++ (DkB db g c S.length rv ar bd de :: SeB g S sp :: H)) rfl (Res.tmp rfl) (fun _ h=>h.split) ⟨G,rfl,hO⟩)
theorem same4_spec (v1 v2:Value) (l:List ByteArray) (G1 G2:List Blk) (h1:Own 9 1 v1 (sts l) G1) (h2:Own 9 1 v2 (sts l) G2) (hlen:l.length ≤ 2000) :
  Con prog 27 #[v1,v2] (G1 ++ G2) fun v A=>v = .bool true ∧ A = G1 ++ G2:=by
 obtain ⟨a1,c1,rfl⟩:=h1.form
 obtain ⟨a2,c2,rfl⟩:=h2.form
 have hll:=sts_len l
 rw [hll] at h1 h2 ⊢
 refine zqI (vs:=[_,_]) func27 ntmps27 fun B=>?_
 refine zg2 ?_
 refine Cd.loopK (fun i:Nat=>i ≤ l.length) (fun i=>[(0,.slice a1 l.length c1),(1,.slice a2 l.length c2),(5,.int .i64 i)]) (fun _=>G1 ++ G2) (fun i=>l.length - i) 0 (Nat.zero_le _) ⟨rfl,rfl,rfl,trivial⟩ (fun w h=>h) (fun i hi=>?_)
 by_cases hil:i < l.length
 ·have hil':(i:Int) < l.length:=by omega
  obtain ⟨x,hx⟩:∃ x,l[i]? = some x:=⟨_,List.getElem?_eq_getElem hil⟩
  have hxr:(sts l)[(i:Int).toNat]? = some [.string x]:=by rw [Int.toNat_natCast];exact sts_at hx
  have hk:=sts_ok l
  obtain ⟨g1,d1,sp1,e1,rfl,_,_⟩:=h1.some_ (by omega)
  obtain ⟨g2,d2,sp2,e2,rfl,_,_⟩:=h2.some_ (by omega)
  injection e1 with q1 q2 q3
  injection e2 with q4 q5 q6
  subst q1;subst q3;subst q4;subst q6
  clear q2 q5
  refine zg2 ?_
  refine zdr [qz 0,qz 1,qz 2,qy 3,qz 4,qz 5,qz 6,qy 7,qz 8] ?_
  refine zg14 ?_
  exact ze11
 ·have hil':¬ (i:Int) < l.length:=by omega
  refine zg2 ?_
  exact ze12
theorem co_sectors (B0:Base) (xb db:Nat) (c:Cf) (len n:Nat) (hlen:20480 ≤ roomF len) (o:Co) (h:CoOk c len n o) (A:List Blk) (hA:CoP xb db c n o A) :
  ConB prog B0 26 #[ptr db] A fun v A'=>∃ H A1,A' = H ++ A1 ∧ Own 9 1 v (sts o.x.S) H ∧ CoP xb db c n o A1:=by
 obtain ⟨A0,hp1,hA⟩:=hA
 refine ConB.permIn ?_ hp1
 have hAA:=hA
 obtain ⟨lb,lm,tb,cb,mb,wb,sb,tv,les,lck,sv,G,mes,mck_,SD,k,D,TG,TX,WG,rfl,hL,hO,hW,hS,hD,hk,hT⟩:=hA
 have hsl:=hD.n
 have h0:0 < o.x.S.length:=by
  have:=h.lg.cm.len
  rw [this]
  rcases Nat.eq_zero_or_pos len with e|e
  ·rw [e] at hlen;exact absurd hlen (by decide)
  ·exact e
 have hl:=(Con.toB (B0:=B0) (sectors_spec db o.x.S o.x.ar o.x.bd o.x.de k D hD.a h0 hsl)).beside (F:=CoB xb lb tb cb mb db wb sb c tv false :: (Ls.TB lb lm c.lease les lck ++ (Se.TabB tb sv G ++ (CtB cb c.block o.q.la o.q.st.res :: (mb,mpo mes mck_) :: WlB wb db o.w :: (SD ++ (TG ++ (TX ++ WG)))))))
 refine (hl.permIn ?_).permOut fun v A' hR=>?_
 ·refine perm_of fun c g ha hc' hp h0=>?_
  simp only [CoL,List.cons_append,List.append_assoc,List.nil_append,ha,hc',h0];omega
 ·obtain ⟨A2,⟨H,rfl,hr⟩,rfl⟩:=hR
  refine ⟨_,⟨H,_,rfl,hr,hAA.p⟩,?_⟩
  refine perm_of fun c g ha hc' hp h0=>?_
  simp only [CoL,List.cons_append,List.append_assoc,List.nil_append,ha,hc',h0];omega
theorem enc_size {m:Ms} (hw:wcheckF m = 0) (hx:0 ≤ m.rbits ∧ m.rbits < 18446744073709551616):(encF m).1.size ≤ 2048:=Decidable.by_contra fun q=>by
 have h:=dec_enc hw hx
 unfold decF at h
 rw [if_pos (by omega)] at h
 injection h with _ h
 cases h
theorem enc_zero {m:Ms} (hw:wcheckF m = 0):(encF m).2 = 0:=by unfold encF;rw [if_pos hw]
def saidV (reply:ByteArray):Value:=if reply = ⟨#[]⟩ then .tuple #[.agg Ms.zero.row.toArray,.bool false] else .tuple #[.agg (decF reply).1.row.toArray,.bool (decide ((decF reply).2 = 0))]
theorem said_spec (B0:Base) (xb db:Nat) (c:Cf) (hc:CfOk c) (len n:Nat) (hlen:20480 ≤ roomF len) (hn:n ≤ 2000000) (o:Co) (h:CoOk c len n o) (A:List Blk) (hA:CoP xb db c n o A) (node life:Int) (m:Ms) (hx:0 ≤ m.rbits ∧ m.rbits < 18446744073709551616) (hw:wcheckF m = 0) :
  ConB prog B0 22 #[ptr xb,.agg [.int .i64 node,.int .i64 life].toArray,.agg m.row.toArray] A fun v A'=>∃ reply o1,HearR c o node life (encF m).1 reply o1 ∧ CoP xb db c (n + 1) o1 A' ∧ v = saidV reply:=by
 have hes:=enc_size hw hx
 have hez:=enc_zero hw
 refine zqJ (vs:=[_,_,_]) func22 ntmps22 fun B hB=>?_
 repeat' (first|refine zs1 ?_|refine Ops.box rfl rfl rfl rfl (noPd rfl) (fun b=>?_)|refine Ops.alloc rfl rfl rfl (noPd rfl) (fun b=>?_))
 rename_i fb mb
 rename Nat=>zb
 refine zqA (encode7_is m hx) fun v A' hR=>?_
 obtain ⟨rfl,rfl⟩:=hR
 rw [hez]
 refine zg4 ?_
 refine zqB (co_hear B0 xb db c hc len n hlen hn o h A hA node life (encF m).1 (by omega)) hB fun v A' hR=>?_
 obtain ⟨reply,o1,said,J,A1,rfl,hH,hP,hS,rfl⟩:=hR
 rcases hS with ⟨hr,rfl,rfl⟩|⟨hr,g,rfl,rfl⟩
 ·refine zg7 ?_
  exact Cd.ret (ret2 (A':=A1) rfl (Res.cellN rfl) (Res.tmp rfl) (fun _ h=>h.split) ⟨reply,o1,hH,hP,by unfold saidV;rw [if_pos hr]⟩)
 ·refine zg17 ?_
  refine zqA (decode7_is reply) fun v A' hR=>?_
  obtain ⟨rfl,rfl⟩:=hR
  have hv:saidV reply = .tuple #[.agg (decF reply).1.row.toArray,.bool (decide ((decF reply).2 = 0))]:=if_neg hr
  generalize decF reply = r at hv ⊢
  obtain ⟨m1,e1⟩:=r
  dsimp only at hv ⊢
  by_cases he:e1 = 0
  ·subst he
   repeat' (first|refine zs0 ?_|refine Ops.alloc rfl rfl rfl (noPd rfl) (fun b=>?_))
   rename Nat=>rb
   refine zdr [qy 0,qz 1,qz 2,qz 3,qz 4,qz 5,qz 6,qy 7,qy 8,qz 9,qz 10,qz 11,qz 12,qz 13,qz 14,qy 15,qz 16,qz 17,qz 18,qz 19,qz 20,qz 21,qz 22,qy 23,qz 24,qz 25,(26,2,[23]),qz 27] ?_
   refine zg14 ?_
   all_goals skip
   exact Cd.ret (ret2 (A':=A1) rfl (Res.cellN rfl) (Res.tmp rfl) (fun _ h=>h.split) ⟨reply,o1,hH,hP,hv.symm⟩)
  ·repeat' (first|refine zs0 ?_|refine Ops.alloc rfl rfl rfl (noPd rfl) (fun b=>?_))
   rename Nat=>rb
   refine zdr [qy 0,qz 1,qz 2,qz 3,qz 4,qz 5,qz 6,qy 7,qy 8,qz 9,qz 10,qz 11,qz 12,qz 13,qz 14,qy 15,qz 16,qz 17,qz 18,qz 19,qz 20,qz 21,qz 22,qy 23,qz 24,qz 25,(26,2,[23]),qz 27] ?_
   refine zg12 ?_
   all_goals skip
   exact Cd.ret (ret2 (A':=A1) rfl (Res.cellN rfl) (Res.tmp rfl) (fun _ h=>h.split) ⟨reply,o1,hH,hP,by rw [hv,decide_eq_false he]⟩)
theorem saidV_enc {m:Ms} (hw:wcheckF m = 0) (hx:0 ≤ m.rbits ∧ m.rbits < 18446744073709551616):saidV (encF m).1 = .tuple #[.agg m.row.toArray,.bool true]:=by
 have h:=dec_enc hw hx
 have hne:(encF m).1 ≠ ⟨#[]⟩:=fun q=>by
  rw [q] at h
  exact dec_none (by rw [h])
 unfold saidV
 rw [if_neg hne,h]
 rfl
end Go.Proofs.YtkoelgkghijgiaaGreat
