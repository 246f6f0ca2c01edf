import Derived.Test.YtaecdnfkcebbeaaGreatA01
import Derived.Test.YtaecdnfkcebbeaaGreatA24
import Derived.Test.YtaecdnfkcebbeaaGreatA19
import Derived.Test.YtaecdnfkcebbeaaGreatA21
set_option linter.unusedVariables false
set_option linter.unusedSimpArgs false
namespace Go.Proofs.YtaecdnfkcebbeaaGreat
open Go Go.Sep Go.Proofs
set_option maxRecDepth 10000
set_option maxHeartbeats 40000000
set_option synthInstance.maxSize 2000
theorem wrapU (k:Int):∃ n:Nat,n < 18446744073709551616 ∧ IntKind.wrap .u64 k = (n:Int):=by
 refine ⟨(IntKind.wrap .u64 k).toNat,?_,?_⟩
 ·simp only [IntKind.wrap,IntKind.bits,IntKind.signed,Bool.false_and,Bool.false_eq_true,if_false]
  omega
 ·simp only [IntKind.wrap,IntKind.bits,IntKind.signed,Bool.false_and,Bool.false_eq_true,if_false]
  omega
structure EnS where
 b:ByteArray
 i:Nat
theorem encode7_spec (m:Ms) (hx:0 ≤ m.rbits ∧ m.rbits < 18446744073709551616):Con Tryz.prog 24 #[.agg m.row.toArray] [] fun v A=>(∃ (s:ByteArray) (e:Int),v = .tuple #[.string s,.int .i64 e] ∧ s.size ≤ 1000000) ∧ A = []:=by
 refine Con.intro (vs:=[_]) Tryz.func24 rfl Tryz.ntmps24 rfl (fun B=>?_)
 repeat' (first|refine Cd.seq ?_|refine Cd.reg ?_|refine Ops.asg rfl rfl rfl rfl ?_|refine Ops.ldN rfl rfl rfl rfl ?_|refine Ops.box rfl rfl rfl rfl (noPd rfl) (fun b=>?_))
 rename Nat=>mb
 refine Ops.call (check7_spec m) rfl (noPd rfl) rfl rfl rfl (fun v A' hR=>?_)
 obtain ⟨⟨e,rfl,he⟩,rfl⟩:=hR
 by_cases he0:e = 0
 rotate_left
 ·refine zg14 ?_
  exact Cd.ret (ret2 (A':=[]) rfl (Res.tmp rfl) (Res.tmp rfl) (fun _ h=>h.split) ⟨⟨_,_,rfl,by decide⟩,rfl⟩)
 obtain ⟨ht,hp⟩:=he he0
 clear he
 obtain ⟨k0,hk0,hw0⟩:=wrapU m.kind
 obtain ⟨k1,hk1,hw1⟩:=wrapU m.session
 obtain ⟨k2,hk2,hw2⟩:=wrapU m.number
 obtain ⟨k3,hk3,hw3⟩:=wrapU m.job
 obtain ⟨k4,hk4,hw4⟩:=wrapU m.badge
 obtain ⟨k5,hk5,hw5⟩:=wrapU m.index
 obtain ⟨k6,hk6,hw6⟩:=wrapU m.count
 obtain ⟨k7,hk7,hw7⟩:=wrapU m.rcode
 obtain ⟨xb,hxb⟩:∃ n:Nat,m.rbits = n:=⟨m.rbits.toNat,by omega⟩
 have hxl:xb < 18446744073709551616:=by omega
 have hbits:Con Tryz.prog 52 #[.int .u64 m.rbits] [] fun v A=>v = .string (hiB xb 8) ∧ A = []:=by rw [hxb];exact r2bits_spec xb hxl
 have z0:=numB_size hk0
 have z1:=numB_size hk1
 have z2:=numB_size hk2
 have z3:=numB_size hk3
 have z4:=numB_size hk4
 have z5:=numB_size hk5
 have z6:=numB_size hk6
 have z7:=numB_size hk7
 have z8:=hiB_size xb 8
 have z9:=numB_size (n:=m.text.size) (by omega)
 have z10:=numB_size (n:=m.prog.size) (by omega)
 generalize hcl:Code.seq (Code.seq (Code.region 6 _ _) _) _ = cl6
 refine zg21 ?_
 refine Ops.cvI rfl rfl rfl rfl ?_
 rw [hw0]
 refine Ops.call (r2num_spec k0 hk0) rfl (noPd rfl) rfl rfl rfl (fun v A' hR=>?_)
 obtain ⟨rfl,rfl⟩:=hR
 refine zg4 ?_
 refine Ops.call (named7_spec m.kind) rfl (noPd rfl) rfl rfl rfl (fun v A' hR=>?_)
 obtain ⟨⟨s,rfl,hs⟩,rfl⟩:=hR
 refine zg1 ?_
 subst hcl
 refine zg3 ?_
 refine Cd.loopK (σ:=EnS) (fun t=>t.i ≤ s.size ∧ t.b.size ≤ 10 + t.i * 2000) (fun t=>[(1,ptr mb),(5,.string t.b),(6,.string s),(7,.int .i64 t.i)]) (fun _=>[MbB mb m]) (fun t=>s.size - t.i) ⟨numB k0,0⟩ ⟨Nat.zero_le _,by show (numB k0).size ≤ _;omega⟩ ⟨rfl,rfl,rfl,rfl,trivial⟩ (fun w h=>h.split) (fun t ht2=>?_)
 obtain ⟨b,i⟩:=t
 obtain ⟨hi,hbs⟩:=ht2
 dsimp only at hi hbs ⊢
 by_cases hil:i < s.size
 ·have hil':(i:Int) < s.size:=by omega
  have hb:s[((i:Nat):Int).toNat]? = some (s[i]'hil):=by rw [Int.toNat_natCast];exact getElem?_eq_some_iff.2 ⟨hil,rfl⟩
  generalize s[i]'hil = c at hb
  generalize hc2:Code.seq (Code.block 1 _) _ = c2
  refine zg14 ?_
  subst hc2
  refine Cd.cut (σ:=ByteArray) (fun b2=>b2.size ≤ 10 + (i + 1) * 2000) (fun b2=>[(1,ptr mb),(5,.string b2),(6,.string s),(7,.int .i64 i)]) (fun _=>[MbB mb m]) ?_ (fun b2 hb2=>?_)
  ·refine Cd.block ?_
   refine zg0 ?_
   refine Ops.ixS rfl rfl rfl rfl (by omega) hb rfl ?_
   generalize ((c.toNat:Nat):Int) = ch
   by_cases c1:ch = 115
   ·refine zg29 ?_
    refine Ops.cvI rfl rfl rfl rfl ?_
    rw [hw1]
    refine Ops.call (r2num_spec k1 hk1) rfl (noPd rfl) rfl rfl rfl (fun v A' hR=>?_)
    obtain ⟨rfl,rfl⟩:=hR
    refine Ops.cat rfl rfl rfl rfl (by omega) rfl ?_
    refine zg1 ?_
    exact Ops.nilN (inB (inB (meet_end (Q:=fun _ _ _=>True) (b ++ numB k1) (by show (b ++ numB k1).size ≤ _;rw [ByteArray.size_append];omega) ⟨rfl,rfl,rfl,rfl,trivial⟩ (fun w h=>h.split))))
   by_cases c2:ch = 110
   ·refine zg16 ?_
    refine Ops.cvI rfl rfl rfl rfl ?_
    rw [hw2]
    refine Ops.call (r2num_spec k2 hk2) rfl (noPd rfl) rfl rfl rfl (fun v A' hR=>?_)
    obtain ⟨rfl,rfl⟩:=hR
    refine Ops.cat rfl rfl rfl rfl (by omega) rfl ?_
    refine zg1 ?_
    exact Ops.nilN (inB (inB (meet_end (Q:=fun _ _ _=>True) (b ++ numB k2) (by show (b ++ numB k2).size ≤ _;rw [ByteArray.size_append];omega) ⟨rfl,rfl,rfl,rfl,trivial⟩ (fun w h=>h.split))))
   by_cases c3:ch = 106
   ·refine zg16 ?_
    refine Ops.cvI rfl rfl rfl rfl ?_
    rw [hw3]
    refine Ops.call (r2num_spec k3 hk3) rfl (noPd rfl) rfl rfl rfl (fun v A' hR=>?_)
    obtain ⟨rfl,rfl⟩:=hR
    refine Ops.cat rfl rfl rfl rfl (by omega) rfl ?_
    refine zg1 ?_
    exact Ops.nilN (inB (inB (meet_end (Q:=fun _ _ _=>True) (b ++ numB k3) (by show (b ++ numB k3).size ≤ _;rw [ByteArray.size_append];omega) ⟨rfl,rfl,rfl,rfl,trivial⟩ (fun w h=>h.split))))
   by_cases c4:ch = 98
   ·refine zg16 ?_
    refine Ops.cvI rfl rfl rfl rfl ?_
    rw [hw4]
    refine Ops.call (r2num_spec k4 hk4) rfl (noPd rfl) rfl rfl rfl (fun v A' hR=>?_)
    obtain ⟨rfl,rfl⟩:=hR
    refine Ops.cat rfl rfl rfl rfl (by omega) rfl ?_
    refine zg1 ?_
    exact Ops.nilN (inB (inB (meet_end (Q:=fun _ _ _=>True) (b ++ numB k4) (by show (b ++ numB k4).size ≤ _;rw [ByteArray.size_append];omega) ⟨rfl,rfl,rfl,rfl,trivial⟩ (fun w h=>h.split))))
   by_cases c5:ch = 105
   ·refine zg16 ?_
    refine Ops.cvI rfl rfl rfl rfl ?_
    rw [hw5]
    refine Ops.call (r2num_spec k5 hk5) rfl (noPd rfl) rfl rfl rfl (fun v A' hR=>?_)
    obtain ⟨rfl,rfl⟩:=hR
    refine Ops.cat rfl rfl rfl rfl (by omega) rfl ?_
    refine zg1 ?_
    exact Ops.nilN (inB (inB (meet_end (Q:=fun _ _ _=>True) (b ++ numB k5) (by show (b ++ numB k5).size ≤ _;rw [ByteArray.size_append];omega) ⟨rfl,rfl,rfl,rfl,trivial⟩ (fun w h=>h.split))))
   by_cases c6:ch = 99
   ·refine zg16 ?_
    refine Ops.cvI rfl rfl rfl rfl ?_
    rw [hw6]
    refine Ops.call (r2num_spec k6 hk6) rfl (noPd rfl) rfl rfl rfl (fun v A' hR=>?_)
    obtain ⟨rfl,rfl⟩:=hR
    refine Ops.cat rfl rfl rfl rfl (by omega) rfl ?_
    refine zg1 ?_
    exact Ops.nilN (inB (inB (meet_end (Q:=fun _ _ _=>True) (b ++ numB k6) (by show (b ++ numB k6).size ≤ _;rw [ByteArray.size_append];omega) ⟨rfl,rfl,rfl,rfl,trivial⟩ (fun w h=>h.split))))
   by_cases c7:ch = 114
   ·refine zg16 ?_
    refine Cd.draw [(0,0,[]),(1,0,[]),(2,0,[]),(3,1,[]),(4,0,[]),(6,0,[]),(7,0,[]),(8,1,[]),(5,2,[8]),(9,2,[]),(10,0,[]),(11,0,[]),(12,2,[])] (by kernel_rfl) (by kernel_rfl) (by simp only [picked,nth];exact rfl) ?_
    refine zg2 ?_
    refine Ops.cvI rfl rfl rfl rfl ?_
    rw [hw7]
    refine zg2 ?_
    refine Ops.call (r2num_spec k7 hk7) rfl zp5 rfl rfl rfl (fun v A' hR=>?_)
    obtain ⟨rfl,rfl⟩:=hR
    skip
    refine Ops.call hbits rfl (noPd rfl) rfl rfl rfl (fun v A' hR=>?_)
    obtain ⟨rfl,rfl⟩:=hR
    refine Ops.cat rfl rfl rfl rfl (by omega) rfl ?_
    refine Ops.cat rfl rfl rfl rfl (by rw [ByteArray.size_append];omega) rfl ?_
    refine zg3 ?_
    exact Ops.nilN (inB (inB (meet_end (Q:=fun _ _ _=>True) (b ++ (numB k7 ++ hiB xb 8)) (by show (b ++ (numB k7 ++ hiB xb 8)).size ≤ _;rw [ByteArray.size_append,ByteArray.size_append];omega) ⟨rfl,rfl,rfl,rfl,trivial⟩ (fun w h=>h.split))))
   by_cases c8:ch = 116
   ·refine zg16 ?_
    refine Ops.call (r2text_spec m.text (by omega)) rfl (noPd rfl) rfl rfl rfl (fun v A' hR=>?_)
    obtain ⟨rfl,rfl⟩:=hR
    refine Ops.cat rfl rfl rfl rfl (by rw [ByteArray.size_append];omega) rfl ?_
    refine zg1 ?_
    exact Ops.nilN (inB (inB (meet_end (Q:=fun _ _ _=>True) (b ++ (numB m.text.size ++ m.text)) (by show (b ++ (numB m.text.size ++ m.text)).size ≤ _;rw [ByteArray.size_append,ByteArray.size_append];omega) ⟨rfl,rfl,rfl,rfl,trivial⟩ (fun w h=>h.split))))
   ·refine zg17 ?_
    refine Ops.call (r2text_spec m.prog (by omega)) rfl (noPd rfl) rfl rfl rfl (fun v A' hR=>?_)
    obtain ⟨rfl,rfl⟩:=hR
    refine Ops.cat rfl rfl rfl rfl (by rw [ByteArray.size_append];omega) rfl ?_
    refine zg1 ?_
    exact Ops.nilN (inB (inB (meet_end (Q:=fun _ _ _=>True) (b ++ (numB m.prog.size ++ m.prog)) (by show (b ++ (numB m.prog.size ++ m.prog)).size ≤ _;rw [ByteArray.size_append,ByteArray.size_append];omega) ⟨rfl,rfl,rfl,rfl,trivial⟩ (fun w h=>h.split))))
  ·refine zg18 ?_
   exact Ops.nilN (round_end (⟨b2,i + 1⟩:EnS) ⟨by show i + 1 ≤ s.size;omega,hb2⟩ zp19 ⟨rfl,rfl,rfl,rfl,trivial⟩ (fun w h=>h.split))
 ·have hil':¬ (i:Int) < s.size:=by omega
  refine zg12 ?_
  exact Cd.ret (ret2 (A':=[]) rfl (Res.tmp rfl) (Res.tmp rfl) (fun _ h=>h.split) ⟨⟨_,_,rfl,by omega⟩,rfl⟩)
def rgt (h z m:Bool):Bool:=if h then m else z
theorem rgt_spec (h z m:Bool):Con Tryz.prog 60 #[.bool h,.bool z,.bool m] [] fun v A=>v = .bool (rgt h z m) ∧ A = []:=right_spec h z m
def rg1 (c:Ch):Bool:=rgt (hasC (hasS c.kind) 110) (decide (c.n = 0)) (decide (1 ≤ c.n ∧ c.n ≤ 1099511627776))
def rg2 (c:Ch):Bool:=rgt (hasC (hasS c.kind) 106) (decide (c.job = 0)) (decide (1 ≤ c.job ∧ c.job ≤ 8))
def rg3 (c:Ch):Bool:=rgt (hasC (hasS c.kind) 112) (decide (c.prog = ⟨#[]⟩)) (decide ((1:Int) ≤ (c.prog.size:Nat) ∧ ((c.prog.size:Nat):Int) ≤ 1024))
def rg4 (c:Ch):Bool:=rgt (hasC (hasS c.kind) 98) (decide (c.badge = 0)) (decide (1 ≤ c.badge ∧ c.badge ≤ 1099511627776))
def rg5 (c:Ch):Bool:=rgt (hasC (hasS c.kind) 115) (decide (c.slot = 0) && decide (c.life = 0)) (decide (0 ≤ c.slot ∧ c.slot ≤ 7) && decide (1 ≤ c.life ∧ c.life ≤ 1099511627776))
def rg6 (c:Ch):Bool:=rgt (hasC (hasS c.kind) 116) (decide (((c.txs.length:Nat):Int) = 0)) (textsF c.txs)
def rg7 (c:Ch):Bool:=rgt (hasC (hasS c.kind) 114) (decide (c.rcode = 0) && (decide (c.rbits = 0) && true)) (decide (0 ≤ c.rcode ∧ c.rcode ≤ 7) && (decide (c.rcode = 0) || decide (c.rbits = 0)))
def checkF (c:Ch):Int:=if ¬ (1 ≤ c.kind ∧ c.kind ≤ 6) then 80 else if rg1 c && (rg2 c && (rg3 c && (rg4 c && (rg5 c && (rg6 c && rg7 c))))) then 0 else 81
theorem rcheck_spec (B0:Base) (c:Ch) (a:Option Addr) (k:Nat) (hS:SIn B0 a c.txs) (hl:c.txs.length ≤ 2000000) :
  ConB Tryz.prog B0 26 #[.agg (c.row a k).toArray] [] fun v A=>v = .int .i64 (checkF c) ∧ A = []:=by
 refine ConB.intro (vs:=[_]) Tryz.func26 rfl Tryz.ntmps26 rfl (fun B hx=>?_)
 repeat' (first|refine Cd.seq ?_|refine Cd.reg ?_|refine Ops.asg rfl rfl rfl rfl ?_|refine Ops.fa0 rfl rfl rfl rfl ?_|refine Ops.ld1 rfl rfl rfl rfl rfl ?_|refine Ops.box rfl rfl rfl rfl (noPd rfl) (fun b=>?_))
 rename Nat=>cb
 refine Ops.call (rin_spec c.kind 1 6) rfl (noPd rfl) rfl rfl rfl (fun v A' hR=>?_)
 obtain ⟨rfl,rfl⟩:=hR
 by_cases hk:1 ≤ c.kind ∧ c.kind ≤ 6
 case neg =>
  rw [decide_eq_false hk,show checkF c = 80 from if_pos hk]
  refine zg15 ?_
  exact ze8
 rw [decide_eq_true hk]
 have hck:checkF c = if rg1 c && (rg2 c && (rg3 c && (rg4 c && (rg5 c && (rg6 c && rg7 c))))) then 0 else 81:=if_neg (not_not_intro hk)
 rw [hck]
 clear hck
 repeat' (first|refine Ops.mkF rfl rfl rfl rfl rfl ?_|refine Cd.seq ?_|refine Cd.reg ?_|refine Ops.nil ?_|refine Ops.asg rfl rfl rfl rfl ?_|refine Ops.fa0 rfl rfl rfl rfl ?_|refine Ops.ldN rfl rfl rfl rfl ?_|refine Ops.un rfl rfl rfl rfl ?_|refine Ops.alloc rfl rfl rfl (noPd rfl) (fun b=>?_)|refine Ops.stN rfl rfl rfl rfl rfl rfl (noPd rfl) ?_|refine Cd.condF rfl rfl ?_|refine Cd.skip (Cd.next ?_))
 rename Nat=>xb
 dsimp only [List.append]
 refine Cd.draw [(0,0,[]),(2,0,[]),(3,1,[]),(4,0,[]),(5,0,[]),(6,1,[]),(1,2,[3,6]),(7,2,[3]),(8,2,[]),(9,0,[]),(10,0,[]),(12,0,[]),(13,1,[]),(14,0,[]),(15,0,[]),(16,1,[]),(11,2,[13,16]),(17,2,[13]),(18,2,[]),(19,0,[]),(20,0,[]),(21,0,[]),(23,0,[]),(24,1,[]),(25,0,[]),(26,0,[]),(27,1,[]),(28,0,[]),(22,2,[24,27]),(29,2,[24]),(30,2,[]),(31,0,[]),(32,0,[]),(33,0,[]),(35,0,[]),(36,1,[]),(37,0,[]),(38,0,[]),(39,1,[]),(34,2,[36,39]),(40,2,[36]),(41,2,[]),(42,0,[]),(43,0,[]),(44,0,[]),(46,0,[]),(47,1,[]),(48,0,[]),(54,0,[]),(55,1,[]),(45,2,[47,55]),(49,0,[]),(50,0,[]),(51,1,[]),(52,0,[]),(53,0,[]),(56,2,[51]),(57,0,[]),(58,0,[]),(59,1,[]),(60,2,[51]),(61,0,[]),(62,2,[]),(63,0,[]),(64,0,[]),(65,0,[]),(67,0,[]),(68,1,[]),(69,1,[]),(70,0,[]),(71,0,[]),(72,1,[]),(66,2,[68,69,72]),(73,2,[68,69]),(74,2,[]),(75,0,[]),(76,0,[]),(77,0,[]),(79,1,[]),(80,0,[]),(81,0,[]),(82,0,[]),(83,1,[]),(78,2,[79,83]),(84,2,[79]),(85,0,[]),(86,0,[]),(87,1,[]),(88,0,[]),(89,0,[]),(90,0,[]),(91,1,[]),(92,0,[]),(93,0,[]),(94,0,[]),(95,2,[]),(96,0,[])] (by kernel_rfl) (by kernel_rfl) (by simp only [picked,nth];exact rfl) ?_
 refine zg8 ?_
 refine Ops.callV (fi:=[]) (ca:=[ptr cb]) (vs:=[_]) (check1_spec cb c a k _ 110 rfl) rfl zp2 rfl rfl rfl rfl (fun v A' hR=>?_)
 obtain ⟨rfl,rfl⟩:=hR
 skip
 refine Ops.call (rin_spec c.n 1 1099511627776) rfl zp2 rfl rfl rfl (fun v A' hR=>?_)
 obtain ⟨rfl,rfl⟩:=hR
 skip
 refine Ops.call (rgt_spec _ _ _) rfl (noPd rfl) rfl rfl rfl (fun v A' hR=>?_)
 obtain ⟨rfl,rfl⟩:=hR
 rw [show rgt (hasC (hasS c.kind) 110) (decide (c.n = 0)) (decide (1 ≤ c.n ∧ c.n ≤ 1099511627776)) = rg1 c from rfl]
 cases hr1:rg1 c with
 | false =>
  simp only [hr1,Bool.true_and,Bool.false_and,Bool.and_false,Bool.and_true,Bool.false_eq_true,if_false,if_true]
  refine zg31 ?_
  exact ze8
 | true =>
  refine zg8 ?_
  refine Ops.callV (fi:=[]) (ca:=[ptr cb]) (vs:=[_]) (check1_spec cb c a k _ 106 rfl) rfl zp2 rfl rfl rfl rfl (fun v A' hR=>?_)
  obtain ⟨rfl,rfl⟩:=hR
  skip
  refine Ops.call (rin_spec c.job 1 8) rfl zp2 rfl rfl rfl (fun v A' hR=>?_)
  obtain ⟨rfl,rfl⟩:=hR
  skip
  refine Ops.call (rgt_spec _ _ _) rfl (noPd rfl) rfl rfl rfl (fun v A' hR=>?_)
  obtain ⟨rfl,rfl⟩:=hR
  rw [show rgt (hasC (hasS c.kind) 106) (decide (c.job = 0)) (decide (1 ≤ c.job ∧ c.job ≤ 8)) = rg2 c from rfl]
  cases hr2:rg2 c with
  | false =>
   simp only [hr1,hr2,Bool.true_and,Bool.false_and,Bool.and_false,Bool.and_true,Bool.false_eq_true,if_false,if_true]
   refine zg31 ?_
   exact ze8
  | true =>
   refine zg8 ?_
   refine Ops.callV (fi:=[]) (ca:=[ptr cb]) (vs:=[_]) (check1_spec cb c a k _ 112 rfl) rfl zp2 rfl rfl rfl rfl (fun v A' hR=>?_)
   obtain ⟨rfl,rfl⟩:=hR
   skip
   refine Ops.call (rin_spec (c.prog.size:Nat) 1 1024) rfl zp2 rfl rfl rfl (fun v A' hR=>?_)
   obtain ⟨rfl,rfl⟩:=hR
   skip
   refine Ops.call (rgt_spec _ _ _) rfl (noPd rfl) rfl rfl rfl (fun v A' hR=>?_)
   obtain ⟨rfl,rfl⟩:=hR
   rw [show rgt (hasC (hasS c.kind) 112) (decide (c.prog = ⟨#[]⟩)) (decide ((1:Int) ≤ (c.prog.size:Nat) ∧ ((c.prog.size:Nat):Int) ≤ 1024)) = rg3 c from rfl]
   cases hr3:rg3 c with
   | false =>
    simp only [hr1,hr2,hr3,Bool.true_and,Bool.false_and,Bool.and_false,Bool.and_true,Bool.false_eq_true,if_false,if_true]
    refine zg31 ?_
    exact ze8
   | true =>
    refine zg8 ?_
    refine Ops.callV (fi:=[]) (ca:=[ptr cb]) (vs:=[_]) (check1_spec cb c a k _ 98 rfl) rfl zp2 rfl rfl rfl rfl (fun v A' hR=>?_)
    obtain ⟨rfl,rfl⟩:=hR
    skip
    refine Ops.call (rin_spec c.badge 1 1099511627776) rfl zp2 rfl rfl rfl (fun v A' hR=>?_)
    obtain ⟨rfl,rfl⟩:=hR
    skip
    refine Ops.call (rgt_spec _ _ _) rfl (noPd rfl) rfl rfl rfl (fun v A' hR=>?_)
    obtain ⟨rfl,rfl⟩:=hR
    rw [show rgt (hasC (hasS c.kind) 98) (decide (c.badge = 0)) (decide (1 ≤ c.badge ∧ c.badge ≤ 1099511627776)) = rg4 c from rfl]
    cases hr4:rg4 c with
    | false =>
     simp only [hr1,hr2,hr3,hr4,Bool.true_and,Bool.false_and,Bool.and_false,Bool.and_true,Bool.false_eq_true,if_false,if_true]
     refine zg31 ?_
     exact ze8
    | true =>
     refine zg8 ?_
     refine Ops.callV (fi:=[]) (ca:=[ptr cb]) (vs:=[_]) (check1_spec cb c a k _ 115 rfl) rfl zp2 rfl rfl rfl rfl (fun v A' hR=>?_)
     obtain ⟨rfl,rfl⟩:=hR
     by_cases hs0:c.slot = 0
     ·skip
      refine zg25 ?_
      refine Ops.call (rin_spec c.slot 0 7) rfl zp2 rfl rfl rfl (fun v A' hR=>?_)
      obtain ⟨rfl,rfl⟩:=hR
      by_cases hs7:0 ≤ c.slot ∧ c.slot ≤ 7
      ·skip
       rw [decide_eq_true hs7]
       refine zg2 ?_
       refine Ops.call (rin_spec c.life 1 1099511627776) rfl zp2 rfl rfl rfl (fun v A' hR=>?_)
       obtain ⟨rfl,rfl⟩:=hR
       refine zg5 ?_
       refine Ops.call (rgt_spec _ _ _) rfl (noPd rfl) rfl rfl rfl (fun v A' hR=>?_)
       obtain ⟨rfl,rfl⟩:=hR
       rw [show rgt (hasC (hasS c.kind) 115) (decide (c.life = 0)) (decide (1 ≤ c.life ∧ c.life ≤ 1099511627776)) = rg5 c from by simp [rg5,hs0,hs7]]
       cases hr5:rg5 c with
       | false =>
        simp only [hr1,hr2,hr3,hr4,hr5,Bool.true_and,Bool.false_and,Bool.and_false,Bool.and_true,Bool.false_eq_true,if_false,if_true]
        refine zg31 ?_
        exact ze8
       | true =>
        refine zg8 ?_
        refine Ops.callV (fi:=[]) (ca:=[ptr cb]) (vs:=[_]) (check1_spec cb c a k _ 116 rfl) rfl zp2 rfl rfl rfl rfl (fun v A' hR=>?_)
        obtain ⟨rfl,rfl⟩:=hR
        skip
        refine Ops.callB (texts_spec B0 a k c.txs hS hl) hx rfl zp2 rfl rfl rfl (fun v A' hR=>?_)
        obtain ⟨rfl,rfl⟩:=hR
        skip
        refine Ops.call (rgt_spec _ _ _) rfl (noPd rfl) rfl rfl rfl (fun v A' hR=>?_)
        obtain ⟨rfl,rfl⟩:=hR
        rw [show rgt (hasC (hasS c.kind) 116) (decide (((c.txs.length:Nat):Int) = 0)) (textsF c.txs) = rg6 c from rfl]
        cases hr6:rg6 c with
        | false =>
         simp only [hr1,hr2,hr3,hr4,hr5,hr6,Bool.true_and,Bool.false_and,Bool.and_false,Bool.and_true,Bool.false_eq_true,if_false,if_true]
         refine zg31 ?_
         exact ze8
        | true =>
         refine zg8 ?_
         refine Ops.callV (fi:=[]) (ca:=[ptr cb]) (vs:=[_]) (check1_spec cb c a k _ 114 rfl) rfl zp2 rfl rfl rfl rfl (fun v A' hR=>?_)
         obtain ⟨rfl,rfl⟩:=hR
         skip
         refine Ops.call (rin_spec c.rcode 0 7) rfl zp2 rfl rfl rfl (fun v A' hR=>?_)
         obtain ⟨rfl,rfl⟩:=hR
         by_cases h7:0 ≤ c.rcode ∧ c.rcode ≤ 7
         ·rw [decide_eq_true h7]
          by_cases h0:c.rcode = 0
          ·skip
           refine zg25 ?_
           refine Ops.call (rgt_spec _ _ _) rfl (noPd rfl) rfl rfl rfl (fun v A' hR=>?_)
           obtain ⟨rfl,rfl⟩:=hR
           rw [show rgt (hasC (hasS c.kind) 114) (decide (c.rcode = 0) && (decide (c.rbits = 0) && true)) (true) = rg7 c from by simp [rg7,h7,h0]]
           cases hr7:rg7 c with
           | false =>
            simp only [hr1,hr2,hr3,hr4,hr5,hr6,hr7,Bool.true_and,Bool.false_and,Bool.and_false,Bool.and_true,Bool.false_eq_true,if_false,if_true]
            refine zg10 ?_
            exact ze8
           | true =>
            simp only [hr1,hr2,hr3,hr4,hr5,hr6,hr7,Bool.true_and,Bool.false_and,Bool.and_false,Bool.and_true,Bool.false_eq_true,if_false,if_true]
            refine zg10 ?_
            exact ze8
          ·skip
           refine zg11 ?_
           refine Ops.call (rgt_spec _ _ _) rfl (noPd rfl) rfl rfl rfl (fun v A' hR=>?_)
           obtain ⟨rfl,rfl⟩:=hR
           rw [show rgt (hasC (hasS c.kind) 114) (decide (c.rcode = 0) && (decide (c.rbits = 0) && true)) (decide (c.rbits = 0)) = rg7 c from by simp [rg7,h7,h0]]
           cases hr7:rg7 c with
           | false =>
            simp only [hr1,hr2,hr3,hr4,hr5,hr6,hr7,Bool.true_and,Bool.false_and,Bool.and_false,Bool.and_true,Bool.false_eq_true,if_false,if_true]
            refine zg10 ?_
            exact ze8
           | true =>
            simp only [hr1,hr2,hr3,hr4,hr5,hr6,hr7,Bool.true_and,Bool.false_and,Bool.and_false,Bool.and_true,Bool.false_eq_true,if_false,if_true]
            refine zg10 ?_
            exact ze8
         ·rw [decide_eq_false h7]
          refine zg6 ?_
          refine Ops.call (rgt_spec _ _ _) rfl (noPd rfl) rfl rfl rfl (fun v A' hR=>?_)
          obtain ⟨rfl,rfl⟩:=hR
          rw [show rgt (hasC (hasS c.kind) 114) (decide (c.rcode = 0) && (decide (c.rbits = 0) && true)) (false) = rg7 c from by simp [rg7,h7]]
          cases hr7:rg7 c with
          | false =>
           simp only [hr1,hr2,hr3,hr4,hr5,hr6,hr7,Bool.true_and,Bool.false_and,Bool.and_false,Bool.and_true,Bool.false_eq_true,if_false,if_true]
           refine zg10 ?_
           exact ze8
          | true =>
           simp only [hr1,hr2,hr3,hr4,hr5,hr6,hr7,Bool.true_and,Bool.false_and,Bool.and_false,Bool.and_true,Bool.false_eq_true,if_false,if_true]
           refine zg10 ?_
           exact ze8
      ·exact absurd hs0 (by omega)
     ·skip
      refine zg11 ?_
      refine Ops.call (rin_spec c.slot 0 7) rfl zp2 rfl rfl rfl (fun v A' hR=>?_)
      obtain ⟨rfl,rfl⟩:=hR
      by_cases hs7:0 ≤ c.slot ∧ c.slot ≤ 7
      ·skip
       rw [decide_eq_true hs7]
       refine zg2 ?_
       refine Ops.call (rin_spec c.life 1 1099511627776) rfl zp2 rfl rfl rfl (fun v A' hR=>?_)
       obtain ⟨rfl,rfl⟩:=hR
       refine zg5 ?_
       refine Ops.call (rgt_spec _ _ _) rfl (noPd rfl) rfl rfl rfl (fun v A' hR=>?_)
       obtain ⟨rfl,rfl⟩:=hR
       rw [show rgt (hasC (hasS c.kind) 115) (false) (decide (1 ≤ c.life ∧ c.life ≤ 1099511627776)) = rg5 c from by simp [rg5,hs0,hs7]]
       cases hr5:rg5 c with
       | false =>
        simp only [hr1,hr2,hr3,hr4,hr5,Bool.true_and,Bool.false_and,Bool.and_false,Bool.and_true,Bool.false_eq_true,if_false,if_true]
        refine zg31 ?_
        exact ze8
       | true =>
        refine zg8 ?_
        refine Ops.callV (fi:=[]) (ca:=[ptr cb]) (vs:=[_]) (check1_spec cb c a k _ 116 rfl) rfl zp2 rfl rfl rfl rfl (fun v A' hR=>?_)
        obtain ⟨rfl,rfl⟩:=hR
        skip
        refine Ops.callB (texts_spec B0 a k c.txs hS hl) hx rfl zp2 rfl rfl rfl (fun v A' hR=>?_)
        obtain ⟨rfl,rfl⟩:=hR
        skip
        refine Ops.call (rgt_spec _ _ _) rfl (noPd rfl) rfl rfl rfl (fun v A' hR=>?_)
        obtain ⟨rfl,rfl⟩:=hR
        rw [show rgt (hasC (hasS c.kind) 116) (decide (((c.txs.length:Nat):Int) = 0)) (textsF c.txs) = rg6 c from rfl]
        cases hr6:rg6 c with
        | false =>
         simp only [hr1,hr2,hr3,hr4,hr5,hr6,Bool.true_and,Bool.false_and,Bool.and_false,Bool.and_true,Bool.false_eq_true,if_false,if_true]
         refine zg31 ?_
         exact ze8
        | true =>
         refine zg8 ?_
         refine Ops.callV (fi:=[]) (ca:=[ptr cb]) (vs:=[_]) (check1_spec cb c a k _ 114 rfl) rfl zp2 rfl rfl rfl rfl (fun v A' hR=>?_)
         obtain ⟨rfl,rfl⟩:=hR
         skip
         refine Ops.call (rin_spec c.rcode 0 7) rfl zp2 rfl rfl rfl (fun v A' hR=>?_)
         obtain ⟨rfl,rfl⟩:=hR
         by_cases h7:0 ≤ c.rcode ∧ c.rcode ≤ 7
         ·rw [decide_eq_true h7]
          by_cases h0:c.rcode = 0
          ·skip
           refine zg25 ?_
           refine Ops.call (rgt_spec _ _ _) rfl (noPd rfl) rfl rfl rfl (fun v A' hR=>?_)
           obtain ⟨rfl,rfl⟩:=hR
           rw [show rgt (hasC (hasS c.kind) 114) (decide (c.rcode = 0) && (decide (c.rbits = 0) && true)) (true) = rg7 c from by simp [rg7,h7,h0]]
           cases hr7:rg7 c with
           | false =>
            simp only [hr1,hr2,hr3,hr4,hr5,hr6,hr7,Bool.true_and,Bool.false_and,Bool.and_false,Bool.and_true,Bool.false_eq_true,if_false,if_true]
            refine zg10 ?_
            exact ze8
           | true =>
            simp only [hr1,hr2,hr3,hr4,hr5,hr6,hr7,Bool.true_and,Bool.false_and,Bool.and_false,Bool.and_true,Bool.false_eq_true,if_false,if_true]
            refine zg10 ?_
            exact ze8
          ·skip
           refine zg11 ?_
           refine Ops.call (rgt_spec _ _ _) rfl (noPd rfl) rfl rfl rfl (fun v A' hR=>?_)
           obtain ⟨rfl,rfl⟩:=hR
           rw [show rgt (hasC (hasS c.kind) 114) (decide (c.rcode = 0) && (decide (c.rbits = 0) && true)) (decide (c.rbits = 0)) = rg7 c from by simp [rg7,h7,h0]]
           cases hr7:rg7 c with
           | false =>
            simp only [hr1,hr2,hr3,hr4,hr5,hr6,hr7,Bool.true_and,Bool.false_and,Bool.and_false,Bool.and_true,Bool.false_eq_true,if_false,if_true]
            refine zg10 ?_
            exact ze8
           | true =>
            simp only [hr1,hr2,hr3,hr4,hr5,hr6,hr7,Bool.true_and,Bool.false_and,Bool.and_false,Bool.and_true,Bool.false_eq_true,if_false,if_true]
            refine zg10 ?_
            exact ze8
         ·rw [decide_eq_false h7]
          refine zg6 ?_
          refine Ops.call (rgt_spec _ _ _) rfl (noPd rfl) rfl rfl rfl (fun v A' hR=>?_)
          obtain ⟨rfl,rfl⟩:=hR
          rw [show rgt (hasC (hasS c.kind) 114) (decide (c.rcode = 0) && (decide (c.rbits = 0) && true)) (false) = rg7 c from by simp [rg7,h7]]
          cases hr7:rg7 c with
          | false =>
           simp only [hr1,hr2,hr3,hr4,hr5,hr6,hr7,Bool.true_and,Bool.false_and,Bool.and_false,Bool.and_true,Bool.false_eq_true,if_false,if_true]
           refine zg10 ?_
           exact ze8
          | true =>
           simp only [hr1,hr2,hr3,hr4,hr5,hr6,hr7,Bool.true_and,Bool.false_and,Bool.and_false,Bool.and_true,Bool.false_eq_true,if_false,if_true]
           refine zg10 ?_
           exact ze8
      ·have hr5:rg5 c = false:=by
        unfold rg5 rgt
        split
        ·rw [decide_eq_false hs7,Bool.false_and]
        ·rw [decide_eq_false (by omega:¬ c.slot = 0),Bool.false_and]
       rw [decide_eq_false hs7]
       refine zg31 ?_
       refine Ops.call (rgt_spec _ _ _) rfl (noPd rfl) rfl rfl rfl (fun v A' hR=>?_)
       obtain ⟨rfl,rfl⟩:=hR
       rw [show rgt (hasC (hasS c.kind) 115) (false) (false) = rg5 c from by simp [rg5,hs0,hs7],hr5]
       simp only [hr1,hr2,hr3,hr4,hr5,Bool.true_and,Bool.false_and,Bool.and_false,Bool.and_true,Bool.false_eq_true,if_false,if_true]
       refine zg31 ?_
       exact ze8
theorem rgt_true {h z m:Bool} (e:rgt h z m = true):m = true ∨ z = true:=by
 unfold rgt at e
 split at e
 ·exact .inl e
 ·exact .inr e
theorem chOk_of {c:Ch} (h:checkF c = 0) (hx:0 ≤ c.rbits ∧ c.rbits < 18446744073709551616):ChOk c:=by
 unfold checkF at h
 split at h
 ·cases h
 ·rename_i hk
  have hk:=Classical.not_not.1 hk
  split at h
  ·rename_i hall
   simp only [Bool.and_eq_true] at hall
   obtain ⟨h1,h2,h3,h4,h5,h6,h7⟩:=hall
   have h1:=rgt_true h1
   have h2:=rgt_true h2
   have h3:=rgt_true h3
   have h4:=rgt_true h4
   have h5:=rgt_true h5
   have h6:=rgt_true h6
   have h7:=rgt_true h7
   simp only [decide_eq_true_eq,Bool.and_eq_true] at h1 h2 h3 h4 h5 h6 h7
   refine ⟨by omega,by omega,by omega,by omega,by omega,by omega,by omega,hx,?_,?_,?_⟩
   ·rcases h3 with h3|h3
    ·omega
    ·rw [h3];decide
   ·rcases h6 with h6|h6
    ·unfold textsF at h6
     simp only [Bool.and_eq_true,decide_eq_true_eq] at h6
     omega
    ·omega
   ·intro t ht
    rcases h6 with h6|h6
    ·unfold textsF at h6
     simp only [Bool.and_eq_true,Bool.not_eq_true',List.any_eq_false] at h6
     have:=h6.2 t ht
     simp only [longT,decide_eq_true_eq] at this
     omega
    ·have:c.txs = []:=List.length_eq_zero_iff.1 (by omega)
     rw [this] at ht
     cases ht
  ·cases h
structure Cg where
 c:Ch
 a:Option Addr
 k:Nat
@[reducible] def Cg.row (g:Cg):List Value:=g.c.row g.a g.k
theorem cgs_ok (l:List Cg):RowsOk 10 (l.map Cg.row):=rows_map (f:=Cg.row) (fun _=>⟨rfl,rfl⟩) l
structure CIn (B:Base) (a:Option Addr) (l:List Cg):Prop where
 r:RIn 10 B a (l.map Cg.row)
 s:∀ g ∈ l,SIn B g.a g.c.txs
 n:∀ g ∈ l,g.c.txs.length ≤ 2000000
 x:∀ g ∈ l,0 ≤ g.c.rbits ∧ g.c.rbits < 18446744073709551616
theorem CIn.ext {B B2:Base} {a:Option Addr} {l:List Cg} (e:Ext B B2) (h:CIn B a l):CIn B2 a l:=⟨h.r.ext e,fun g hg=>(h.s g hg).ext e,h.n,h.x⟩
theorem RIn.sin {B:Base} {a:Option Addr} {l:List ByteArray} (h:RIn 1 B a (l.map trow)):SIn B a l:=fun i s hs=>by
 obtain ⟨b,off,ha,hr⟩:=h i (trow s) (by rw [List.getElem?_map,hs];rfl)
 exact ⟨b,off,ha,fun A=>by simpa using hr A 0 _ rfl⟩
def encN (l:List Ch):Nat → ByteArray
 | 0=>numB l.length
 | i + 1=>encN l i ++ (match l[i]? with|some c=>putB c|none=>.empty)
def encodeF (l:List Ch):ByteArray × Int :=
 if ¬ (1 ≤ l.length ∧ l.length ≤ 16) then (⟨#[]⟩,82) else match l.find? fun c=>decide (checkF c ≠ 0) with
  | some c=>(⟨#[]⟩,checkF c)
  | none=>if 2048 < (encN l l.length).size then (⟨#[]⟩,82) else (encN l l.length,0)
theorem putB_size {c:Ch} (ok:ChOk c):(putB c).size ≤ 700000:=by
 have h1:=putN_size c ok (hasS c.kind).size
 have h2:=hasS_size c.kind
 unfold putB
 omega
theorem encode_spec (B0:Base) (a:Option Addr) (cp:Nat) (l:List Cg) (hC:CIn B0 a l) (hl:l.length ≤ 2000000):ConB Tryz.prog B0 97 #[.slice a l.length cp] [] fun v A=>v = .tuple #[.string (encodeF (l.map Cg.c)).1,.int .i64 (encodeF (l.map Cg.c)).2] ∧ A = []:=by
 refine ConB.intro (vs:=[_]) Tryz.func97 rfl Tryz.ntmps97 rfl (fun B hB=>?_)
 have henc:encodeF (l.map Cg.c) = if ¬ (1 ≤ (l.map Cg.c).length ∧ (l.map Cg.c).length ≤ 16) then (⟨#[]⟩,82) else match (l.map Cg.c).find? fun c=>decide (checkF c ≠ 0) with
  | some c=>(⟨#[]⟩,checkF c)
  | none=>if 2048 < (encN (l.map Cg.c) (l.map Cg.c).length).size then (⟨#[]⟩,(82:Int)) else (encN (l.map Cg.c) (l.map Cg.c).length,0):=rfl
 have hlm:(l.map Cg.c).length = l.length:=List.length_map _
 refine zg3 ?_
 refine Ops.call (rin_spec l.length 1 16) rfl (noPd rfl) rfl rfl rfl (fun v A' hR=>?_)
 obtain ⟨rfl,rfl⟩:=hR
 by_cases hb:1 ≤ l.length ∧ l.length ≤ 16
 case neg =>
  rw [if_pos (by rw [hlm];exact hb)] at henc
  rw [henc,decide_eq_false (by omega:¬ ((1:Int) ≤ (l.length:Nat) ∧ ((l.length:Nat):Int) ≤ 16))]
  refine zg15 ?_
  exact ze15
 rw [if_neg (by rw [hlm];exact not_not_intro hb)] at henc
 rw [decide_eq_true (⟨by omega,by omega⟩:(1:Int) ≤ (l.length:Nat) ∧ ((l.length:Nat):Int) ≤ 16)]
 refine zg6 ?_
 refine Ops.call (recnum_spec l.length (by omega) (by omega)) rfl (noPd rfl) rfl rfl rfl (fun v A' hR=>?_)
 obtain ⟨rfl,rfl⟩:=hR
 rw [Int.toNat_natCast]
 refine zg3 ?_
 refine Cd.loopK (σ:=Nat) (fun i=>i ≤ l.length ∧ (∀ g ∈ l.take i,checkF g.c = 0) ∧ (encN (l.map Cg.c) i).size ≤ 10 + i * 700000) (fun i=>[(4,.string (encN (l.map Cg.c) i)),(15,.slice a l.length cp),(16,.int .i64 l.length),(17,.int .i64 i)]) (fun _=>[]) (fun i=>l.length - i) 0
  ⟨Nat.zero_le _,fun g hg=>(by cases hg),by have:=numB_size (n:=l.length) (by omega);rw [encN,hlm];omega⟩ ⟨by rw [encN,hlm];rfl,rfl,rfl,rfl,trivial⟩ (fun w h=>h.split) (fun i hI=>?_)
 obtain ⟨hi,hall,hsz⟩:=hI
 by_cases hil:i < l.length
 ·have hil':(i:Int) < l.length:=by omega
  obtain ⟨g,hg⟩:∃ g,l[i]? = some g:=⟨_,List.getElem?_eq_getElem hil⟩
  have hgm:=List.mem_of_getElem? hg
  obtain ⟨b,off,hab,hrd⟩:=(hC.r.ext hB) i g.row (by rw [List.getElem?_map,hg];rfl)
  subst hab
  have hrw:∀ A j u,g.row[j]? = some u → Rd B.plain A b (off + (i:Int).toNat * 10 + j) u:=fun A j u hu=>by rw [Int.toNat_natCast];exact hrd A j u hu
  have hnext:encN (l.map Cg.c) (i + 1) = encN (l.map Cg.c) i ++ putB g.c:=by rw [encN,List.getElem?_map,hg];rfl
  refine zg24 ?_
  refine Ops.ldRN (r:=g.row) rfl rfl rfl rfl (hrw _) rfl ?_
  repeat' (first|refine Cd.seq ?_|refine Cd.reg ?_|refine Ops.ldN rfl rfl rfl rfl ?_|refine Ops.alloc rfl rfl rfl (noPd rfl) (fun b=>?_)|refine Ops.stN rfl rfl rfl rfl rfl rfl (noPd rfl) ?_)
  rename Nat=>gb
  refine Ops.callB (rcheck_spec B0 g.c g.a g.k (hC.s g hgm) (hC.n g hgm)) hB rfl (noPd rfl) rfl rfl rfl (fun v A' hR=>?_)
  obtain ⟨rfl,rfl⟩:=hR
  by_cases he:checkF g.c = 0
  ·rw [he]
   have hok:=chOk_of he (hC.x g hgm)
   have hpz:=putB_size hok
   refine zg13 ?_
   refine Ops.callB (put_spec B0 g.c g.a g.k (hC.s g hgm) hok) hB rfl (noPd rfl) rfl rfl rfl (fun v A' hR=>?_)
   obtain ⟨rfl,rfl⟩:=hR
   refine Ops.cat rfl rfl rfl rfl (by omega) rfl ?_
   rw [← hnext]
   refine zg18 ?_
   exact Ops.nilN (round_end (i + 1:Nat) ⟨by show i + 1 ≤ l.length;omega,fun q hq=>by
    rw [List.take_add_one,hg] at hq
    rcases List.mem_append.1 hq with hq|hq
    ·exact hall q hq
    ·rw [show (some g).toList = [g] from rfl,List.mem_singleton] at hq
     rw [hq];exact he,by show (encN (l.map Cg.c) (i + 1)).size ≤ 10 + (i + 1) * 700000;rw [hnext,ByteArray.size_append];omega⟩ zp15 ⟨rfl,rfl,rfl,rfl,trivial⟩ (fun w h=>h.split))
  ·have hf:(l.map Cg.c).find? (fun c=>decide (checkF c ≠ 0)) = some g.c:=by
    rw [List.find?_map]
    have h2:l.find? ((fun c=>decide (checkF c ≠ 0)) ∘ Cg.c) = some g:=by
     rw [List.find?_eq_some_iff_getElem]
     obtain ⟨h3,h4⟩:=List.getElem?_eq_some_iff.1 hg
     refine ⟨by simp [he],i,h3,h4,fun j hj=>?_⟩
     have:=hall (l[j]'(by omega)) (by rw [List.mem_take_iff_getElem];exact ⟨j,by omega,rfl⟩)
     simp [this]
    rw [h2];rfl
   rw [hf] at henc
   rw [henc]
   refine zg14 ?_
   exact ze15
 ·have hil':¬ (i:Int) < l.length:=by omega
  have hie:i = l.length:=by omega
  subst hie
  rw [List.take_length] at hall
  have hf:(l.map Cg.c).find? (fun c=>decide (checkF c ≠ 0)) = none:=by
   rw [List.find?_eq_none]
   intro c hc
   obtain ⟨g,hg,rfl⟩:=List.mem_map.1 hc
   simp [hall g hg]
  rw [hf] at henc
  rw [hlm] at henc
  dsimp only at henc
  by_cases hbig:2048 < (encN (l.map Cg.c) l.length).size
  ·have hbig':(2048:Int) < ((encN (l.map Cg.c) l.length).size:Nat):=by omega
   rw [if_pos hbig] at henc
   rw [henc]
   refine zg43 ?_
   exact ze15
  ·have hbig':¬ (2048:Int) < ((encN (l.map Cg.c) l.length).size:Nat):=by omega
   rw [if_neg hbig] at henc
   rw [henc]
   refine zg12 ?_
   exact ze15
end Go.Proofs.YtaecdnfkcebbeaaGreat
