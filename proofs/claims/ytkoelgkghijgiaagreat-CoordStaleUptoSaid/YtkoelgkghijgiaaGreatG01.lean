import Derived.Test.YtkoelgkghijgiaaGreatA01
import Derived.Test.YtkoelgkghijgiaaGreatA04
import Derived.Test.YtkoelgkghijgiaaGreatB01
import Derived.Test.YtkoelgkghijgiaaGreatC01
import Derived.Test.YtkoelgkghijgiaaGreatE01
import Derived.Test.YtkoelgkghijgiaaGreatA16
import Derived.Test.YtkoelgkghijgiaaGreatRows
import Derived.WalkKit
import Derived.ProofKit
import Derived.OpenShut
import Derived.ShutString
import Derived.ChangeOld
import Derived.Below
import Derived.JoinedCond
import Derived.Lib.SmallJoins
set_option linter.unusedVariables false
set_option linter.unusedSimpArgs false
namespace Go.Proofs.YtkoelgkghijgiaaGreat
open Go Go.Sep Go.Proofs Go.Proofs.Tryz
set_option maxRecDepth 10000
set_option maxHeartbeats 40000000
set_option synthInstance.maxSize 2000
structure StS where
 i:Nat
 o:Co
 A:List Blk
structure StI (c:Cf) (len0 xb db len:Nat) (t:StS):Prop where
 i:t.i ≤ len
 o:CoOk c len0 (2 * t.i) t.o
 a:CoP xb db c (2 * t.i) t.o t.A
 r:t.o.rs.length ≤ 8
 s:SlotI t.o.rs
def skipB (c:Cf) (p:LOp):Bool:=decide (p.kind ≠ 1 ∨ wcheckF p.m ≠ 0 ∨ p.m.kind < 2 ∨ 4 < p.m.kind ∨ p.node < 2 ∨ 2 + c.runners ≤ p.node ∨ p.life < 1 ∨ 1099511627776 ≤ p.life)
def hitB (slot life session:Int) (d:Se.Dk):Bool:=decide (d.slot = slot ∧ d.life = life ∧ d.session = session)
def knB (slot life session:Int) (l:List Se.Dk):Bool:=l.any (hitB slot life session)
theorem knB_next {slot life session:Int} {l:List Se.Dk} {k:Nat} {d:Se.Dk} (h:l[k]? = some d):knB slot life session (l.take (k + 1)) = (knB slot life session (l.take k) || hitB slot life session d):=by
 unfold knB
 rw [List.take_add_one,h,List.any_append]
 simp
theorem stale_no (B0:Base) (c:Cf) (hc:¬ CfOk c) (sa:Option Addr) (len cap:Nat):ConB prog B0 5 #[.agg c.row.toArray,.slice sa len cap] [] fun v A=>v = .bool true ∧ A = []:=by
 refine zqJ (vs:=[_,_]) func5 ntmps5 fun B hB=>?_
 repeat' (first|refine zs1 ?_|refine Ops.box rfl rfl rfl rfl (noPd rfl) (fun b=>?_))
 refine zqA (begun_no c hc) fun v A' hR=>?_
 obtain ⟨rfl,rfl⟩:=hR
 refine zg4 ?_
 refine zqA (rcheck18_spec c) fun v A' hR=>?_
 obtain ⟨rfl,rfl⟩:=hR
 rw [show checkC c = 180 from if_neg hc]
 refine zg3 ?_
 refine zqB (fixed_spec B0) hB fun v A' hR=>?_
 obtain ⟨rfl,rfl⟩:=hR
 refine zg6 ?_
 exact ze9
theorem stale_yes (B0:Base) (c:Cf) (hc:CfOk c) (sa:Option Addr) (len cap:Nat) (ops:List LOp) (hs:ScrIn B0 sa len ops) (hlen:len ≤ 131072):ConB prog B0 5 #[.agg c.row.toArray,.slice sa len cap] [] fun v A=>v = .bool true ∧ A = []:=by
 obtain ⟨q1,q2,q3,q4⟩:=lenC_room hc
 obtain ⟨⟨cr1,cr2⟩,_⟩:=id hc
 obtain ⟨hol,hops⟩:=hs
 refine zqJ (vs:=[_,_]) func5 ntmps5 fun B hB=>?_
 repeat' (first|refine zs1 ?_|refine Ops.box rfl rfl rfl rfl (noPd rfl) (fun b=>?_))
 rename Nat=>cb
 refine zqB (begun_yes B0 c hc) hB fun v A' hR=>?_
 obtain ⟨db,xb,rfl,hP⟩:=hR
 rename List Blk=>A0
 refine zg4 ?_
 refine Cd.loopK (StI c (lenC c) xb db len) (fun t=>[(1,.slice sa len cap),(2,ptr cb),(5,ptr db),(6,ptr xb),(7,.int .i64 t.i)]) (fun t=>CfB cb c :: t.A) (fun t=>len - t.i) ⟨0,co0 c,A0⟩ ⟨Nat.zero_le _,co0_ok hc,hP,co0_rsl hc,co0_slotI c⟩ ⟨rfl,rfl,rfl,rfl,rfl,trivial⟩ (fun w h=>h.split) (fun t ht=>?_)
 clear hP A0
 obtain ⟨i,o,A⟩:=t
 obtain ⟨hi,hok,hA,hrl,hsl⟩:=ht
 dsimp only at hi hok hA hrl hsl ⊢
 by_cases hil:i < len
 ·have hil':(i:Int) < len:=by omega
  obtain ⟨p,hp⟩:∃ p,ops[i]? = some p:=⟨_,List.getElem?_eq_getElem (by omega)⟩
  obtain ⟨hpo,b,off,rfl,hrd⟩:=hops i p hp
  have hrw:∀ A j u,p.row[j]? = some u → Rd B.plain A b (off + (i:Int).toNat * 18 + j) u:=fun A j u hu=>by rw [Int.toNat_natCast];exact (hrd A j u hu).ext hB
  have hn2:2 * i + 1 + 1 = 2 * (i + 1):=by omega
  generalize hcb:Code.seq (Code.block 1 _) _ = c1
  refine zg2 ?_
  subst hcb
  refine Cd.cut (σ:=StS) (fun t=>t.i = i ∧ CoOk c (lenC c) (2 * (i + 1)) t.o ∧ CoP xb db c (2 * (i + 1)) t.o t.A ∧ t.o.rs.length ≤ 8 ∧ SlotI t.o.rs) (fun _=>[(1,.slice (some ⟨b,off,none⟩) len cap),(2,ptr cb),(5,ptr db),(6,ptr xb),(7,.int .i64 i)]) (fun t=>CfB cb c :: t.A) ?_ (fun t ht=>?_)
  ·refine Cd.block ?_
   refine zg15 ?_
   refine Ops.ldRN (r:=p.row) rfl rfl rfl rfl (hrw _) rfl ?_
   repeat' (first|refine zs3 ?_|refine Ops.alloc rfl rfl rfl (noPd rfl) (fun b=>?_))
   rename Nat=>pb
   refine zqB (does2_spec B0 xb db c hc (lenC c) (2 * i) q1 (by omega) o hok A hA p hpo) hB fun v A' hR=>?_
   obtain ⟨⟨bb,rfl⟩,o1,hok1,hD,hP1⟩:=hR
   have hr1:o1.rs.length ≤ 8:=by rw [hD.rsl];exact hrl
   have hs1:=hD.slotI hsl
   clear hok hA hrl hsl hD
   rename List Blk=>A1
   generalize hc10:Code.seq (Code.seq (Code.region 10 _ _) _) _ = c10
   repeat' (first|refine zs3 ?_|refine Ops.alloc rfl rfl rfl (noPd rfl) (fun b=>?_))
   rename Nat=>mb
   subst hc10
   refine Cd.seq ?_
   refine Cd.cut (σ:=Unit) (fun _=>True) (fun _=>[(1,.slice (some ⟨b,off,none⟩) len cap),(2,ptr cb),(5,ptr db),(6,ptr xb),(7,.int .i64 i),(8,ptr pb),(9,ptr mb),(90,.bool (skipB c p))]) (fun _=>CfB cb c :: OpB pb p :: Mb7 mb p.m :: A1) ?_ (fun _ _=>?_)
   ·generalize hsk:skipB c p = sk
    unfold skipB at hsk
    by_cases k1:p.kind = 1
    case neg =>
     obtain rfl:sk = true:=by rw [← hsk];exact decide_eq_true (.inl k1)
     refine zg7 ?_
     exact ze26
    refine zg11 ?_
    refine zqA (check7_full p.m hpo.x) fun v A' hR=>?_
    obtain ⟨rfl,rfl⟩:=hR
    rw [check7_eq]
    generalize wcheckF p.m = we at hsk ⊢
    by_cases k2:we = 0
    case neg =>
     obtain rfl:sk = true:=by rw [← hsk];exact decide_eq_true (.inr (.inl k2))
     refine zg7 ?_
     exact ze26
    subst k2
    by_cases k3:p.m.kind < 2
    case pos =>
     obtain rfl:sk = true:=by rw [← hsk];exact decide_eq_true (by omega)
     refine zg7 ?_
     exact ze26
    by_cases k4:4 < p.m.kind
    case pos =>
     obtain rfl:sk = true:=by rw [← hsk];exact decide_eq_true (by omega)
     refine zg12 ?_
     exact ze26
    by_cases k5:p.node < 2
    case pos =>
     obtain rfl:sk = true:=by rw [← hsk];exact decide_eq_true (by omega)
     refine zg12 ?_
     exact ze26
    by_cases k6:2 + c.runners ≤ p.node
    case pos =>
     obtain rfl:sk = true:=by rw [← hsk];exact decide_eq_true (by omega)
     refine zg12 ?_
     exact ze26
    by_cases k7:p.life < 1
    case pos =>
     obtain rfl:sk = true:=by rw [← hsk];exact decide_eq_true (by omega)
     refine zg12 ?_
     exact ze26
    by_cases k8:1099511627776 ≤ p.life
    case pos =>
     obtain rfl:sk = true:=by rw [← hsk];exact decide_eq_true (by omega)
     refine zg12 ?_
     exact Ops.nilN (meet_end (Q:=fun _ _ _=>True) () trivial ⟨rfl,rfl,rfl,rfl,rfl,rfl,rfl,congrArg (fun q=>some (Value.bool q)) (decide_eq_true k8),trivial⟩ (fun w h=>h.split))
    obtain rfl:sk = false:=by rw [← hsk];exact decide_eq_false (by omega)
    refine zg12 ?_
    exact Ops.nilN (meet_end (Q:=fun _ _ _=>True) () trivial ⟨rfl,rfl,rfl,rfl,rfl,rfl,rfl,congrArg (fun q=>some (Value.bool q)) (decide_eq_false k8),trivial⟩ (fun w h=>h.split))
   by_cases hsk:skipB c p = true
   ·rw [hsk]
    refine zg3 ?_
    rw [← hn2]
    exact Cd.exit (inTx (inBs (meet_end (Q:=fun _ _ _=>True) (⟨i,o1,A1⟩:StS) ⟨rfl,hok1.later,hP1.on,hr1,hs1⟩ ⟨rfl,rfl,rfl,rfl,rfl,trivial⟩ (fun w h=>h.split))))
   rw [Bool.not_eq_true] at hsk
   rw [hsk]
   obtain ⟨k1,k2,k3,k4,k5,k6,k7,k8⟩:p.kind = 1 ∧ wcheckF p.m = 0 ∧ ¬ p.m.kind < 2 ∧ ¬ 4 < p.m.kind ∧ ¬ p.node < 2 ∧ ¬ 2 + c.runners ≤ p.node ∧ ¬ p.life < 1 ∧ ¬ 1099511627776 ≤ p.life:=by
    have:=of_decide_eq_false hsk
    omega
   have hrun:runB c p.node (p.life + 1) = true:=decide_eq_true (by omega)
   repeat' (first|refine zs7 ?_|refine Ops.alloc rfl rfl rfl (noPd rfl) (fun b=>?_))
   rename Nat=>fb
   refine zqB (co_sessions B0 xb db c (2 * i + 1) o1 A1 hP1 (by omega)) hB fun v A' hR=>?_
   obtain ⟨H1,A2,rfl,hO1,hP2⟩:=hR
   obtain ⟨ha1,hc1,rfl⟩:=id hO1.form
   have hlr:(o1.rs.filter Se.liveB).length ≤ 8:=by have:=List.length_filter_le Se.liveB o1.rs;omega
   generalize hlv:o1.rs.filter Se.liveB = lv at hO1 hlr
   generalize hc14:Code.seq (Code.seq (Code.region 14 _ _) _) _ = c14
   refine zg0 ?_
   subst hc14
   refine Cd.cut (σ:=Unit) (fun _=>True) (fun _=>[(1,.slice (some ⟨b,off,none⟩) len cap),(2,ptr cb),(5,ptr db),(6,ptr xb),(7,.int .i64 i),(8,ptr pb),(9,ptr mb),(10,ptr fb),(11,.bool (knB (p.node - 2) (p.life + 1) p.m.session lv)),(12,.slice ha1 lv.length hc1)]) (fun _=>CfB cb c :: OpB pb p :: Mb7 mb p.m :: (fb,cl [.int .i64 p.node,.int .i64 (p.life + 1)] 33) :: (H1 ++ A2)) ?_ (fun _ _=>?_)
   rotate_left
   ·by_cases hkn:knB (p.node - 2) (p.life + 1) p.m.session lv = true
    ·rw [hkn]
     refine zg0 ?_
     refine zqB (co_view_ B0 xb db c (lenC c) (2 * i + 1) o1 hok1 A2 hP2) hB fun v A' hR=>?_
     obtain ⟨V1,A3,rfl,hV1,hP3⟩:=hR
     obtain ⟨va1,_,_,rfl,_⟩:=id hV1
     refine zg0 ?_
     refine zqB (co_sectors B0 xb db c (lenC c) (2 * i + 1) q1 o1 hok1 A3 hP3) hB fun v A' hR=>?_
     obtain ⟨K1,A4,rfl,hK1,hP4⟩:=hR
     obtain ⟨ka1,kc1,rfl⟩:=hK1.form
     repeat' (first|refine zs2 ?_|refine Ops.alloc rfl rfl rfl (noPd rfl) (fun b=>?_))
     rw [← hn2]
     exact Cd.exit (inTx (inBs (meet_end (Q:=fun _ _ _=>True) (⟨i,o1,A4⟩:StS) ⟨rfl,hok1.later,hP4.on,hr1,hs1⟩ ⟨rfl,rfl,rfl,rfl,rfl,trivial⟩ (fun w h=>h.split))))
    rw [Bool.not_eq_true] at hkn
    have hno:∀ d ∈ o1.rs.filter Se.liveB,¬ (d.slot = p.node - 2 ∧ d.life = p.life + 1 ∧ d.session = p.m.session):=fun d hd q=>by
     rw [hlv] at hd
     have:=List.any_eq_false.1 hkn d hd
     exact this (decide_eq_true q)
    rw [hkn]
    refine zg0 ?_
    refine zqB (co_view_ B0 xb db c (lenC c) (2 * i + 1) o1 hok1 A2 hP2) hB fun v A' hR=>?_
    obtain ⟨V1,A3,rfl,hV1,hP3⟩:=hR
    obtain ⟨va1,_,_,rfl,_⟩:=id hV1
    refine zg0 ?_
    refine zqB (co_sectors B0 xb db c (lenC c) (2 * i + 1) q1 o1 hok1 A3 hP3) hB fun v A' hR=>?_
    obtain ⟨K1,A4,rfl,hK1,hP4⟩:=hR
    obtain ⟨ka1,kc1,rfl⟩:=id hK1.form
    repeat' (first|refine zs2 ?_|refine Ops.alloc rfl rfl rfl (noPd rfl) (fun b=>?_))
    rename Nat=>vb
    refine zqB (said_spec B0 xb db c hc (lenC c) (2 * i + 1) q1 (by omega) o1 hok1 A4 hP4 p.node (p.life + 1) p.m hpo.x k2) hB fun v A' hR=>?_
    obtain ⟨reply,o2,hH,hP5,rfl⟩:=hR
    rename List Blk=>A5
    obtain ⟨rfl,rfl⟩:=stale_hear hs1 k2 hpo.x ⟨by omega,by omega⟩ hrun hno hH
    obtain ⟨b1,b2⟩:=req_bounds k2 ⟨by omega,by omega⟩
    rw [saidV_enc (reqM_check (.inl rfl) b1 b2) ⟨Int.le_refl _,by show (0:Int) < _;omega⟩]
    repeat' (first|refine zs0 ?_|refine Ops.alloc rfl rfl rfl (noPd rfl) (fun b=>?_))
    rename Nat=>rb
    refine zdr [qz 0,qz 1,qz 2,qy 3,qz 4,qy 5,qz 6,qy 7,qz 8,qz 9,qz 10,qz 11,qy 12,qz 13,(14,2,[12]),(15,2,[]),qz 16,qz 17,qz 18,qz 19,qz 20,(21,2,[]),(22,2,[]),qz 23,qz 24,qz 25,qz 26,qz 27,(28,2,[]),(29,2,[]),qz 30,qz 31] ?_
    refine zg3 ?_
    refine Ops.callB (co_view_ B0 xb db c (lenC c) (2 * i + 1 + 1) o2 hok1.later A5 hP5) hB rfl zp9 rfl rfl rfl (fun v A' hR=>?_)
    obtain ⟨V2,A6,rfl,hV2,hP6⟩:=hR
    obtain ⟨va2,_,_,rfl,_⟩:=id hV2
    refine Ops.callB (same_spec B0 _ _ o2.q.st hok1.cq.ok V1 V2 hV1 hV2) hB rfl (noPd rfl) rfl rfl rfl (fun v A' hR=>?_)
    obtain ⟨rfl,rfl⟩:=hR
    refine zg3 ?_
    refine zqB (co_sessions B0 xb db c (2 * i + 1 + 1) o2 A6 hP6 (by omega)) hB fun v A' hR=>?_
    obtain ⟨H2,A7,rfl,hO2,hP7⟩:=hR
    rw [hlv] at hO2
    obtain ⟨ha2,hc2,rfl⟩:=id hO2.form
    refine Ops.call (Se.same13 _ _ lv H1 H2 hO1 hO2 (by omega)) rfl (noPd rfl) rfl rfl rfl (fun v A' hR=>?_)
    obtain ⟨rfl,rfl⟩:=hR
    refine zg3 ?_
    refine zqB (co_sectors B0 xb db c (lenC c) (2 * i + 1 + 1) q1 o2 hok1.later A7 hP7) hB fun v A' hR=>?_
    obtain ⟨K2,A8,rfl,hK2,hP8⟩:=hR
    obtain ⟨ka2,kc2,rfl⟩:=id hK2.form
    refine Ops.call (same4_spec _ _ o2.x.S K1 K2 hK1 hK2 (by have:=hok1.lg.cm.len;omega)) rfl (noPd rfl) rfl rfl rfl (fun v A' hR=>?_)
    obtain ⟨rfl,rfl⟩:=hR
    refine zg4 ?_
    all_goals skip
    rw [hn2] at hP8
    exact Cd.skip (inB (meet_end (Q:=fun _ _ _=>True) (⟨i,o2,A8⟩:StS) ⟨rfl,by rw [← hn2];exact hok1.later,hP8,hr1,hs1⟩ ⟨rfl,rfl,rfl,rfl,rfl,trivial⟩ (fun w h=>h.split)))
   refine zg1 ?_
   refine Cd.loopK (σ:=Nat) (fun k=>k ≤ lv.length) (fun k=>[(1,.slice (some ⟨b,off,none⟩) len cap),(2,ptr cb),(5,ptr db),(6,ptr xb),(7,.int .i64 i),(8,ptr pb),(9,ptr mb),(10,ptr fb),(11,.bool (knB (p.node - 2) (p.life + 1) p.m.session (lv.take k))),(12,.slice ha1 lv.length hc1),(13,.int .i64 k)]) (fun _=>CfB cb c :: OpB pb p :: Mb7 mb p.m :: (fb,cl [.int .i64 p.node,.int .i64 (p.life + 1)] 33) :: (H1 ++ A2)) (fun k=>lv.length - k) 0 (Nat.zero_le _) ⟨rfl,rfl,rfl,rfl,rfl,rfl,rfl,rfl,rfl,rfl,rfl,trivial⟩ (fun w h=>h.split) (fun k hk=>?_)
   by_cases hkl:k < lv.length
   ·have hkl':(k:Int) < lv.length:=by omega
    obtain ⟨d,hd⟩:∃ d,lv[k]? = some d:=⟨_,List.getElem?_eq_getElem hkl⟩
    have hdr:(Se.dks lv)[(k:Int).toNat]? = some d.row:=map_at hd
    have hkk:=Se.dks_ok lv
    have hnx:=knB_next (slot:=p.node - 2) (life:=p.life + 1) (session:=p.m.session) hd
    obtain ⟨g1,d1,sp1,e1,rfl,_,_⟩:=hO1.some_ (by omega)
    injection e1 with z1 z2 z3
    subst z1;subst z3
    clear z2
    generalize knB (p.node - 2) (p.life + 1) p.m.session (lv.take k) = kn at hnx ⊢
    cases kn
    ·rw [Bool.false_or] at hnx
     by_cases j1:d.slot = p.node - 2
     ·by_cases j2:d.life = p.life + 1
      ·by_cases j3:d.session = p.m.session
       ·rw [show hitB (p.node - 2) (p.life + 1) p.m.session d = true from decide_eq_true ⟨j1,j2,j3⟩] at hnx
        refine zg2 ?_
        refine zdr [qz 0,qz 1,qz 2,qz 3,qz 4,qz 5,qy 6,qz 7,qy 8,qz 9,qz 10,qz 11,qz 12,qz 13,qz 14,qz 15,qy 16,qz 17,qy 18,qz 19,qz 20,qz 21,qz 22,qz 23,qz 24,qz 25,qy 26,qz 27,qy 28,qz 29,qz 30,qz 31,(32,2,[])] ?_
        refine zg10 ?_
        all_goals skip
        exact Ops.nilN (round_end (k + 1:Nat) (by show k + 1 ≤ lv.length;omega) zp19 ⟨rfl,rfl,rfl,rfl,rfl,rfl,rfl,rfl,congrArg (fun q=>some (Value.bool q)) ((decide_eq_true j3).trans hnx.symm),rfl,rfl,trivial⟩ (fun w h=>h.split))
       ·rw [show hitB (p.node - 2) (p.life + 1) p.m.session d = false from decide_eq_false (fun q=>j3 q.2.2)] at hnx
        refine zg2 ?_
        refine zdr [qz 0,qz 1,qz 2,qz 3,qz 4,qz 5,qy 6,qz 7,qy 8,qz 9,qz 10,qz 11,qz 12,qz 13,qz 14,qz 15,qy 16,qz 17,qy 18,qz 19,qz 20,qz 21,qz 22,qz 23,qz 24,qz 25,qy 26,qz 27,qy 28,qz 29,qz 30,qz 31,(32,2,[])] ?_
        refine zg10 ?_
        all_goals skip
        exact Ops.nilN (round_end (k + 1:Nat) (by show k + 1 ≤ lv.length;omega) zp19 ⟨rfl,rfl,rfl,rfl,rfl,rfl,rfl,rfl,congrArg (fun q=>some (Value.bool q)) ((decide_eq_false j3).trans hnx.symm),rfl,rfl,trivial⟩ (fun w h=>h.split))
      ·rw [show hitB (p.node - 2) (p.life + 1) p.m.session d = false from decide_eq_false (fun q=>j2 q.2.1)] at hnx
       refine zg2 ?_
       refine zdr [qz 0,qz 1,qz 2,qz 3,qz 4,qz 5,qy 6,qz 7,qy 8,qz 9,qz 10,qz 11,qz 12,qz 13,qz 14,qz 15,qy 16,qz 17,qy 18,qz 19,qz 20,qz 21,qz 22,qz 23,qz 24,qz 25,qy 26,qz 27,qy 28,qz 29,qz 30,qz 31,(32,2,[])] ?_
       refine zg10 ?_
       all_goals skip
       exact ze27
     ·rw [show hitB (p.node - 2) (p.life + 1) p.m.session d = false from decide_eq_false (fun q=>j1 q.1)] at hnx
      refine zg2 ?_
      refine zdr [qz 0,qz 1,qz 2,qz 3,qz 4,qz 5,qy 6,qz 7,qy 8,qz 9,qz 10,qz 11,qz 12,qz 13,qz 14,qz 15,qy 16,qz 17,qy 18,qz 19,qz 20,qz 21,qz 22,qz 23,qz 24,qz 25,qy 26,qz 27,qy 28,qz 29,qz 30,qz 31,(32,2,[])] ?_
      refine zg10 ?_
      all_goals skip
      exact ze27
    ·rw [Bool.true_or] at hnx
     refine zg2 ?_
     refine zdr [qz 0,qz 1,qz 2,qz 3,qz 4,qz 5,qy 6,qz 7,qy 8,qz 9,qz 10,qz 11,qz 12,qz 13,qz 14,qz 15,qy 16,qz 17,qy 18,qz 19,qz 20,qz 21,qz 22,qz 23,qz 24,qz 25,qy 26,qz 27,qy 28,qz 29,qz 30,qz 31,(32,2,[])] ?_
     refine zg13 ?_
     all_goals skip
     exact ze27
   ·have hkl':¬ (k:Int) < lv.length:=by omega
    rw [List.take_of_length_le (by omega)]
    refine zg2 ?_
    exact Cd.exit (inTx (roundX (inBs (meet_end (Q:=fun _ _ _=>True) () trivial ⟨rfl,rfl,rfl,rfl,rfl,rfl,rfl,rfl,rfl,rfl,trivial⟩ (fun w h=>h.split)))))
  ·obtain ⟨j,o2,A2⟩:=t
   obtain ⟨ej,g1,g2,g3,g4⟩:=ht
   obtain rfl:i = j:=ej.symm
   dsimp only at g1 g2 g3 g4 ⊢
   refine zg9 ?_
   exact Ops.nilN (round_end (⟨i + 1,o2,A2⟩:StS) ⟨by show i + 1 ≤ len;omega,g1,g2,g3,g4⟩ (by show len - (i + 1) < len - i;omega) ⟨rfl,rfl,rfl,rfl,rfl,trivial⟩ (fun w h=>h.split))
 ·have hil':¬ (i:Int) < len:=by omega
  refine zg2 ?_
  refine zqB (fixed_spec B0) hB fun v A' hR=>?_
  obtain ⟨rfl,rfl⟩:=hR
  refine zg0 ?_
  exact ze9
theorem stale_spec (B0:Base) (c:Cf) (sa:Option Addr) (len cap:Nat) (ops:List LOp) (hs:ScrIn B0 sa len ops) (hlen:len ≤ 131072):ConB prog B0 5 #[.agg c.row.toArray,.slice sa len cap] [] fun v A=>v = .bool true ∧ A = []:=by
 by_cases hc:CfOk c
 ·exact stale_yes B0 c hc sa len cap ops hs hlen
 ·exact stale_no B0 c hc sa len cap
end Go.Proofs.YtkoelgkghijgiaaGreat
namespace Go.Proofs.YtkoelgkghijgiaaGreat.coordStaleDone
open Go Go.Sep Go.Proofs Go.Proofs.Tryz
open Go.ChangeShapes Go.WideShapes Go.ChangeAt Go.RowKit
set_option synthInstance.maxSize 2000
instance (priority:=700) flat11 {P:Program} {ft start:Nat} {fl:List (TypeId × Nat)} {k1 k2 k3 k4 k5 k6 k7 k8 k9 k10 k11:LK} {k0:List LK} [h1:FlatT P ft [k1,k2,k3,k4,k5,k6,k7,k8,k9,k10,k11]] [h2:FlatF P fl (start + 11) k0]:FlatF P ((ft,start) :: fl) start (k1 :: k2 :: k3 :: k4 :: k5 :: k6 :: k7 :: k8 :: k9 :: k10 :: k11 :: k0):=FlatF.step h1 h2 rfl
theorem own:ownKnob prog.godebug = none:=by kernel_rfl
theorem laidOut:laidOutB prog = true:=by kernel_rfl
theorem script_of {w:World} {a:Option Addr} {len:Nat} (h:InRows w 18 [.int .i64,.int .i64,.int .i64,.int .i64,.int .i64,.int .i64,.int .i64,.int .i64,.int .i64,.int .i64,.int .i64,.int .i64,.int .i64,.int .i64,.int .u64,.str,.str,.str] a len):∃ ops,ScrIn (baseOf w) a len ops:=by
 obtain ⟨l,hl,hp⟩:=exists_list (α:=LOp) (p:=fun i o=>o.Ok ∧ ∃ b off,a = some ⟨b,off,none⟩ ∧ ∀ (A:List Blk) (j:Nat) (u:Value),o.row[j]? = some u → Rd (baseOf w) A b (off + i * 18 + j) u) len (fun i hi=>by
  obtain ⟨b,o,cs,rfl,hlen,hall,hc⟩:=h i hi
  match cs,hlen with
  | [v0,v1,v2,v3,v4,v5,v6,v7,v8,v9,v10,v11,v12,v13,v14,v15,v16,v17],_ =>
   obtain ⟨⟨n0,rfl,_⟩,⟨n1,rfl,_⟩,⟨n2,rfl,_⟩,⟨n3,rfl,_⟩,⟨n4,rfl,_⟩,⟨n5,rfl,_⟩,⟨n6,rfl,_⟩,⟨n7,rfl,_⟩,⟨n8,rfl,_⟩,⟨n9,rfl,_⟩,⟨n10,rfl,_⟩,⟨n11,rfl,_⟩,⟨n12,rfl,_⟩,⟨n13,rfl,_⟩,⟨n14,rfl,hx⟩,⟨s15,rfl,_⟩,⟨s16,rfl,_⟩,⟨s17,rfl,h17⟩,_⟩:=hall
   refine ⟨⟨n0,n1,n2,n3,n4,n5,⟨n6,n7,n8,n9,n10,n11,n12,n13,n14,s15,s16⟩,s17⟩,⟨?_,?_⟩,b,o,rfl,fun A j u hu=>rd_base (hc j u hu)⟩
   ·simp only [Lit.wf,IntKind.wrap,IntKind.bits,IntKind.signed,Bool.false_and,Bool.false_eq_true,if_false,beq_iff_eq,decide_eq_true_eq,Bool.and_eq_true] at hx
    have e1:IntKind.u64.min = 0:=by decide
    have e2:IntKind.u64.max = 18446744073709551615:=by decide
    show (0:Int) ≤ n14 ∧ n14 < 18446744073709551616
    omega
   ·have h2:maxLen < 9223372036854775808:=by decide
    show s17.size < _
    omega)
 exact ⟨l,hl,hp⟩
set_option maxRecDepth 100000 in
theorem config_of {H:Type} {enc:TypeId × Value → H} {W:World} {base:Nat} {spare:Nat → Bool} {held:Bool} {v:Value} {d:DataW H} {p:List MemPlace} (hv:Value.okWide prog W .any base 23 v) (h:DataW.Trod enc prog W 0 spare held 23 v d p):∃ c:Cf,v = .agg c.row.toArray:=by
 obtain ⟨cs,rfl,hsz⟩:=okWide_struct underlying23 hv
 obtain ⟨fuel,hf⟩:=h
 obtain ⟨xs,n,_,_,_,hlen,hfl⟩:=DataW.trod_struct underlying23 hf
 have h9:cs.size = 9:=hsz.trans (by kernel_rfl)
 obtain ⟨l⟩:=cs
 match l,xs,h9,hlen with
 | [v0,v1,v2,v3,v4,v5,v6,v7,v8],[y0,y1,y2,y3,y4,y5,y6,y7,y8],_,_ =>
  have g0:DataW.trod enc prog W 0 spare held n 3 [v0] = some y0:=hfl 0 _ rfl
  obtain ⟨a0,e0,_,_⟩:=DataW.trod_int underlying3 g0
  injection e0 with e0 _
  subst e0
  have g1:DataW.trod enc prog W 0 spare held n 3 [v1] = some y1:=hfl 1 _ rfl
  obtain ⟨a1,e1,_,_⟩:=DataW.trod_int underlying3 g1
  injection e1 with e1 _
  subst e1
  have g2:DataW.trod enc prog W 0 spare held n 3 [v2] = some y2:=hfl 2 _ rfl
  obtain ⟨a2,e2,_,_⟩:=DataW.trod_int underlying3 g2
  injection e2 with e2 _
  subst e2
  have g3:DataW.trod enc prog W 0 spare held n 3 [v3] = some y3:=hfl 3 _ rfl
  obtain ⟨a3,e3,_,_⟩:=DataW.trod_int underlying3 g3
  injection e3 with e3 _
  subst e3
  have g4:DataW.trod enc prog W 0 spare held n 3 [v4] = some y4:=hfl 4 _ rfl
  obtain ⟨a4,e4,_,_⟩:=DataW.trod_int underlying3 g4
  injection e4 with e4 _
  subst e4
  have g5:DataW.trod enc prog W 0 spare held n 3 [v5] = some y5:=hfl 5 _ rfl
  obtain ⟨a5,e5,_,_⟩:=DataW.trod_int underlying3 g5
  injection e5 with e5 _
  subst e5
  have g6:DataW.trod enc prog W 0 spare held n 3 [v6] = some y6:=hfl 6 _ rfl
  obtain ⟨a6,e6,_,_⟩:=DataW.trod_int underlying3 g6
  injection e6 with e6 _
  subst e6
  have g7:DataW.trod enc prog W 0 spare held n 3 [v7] = some y7:=hfl 7 _ rfl
  obtain ⟨a7,e7,_,_⟩:=DataW.trod_int underlying3 g7
  injection e7 with e7 _
  subst e7
  have g8:DataW.trod enc prog W 0 spare held n 3 [v8] = some y8:=hfl 8 _ rfl
  obtain ⟨a8,e8,_,_⟩:=DataW.trod_int underlying3 g8
  injection e8 with e8 _
  subst e8
  exact ⟨⟨a0,a1,a2,a3,a4,a5,a6,a7,a8⟩,rfl⟩
theorem coord_stale (w:World) (c:Cf) (sa:Option Addr) (len cap:Nat) (ops:List LOp) (hs:ScrIn (baseOf w) sa len ops) (hlen:len ≤ 131072):Calls prog 5 #[.agg c.row.toArray,.slice sa len cap] w fun e w'=>e = .returned (.bool true) ∧ RowKit.Below w.heap.size w w' :=
 ((stale_spec (baseOf w) c sa len cap ops hs hlen) (baseOf w) w (Ext.refl _) (sat_baseOf w)).mono fun e w' ⟨v,A',he,⟨hv,_⟩,hS⟩=>⟨by rw [he,hv],hS.below⟩
set_option maxRecDepth 100000 in
theorem lifted (os:Os) (started:os.Started) (H:Type) (enc:TypeId × Value → H) (F:Stop.Interp) :
  ReturnsInHanded {} Tryz.checked os 5 .any ((Rows.OpenSpec.upto Rows.coordStaleSpec).pre6 enc prog Tryz.f5 Rows.coordStaleUptoRow.domain false) (((Rows.OpenSpec.upto Rows.coordStaleSpec).at F).post enc prog Tryz.f5 false true false false):=by
 refine returnsInHanded_of_cond (C:=Tryz.checked) (s:=Rows.OpenSpec.upto Rows.coordStaleSpec) (k:=Rows.uptoSmall) rfl own started (by kernel_rfl) func5
  (OpenSpec.witness (enc:=enc) (C:=Tryz.checked) (s:=Rows.OpenSpec.upto Rows.coordStaleSpec) (k:=Rows.uptoSmall) rfl false ⟨#[],#[.agg #[.int .i64 0,.int .i64 0,.int .i64 0,.int .i64 0,.int .i64 0,.int .i64 0,.int .i64 0,.int .i64 0,.int .i64 0],.slice none 0 0],[]⟩ 8 (by kernel_rfl) (by kernel_rfl) (by kernel_rfl)
   (x:=([.agg [.lit (.int .i64 0),.lit (.int .i64 0),.lit (.int .i64 0),.lit (.int .i64 0),.lit (.int .i64 0),.lit (.int .i64 0),.lit (.int .i64 0),.lit (.int .i64 0),.lit (.int .i64 0)],.nil],[],[])) (by kernel_rfl) rfl (by kernel_rfl)) ?_
 intro W base args ds gs before hval0 hW hcnd hk _
 have hval:∀ (j:Nat) t v,Tryz.f5.params[j]? = some t → args[j]? = some v → Value.okWide prog W .any base t v:=hval0
 have hW':=hW
 obtain ⟨p,q,hA0,hV,rfl,hfz,hnd⟩:=hW
 have hA:DataW.TrodAll enc prog W 0 (fun _=>true) true Tryz.f5.params.toList args.toList ds p:=hA0
 rw [Tryz.params5] at hA hval
 obtain ⟨v0,vs0,d0,ds0,p0,q0,hargs,rfl,rfl,h0,r0⟩:=trodAll_cons hA
 obtain ⟨v1,vs1,d1,ds1,p1,q1,rfl,rfl,rfl,h1,r1⟩:=trodAll_cons r0
 obtain ⟨rfl,rfl,rfl⟩:=trodAll_nil r1
 obtain rfl:args = #[v0,v1]:=by cases args;simp_all
 obtain ⟨rfl,rfl⟩:=trodVars_none hV
 obtain ⟨c,rfl⟩:=config_of (hval 0 23 v0 rfl rfl) h0
 have k0:=h0
 have lt0:∀ x ∈ p0,x.block < W.heap.size:=by obtain ⟨m,hm⟩:=k0;exact DataW.trod_lt m _ _ _ hm
 obtain ⟨a1,len1,cap1,rfl⟩:=okWide_slice underlying24 (hval 1 24 v1 rfl rfl)
 have k1:=h1
 have lt1:∀ x ∈ p1,x.block < W.heap.size:=by obtain ⟨m,hm⟩:=k1;exact DataW.trod_lt m _ _ _ hm
 obtain ⟨hrows,hlen⟩:InRows W 18 [.int .i64,.int .i64,.int .i64,.int .i64,.int .i64,.int .i64,.int .i64,.int .i64,.int .i64,.int .i64,.int .i64,.int .i64,.int .i64,.int .i64,.int .u64,.str,.str,.str] a1 len1 ∧ (d1 = .nil ∧ len1 = 0 ∨ ∃ el sp,d1 = .slice el sp ∧ el.length = len1 ∧ len1 ≤ el.length + sp.length):=by
  obtain ⟨fuel,hf⟩:=h1
  exact in_rows underlying24 inferInstance inferInstance (by decide) hf (fun _=>rfl)
 have hag:∀ el sp,d1 = .slice el sp → 8 * el.length ≤ Rows.uptoBulkAll el:=fun el sp e=>by
  obtain ⟨fuel,hf⟩:=k1
  exact Bk.bulk_aggs el (Bk.el_aggs underlying24 underlying40 hf el sp e)
 obtain ⟨ops,hc⟩:=script_of hrows
 have hmax:len1 ≤ 131072:=by
  rcases hlen with ⟨_,rfl⟩|⟨el,sp,e1,rfl,_⟩
  ·omega
  ·have h8:=hag el sp e1
   have h:=of_decide_eq_true hk
   rw [e1] at h
   simp only [List.cons_append,List.nil_append,Rows.uptoBulkAll,Rows.uptoBulk] at h
   omega
 clear hA0 hval0
 refine (coord_stale W c a1 len1 cap1 ops hc hmax).mono fun e W' ⟨he,bel⟩=>?_
 subst he
 exact ⟨_,rfl,_,_,_,[],_,[],hW',trodAll_mk1 (shut_bool underlying4 _),(trodAll_cons_mk (Below.trod laidOut (by kernel_rfl) (of_decide_eq_true (by kernel_rfl)) k0 bel lt0) (trodAll_cons_mk (Below.trod laidOut (by kernel_rfl) (of_decide_eq_true (by kernel_rfl)) k1 bel lt1) trodAll_mk0)),rfl,bel.frame _,fun h=>by cases h⟩
end Go.Proofs.YtkoelgkghijgiaaGreat.coordStaleDone
