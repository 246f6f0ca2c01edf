import Derived.Test.YtkoelgkghijgiaaGreatA01
import Derived.Test.YtkoelgkghijgiaaGreatA04
import Derived.Test.YtkoelgkghijgiaaGreatD01
import Derived.Test.YtkoelgkghijgiaaGreatB01
import Derived.Test.YtkoelgkghijgiaaGreatC01
import Derived.Test.YtkoelgkghijgiaaGreatE01
import Derived.Test.YtkoelgkghijgiaaGreatA16
import Derived.Test.YtkoelgkghijgiaaGreatRows
import Derived.WalkKit
import Derived.ProofKit
import Derived.OpenShut
import Derived.ShutString
import Derived.ChangeOld
import Derived.Below
import Derived.JoinedCond
import Derived.Lib.SmallJoins
set_option linter.unusedVariables false
set_option linter.unusedSimpArgs false
namespace Go.Proofs.YtkoelgkghijgiaaGreat
open Go Go.Sep Go.Proofs Go.Proofs.Tryz
set_option maxRecDepth 10000
set_option maxHeartbeats 40000000
set_option synthInstance.maxSize 2000
structure HeS where
 i:Nat
 o:Co
 A:List Blk
structure HeI (c:Cf) (len0 xb db len:Nat) (t:HeS):Prop where
 i:t.i ≤ len
 o:CoOk c len0 t.i t.o
 a:CoP xb db c t.i t.o t.A
 r:t.o.rs.length ≤ 8
def hedS (p:LOp):ByteArray:=if p.kind = 2 then p.s else (encF p.m).1
def hedE (p:LOp):Int:=if p.kind = 2 then (decF p.s).2 else (encF p.m).2
def hedM (p:LOp):Ms:=if p.kind = 2 then (decF p.s).1 else p.m
def hedB (kind e mk:Int) (rn:Bool):Bool:=decide ((kind = 2 ∨ kind = 1) ∧ (e ≠ 0 ∨ rn = false ∨ 5 < mk))
theorem decF_x (b:ByteArray):0 ≤ (decF b).1.rbits ∧ (decF b).1.rbits < 18446744073709551616:=by
 by_cases h:(decF b).2 = 0
 ·exact (dec_good (m:=(decF b).1) (Prod.ext rfl h)).1.x
 ·unfold decF at h ⊢
  split
  ·exact ⟨Int.le_refl _,by show (0:Int) < _;omega⟩
  ·rename_i h2
   rw [if_neg h2] at h
   split
   ·rename_i h3
    rw [if_pos h3] at h
    exact absurd rfl h
   ·exact ⟨Int.le_refl _,by show (0:Int) < _;omega⟩
theorem enc_err (m:Ms):(encF m).2 = wcheckF m:=by
 unfold encF
 split
 ·rename_i h;rw [h]
 ·rfl
theorem hed_no {c:Cf} {p:LOp} (hx:0 ≤ p.m.rbits ∧ p.m.rbits < 18446744073709551616) (h:hedB p.kind (hedE p) (hedM p).kind (runB c p.node p.life) = true):(decF (hedS p)).2 ≠ 0 ∨ runB c p.node p.life = false ∨ 5 < (decF (hedS p)).1.kind:=by
 obtain ⟨hk,h⟩:=of_decide_eq_true h
 unfold hedE hedM at h
 unfold hedS
 by_cases k2:p.kind = 2
 ·rw [if_pos k2,if_pos k2] at h
  rw [if_pos k2]
  exact h
 ·rw [if_neg k2,if_neg k2] at h
  rw [if_neg k2]
  by_cases hw:wcheckF p.m = 0
  ·rw [dec_enc hw hx]
   rcases h with h|h|h
   ·rw [enc_err] at h;exact absurd hw h
   ·exact .inr (.inl h)
   ·exact .inr (.inr h)
  ·rw [enc_bad hw]
   exact .inl dec_none
theorem heed_no (B0:Base) (c:Cf) (hc:¬ CfOk c) (sa:Option Addr) (len cap:Nat):ConB prog B0 6 #[.agg c.row.toArray,.slice sa len cap] [] fun v A=>v = .bool true ∧ A = []:=by
 refine zqJ (vs:=[_,_]) func6 ntmps6 fun B hB=>?_
 repeat' (first|refine zs1 ?_|refine Ops.box rfl rfl rfl rfl (noPd rfl) (fun b=>?_))
 refine zqA (begun_no c hc) fun v A' hR=>?_
 obtain ⟨rfl,rfl⟩:=hR
 refine zg4 ?_
 refine zqA (rcheck18_spec c) fun v A' hR=>?_
 obtain ⟨rfl,rfl⟩:=hR
 rw [show checkC c = 180 from if_neg hc]
 refine zg3 ?_
 refine zqB (fixed_spec B0) hB fun v A' hR=>?_
 obtain ⟨rfl,rfl⟩:=hR
 refine zg6 ?_
 exact ze9
theorem heed_yes (B0:Base) (c:Cf) (hc:CfOk c) (sa:Option Addr) (len cap:Nat) (ops:List LOp) (hs:ScrIn B0 sa len ops) (hlen:len ≤ 1048576):ConB prog B0 6 #[.agg c.row.toArray,.slice sa len cap] [] fun v A=>v = .bool true ∧ A = []:=by
 obtain ⟨q1,q2,q3,q4⟩:=lenC_room hc
 obtain ⟨⟨cr1,cr2⟩,_⟩:=id hc
 obtain ⟨hol,hops⟩:=hs
 refine zqJ (vs:=[_,_]) func6 ntmps6 fun B hB=>?_
 repeat' (first|refine zs1 ?_|refine Ops.box rfl rfl rfl rfl (noPd rfl) (fun b=>?_))
 rename Nat=>cb
 refine zqB (begun_yes B0 c hc) hB fun v A' hR=>?_
 obtain ⟨db,xb,rfl,hP⟩:=hR
 rename List Blk=>A0
 refine zg4 ?_
 refine Cd.loopK (HeI c (lenC c) xb db len) (fun t=>[(1,.slice sa len cap),(2,ptr cb),(5,ptr db),(6,ptr xb),(7,.int .i64 t.i)]) (fun t=>CfB cb c :: t.A) (fun t=>len - t.i) ⟨0,co0 c,A0⟩ ⟨Nat.zero_le _,co0_ok hc,hP,co0_rsl hc⟩ ⟨rfl,rfl,rfl,rfl,rfl,trivial⟩ (fun w h=>h.split) (fun t ht=>?_)
 clear hP A0
 obtain ⟨i,o,A⟩:=t
 obtain ⟨hi,hok,hA,hrl⟩:=ht
 dsimp only at hi hok hA hrl ⊢
 by_cases hil:i < len
 ·have hil':(i:Int) < len:=by omega
  obtain ⟨p,hp⟩:∃ p,ops[i]? = some p:=⟨_,List.getElem?_eq_getElem (by omega)⟩
  obtain ⟨hpo,b,off,rfl,hrd⟩:=hops i p hp
  have hrw:∀ A j u,p.row[j]? = some u → Rd B.plain A b (off + (i:Int).toNat * 18 + j) u:=fun A j u hu=>by rw [Int.toNat_natCast];exact (hrd A j u hu).ext hB
  generalize hcb:Code.seq (Code.block 1 _) _ = c1
  refine zg2 ?_
  subst hcb
  refine Cd.cut (σ:=HeS) (fun t=>t.i = i ∧ CoOk c (lenC c) (i + 1) t.o ∧ CoP xb db c (i + 1) t.o t.A ∧ t.o.rs.length ≤ 8) (fun _=>[(1,.slice (some ⟨b,off,none⟩) len cap),(2,ptr cb),(5,ptr db),(6,ptr xb),(7,.int .i64 i)]) (fun t=>CfB cb c :: t.A) ?_ (fun t ht=>?_)
  ·refine Cd.block ?_
   generalize hc9:Code.seq (Code.region 9 _ _) _ = c9
   refine zg15 ?_
   refine Ops.ldRN (r:=p.row) rfl rfl rfl rfl (hrw _) rfl ?_
   repeat' (first|refine zs3 ?_|refine Ops.alloc rfl rfl rfl (noPd rfl) (fun b=>?_))
   rename Nat=>pb
   have hsz:=enc_sz hpo.x
   refine zqA (encode7_is p.m hpo.x) fun v A' hR=>?_
   obtain ⟨rfl,rfl⟩:=hR
   refine zg1 ?_
   subst hc9
   refine Cd.cut (σ:=Unit) (fun _=>True) (fun _=>[(1,.slice (some ⟨b,off,none⟩) len cap),(2,ptr cb),(5,ptr db),(6,ptr xb),(7,.int .i64 i),(8,ptr pb),(9,.string (encF p.m).1),(10,.int .i64 (encF p.m).2),(11,.bool (runB c p.node p.life))]) (fun _=>CfB cb c :: OpB pb p :: A) ?_ (fun _ _=>?_)
   ·generalize hrn:runB c p.node p.life = rn
    unfold runB at hrn
    by_cases j1:2 ≤ p.node
    case neg =>
     obtain rfl:rn = false:=by rw [← hrn];exact decide_eq_false (by omega)
     refine zg11 ?_
     exact ze30
    by_cases j2:p.node < 2 + c.runners
    case neg =>
     obtain rfl:rn = false:=by rw [← hrn];exact decide_eq_false (by omega)
     refine zg12 ?_
     exact ze30
    by_cases j3:1 ≤ p.life
    case neg =>
     obtain rfl:rn = false:=by rw [← hrn];exact decide_eq_false (by omega)
     refine zg12 ?_
     exact ze30
    by_cases j4:p.life ≤ 1099511627776
    case neg =>
     obtain rfl:rn = false:=by rw [← hrn];exact decide_eq_false (by omega)
     refine zg12 ?_
     exact Ops.nilN (meet_end (Q:=fun _ _ _=>True) () trivial ⟨rfl,rfl,rfl,rfl,rfl,rfl,rfl,rfl,congrArg (fun q=>some (Value.bool q)) (decide_eq_false j4),trivial⟩ (fun w h=>h.split))
    obtain rfl:rn = true:=by rw [← hrn];exact decide_eq_true (by omega)
    refine zg12 ?_
    exact Ops.nilN (meet_end (Q:=fun _ _ _=>True) () trivial ⟨rfl,rfl,rfl,rfl,rfl,rfl,rfl,rfl,congrArg (fun q=>some (Value.bool q)) (decide_eq_true j4),trivial⟩ (fun w h=>h.split))
   refine Cd.cut (σ:=Unit) (fun _=>True) (fun _=>[(1,.slice (some ⟨b,off,none⟩) len cap),(2,ptr cb),(5,ptr db),(6,ptr xb),(7,.int .i64 i),(8,ptr pb),(9,.string (hedS p)),(10,.int .i64 (hedE p)),(11,.bool (runB c p.node p.life))]) (fun _=>CfB cb c :: OpB pb { p with m:=hedM p } :: A) ?_ (fun _ _=>?_)
   ·unfold hedS hedE hedM
    by_cases k2:p.kind = 2
    ·rw [if_pos k2,if_pos k2,if_pos k2]
     refine zg15 ?_
     refine zqA (decode7_is p.s) fun v A' hR=>?_
     obtain ⟨rfl,rfl⟩:=hR
     generalize decF p.s = r
     obtain ⟨m1,e1⟩:=r
     dsimp only
     repeat' (first|refine zs3 ?_|refine Ops.alloc rfl rfl rfl (noPd rfl) (fun b=>?_))
     exact ze30
    ·rw [if_neg k2,if_neg k2,if_neg k2]
     refine zg13 ?_
     exact Cd.skip (meet_end (Q:=fun _ _ _=>True) () trivial ⟨rfl,rfl,rfl,rfl,rfl,rfl,rfl,rfl,rfl,trivial⟩ (fun w h=>h.split))
   have hh:=fun h=>hed_no (c:=c) hpo.x h
   have hpx:0 ≤ (hedM p).rbits ∧ (hedM p).rbits < 18446744073709551616:=by
    unfold hedM
    split
    ·exact decF_x _
    ·exact hpo.x
   have hss:(hedS p).size < 9223372036854775808:=by
    unfold hedS
    split
    ·exact hpo.s
    ·omega
   generalize hedS p = s at hh hss ⊢
   generalize hedE p = e at hh ⊢
   generalize hedM p = m at hh hpx ⊢
   generalize hrn2:runB c p.node p.life = rn at hh ⊢
   refine Cd.seq ?_
   refine Cd.cut (σ:=Unit) (fun _=>True) (fun _=>[(1,.slice (some ⟨b,off,none⟩) len cap),(2,ptr cb),(5,ptr db),(6,ptr xb),(7,.int .i64 i),(8,ptr pb),(9,.string s),(108,.bool (hedB p.kind e m.kind rn))]) (fun _=>CfB cb c :: OpB pb { p with m:=m } :: A) ?_ (fun _ _=>?_)
   ·clear hh
    generalize hhb:hedB p.kind e m.kind rn = hb
    unfold hedB at hhb
    by_cases k2:p.kind = 2
    case pos =>
     by_cases g1:e = 0
     case neg =>
      obtain rfl:hb = true:=by rw [← hhb];exact decide_eq_true ⟨by omega,.inl g1⟩
      refine zg7 ?_
      exact ze26
     cases rn
     case false =>
      obtain rfl:hb = true:=by rw [← hhb];exact decide_eq_true ⟨by omega,.inr (.inl rfl)⟩
      refine zg12 ?_
      exact ze26
     by_cases g2:5 < m.kind
     case pos =>
      obtain rfl:hb = true:=by rw [← hhb];exact decide_eq_true ⟨by omega,.inr (.inr g2)⟩
      refine zg12 ?_
      exact ze31
     obtain rfl:hb = false:=by rw [← hhb];exact decide_eq_false (fun q=>by rcases q.2 with q|q|q;exact q g1;cases q;exact g2 q)
     refine zg12 ?_
     exact ze32
    by_cases k1:p.kind = 1
    case pos =>
     by_cases g1:e = 0
     case neg =>
      obtain rfl:hb = true:=by rw [← hhb];exact decide_eq_true ⟨by omega,.inl g1⟩
      refine zg12 ?_
      exact ze26
     cases rn
     case false =>
      obtain rfl:hb = true:=by rw [← hhb];exact decide_eq_true ⟨by omega,.inr (.inl rfl)⟩
      refine zg12 ?_
      exact ze26
     by_cases g2:5 < m.kind
     case pos =>
      obtain rfl:hb = true:=by rw [← hhb];exact decide_eq_true ⟨by omega,.inr (.inr g2)⟩
      refine zg12 ?_
      exact ze31
     obtain rfl:hb = false:=by rw [← hhb];exact decide_eq_false (fun q=>by rcases q.2 with q|q|q;exact q g1;cases q;exact g2 q)
     refine zg12 ?_
     exact ze32
    obtain rfl:hb = false:=by rw [← hhb];exact decide_eq_false (fun q=>by rcases q.1 with q|q;exact k2 q;exact k1 q)
    refine zg11 ?_
    exact ze26
   by_cases hhb:hedB p.kind e m.kind rn = true
   ·rw [hhb]
    have hno:=hh hhb
    rw [← hrn2] at hno
    refine zg6 ?_
    refine zqB (co_view_ B0 xb db c (lenC c) i o hok A hA) hB fun v A' hR=>?_
    obtain ⟨V1,A2,rfl,hV1,hP2⟩:=hR
    obtain ⟨va1,_,_,rfl,_⟩:=id hV1
    refine zg0 ?_
    refine zqB (co_sessions B0 xb db c i o A2 hP2 (by omega)) hB fun v A' hR=>?_
    obtain ⟨H1,A3,rfl,hO1,hP3⟩:=hR
    obtain ⟨ha1,hc1,rfl⟩:=id hO1.form
    refine zg0 ?_
    refine zqB (co_leases B0 xb db c i o A3 hP3) hB fun v A' hR=>?_
    obtain ⟨L1,A4,rfl,hL1,hP4⟩:=hR
    obtain ⟨la1,lc1,rfl⟩:=id hL1.form
    refine zg0 ?_
    refine zqB (co_sectors B0 xb db c (lenC c) i q1 o hok A4 hP4) hB fun v A' hR=>?_
    obtain ⟨K1,A5,rfl,hK1,hP5⟩:=hR
    obtain ⟨ka1,kc1,rfl⟩:=id hK1.form
    repeat' (first|refine zs3 ?_|refine Ops.alloc rfl rfl rfl (noPd rfl) (fun b=>?_))
    rename Nat=>vb
    refine zqB (co_hear B0 xb db c hc (lenC c) i q1 (by omega) o hok A5 hP5 p.node p.life s hss) hB fun v A' hR=>?_
    obtain ⟨rp,o2,said,J,A6,rfl,hH,hP6,hS,rfl⟩:=hR
    obtain ⟨rfl,rfl⟩:=heedless_hear hno hH
    obtain ⟨_,rfl,rfl⟩:(⟨#[]⟩:ByteArray) = ⟨#[]⟩ ∧ said = .slice none 0 0 ∧ J = []:=by
     rcases hS with h|h
     ·exact h
     ·exact absurd rfl h.1
    refine zg1 ?_
    refine zdr [qz 0,qy 1,qz 2,qz 3,qz 4,qz 5,qz 6,qz 7,qy 8,qz 9,(10,2,[8]),(11,2,[]),qz 12,qz 13,qz 14,qz 15,qz 16,(17,2,[]),(18,2,[]),qz 19,qz 20,qz 21,qz 22,qz 23,(24,2,[]),(25,2,[]),qz 26,qz 27,qz 28,qz 29,qz 30,(31,2,[]),(32,2,[]),qz 33,qz 34] ?_
    refine zg3 ?_
    refine Ops.callB (co_view_ B0 xb db c (lenC c) (i + 1) o2 hok.later A6 hP6) hB rfl zp9 rfl rfl rfl (fun v A' hR=>?_)
    obtain ⟨V2,A7,rfl,hV2,hP7⟩:=hR
    obtain ⟨va2,_,_,rfl,_⟩:=id hV2
    refine Ops.callB (same_spec B0 _ _ o2.q.st hok.cq.ok V1 V2 hV1 hV2) hB rfl (noPd rfl) rfl rfl rfl (fun v A' hR=>?_)
    obtain ⟨rfl,rfl⟩:=hR
    refine zg3 ?_
    refine zqB (co_sessions B0 xb db c (i + 1) o2 A7 hP7 (by omega)) hB fun v A' hR=>?_
    obtain ⟨H2,A8,rfl,hO2,hP8⟩:=hR
    obtain ⟨ha2,hc2,rfl⟩:=id hO2.form
    refine Ops.call (Se.same13 _ _ _ H1 H2 hO1 hO2 (by have:=List.length_filter_le Se.liveB o2.rs;omega)) rfl (noPd rfl) rfl rfl rfl (fun v A' hR=>?_)
    obtain ⟨rfl,rfl⟩:=hR
    refine zg3 ?_
    refine zqB (co_leases B0 xb db c (i + 1) o2 A8 hP8) hB fun v A' hR=>?_
    obtain ⟨L2,A9,rfl,hL2,hP9⟩:=hR
    obtain ⟨la2,lc2,rfl⟩:=id hL2.form
    refine Ops.call (Ls.same12 _ _ _ L1 L2 hL1 hL2 (by have:=hok.cq.lk.few;omega)) rfl (noPd rfl) rfl rfl rfl (fun v A' hR=>?_)
    obtain ⟨rfl,rfl⟩:=hR
    refine zg3 ?_
    refine zqB (co_sectors B0 xb db c (lenC c) (i + 1) q1 o2 hok.later A9 hP9) hB fun v A' hR=>?_
    obtain ⟨K2,A10,rfl,hK2,hP10⟩:=hR
    obtain ⟨ka2,kc2,rfl⟩:=id hK2.form
    refine Ops.call (same4_spec _ _ o2.x.S K1 K2 hK1 hK2 (by have:=hok.lg.cm.len;omega)) rfl (noPd rfl) rfl rfl rfl (fun v A' hR=>?_)
    obtain ⟨rfl,rfl⟩:=hR
    refine zg4 ?_
    all_goals skip
    exact Cd.exit (inTx (inBs (meet_end (Q:=fun _ _ _=>True) (⟨i,o2,A10⟩:HeS) ⟨rfl,hok.later,hP10,hrl⟩ ⟨rfl,rfl,rfl,rfl,rfl,trivial⟩ (fun w h=>h.split))))
   ·rw [Bool.not_eq_true] at hhb
    rw [hhb]
    refine zg4 ?_
    refine zqB (does2_spec B0 xb db c hc (lenC c) i q1 (by omega) o hok A hA { p with m:=m } ⟨hpx,hpo.s⟩) hB fun v A' hR=>?_
    obtain ⟨⟨bb,rfl⟩,o1,hok1,hD,hP1⟩:=hR
    exact Ops.nilN (inB (meet_end (Q:=fun _ _ _=>True) (⟨i,o1,A'⟩:HeS) ⟨rfl,hok1,hP1,by show o1.rs.length ≤ 8;rw [hD.rsl];exact hrl⟩ ⟨rfl,rfl,rfl,rfl,rfl,trivial⟩ (fun w h=>h.split)))
  ·obtain ⟨j,o2,A2⟩:=t
   obtain ⟨ej,g1,g2,g3⟩:=ht
   obtain rfl:i = j:=ej.symm
   dsimp only at g1 g2 g3 ⊢
   refine zg9 ?_
   exact Ops.nilN (round_end (⟨i + 1,o2,A2⟩:HeS) ⟨by show i + 1 ≤ len;omega,g1,g2,g3⟩ (by show len - (i + 1) < len - i;omega) ⟨rfl,rfl,rfl,rfl,rfl,trivial⟩ (fun w h=>h.split))
 ·have hil':¬ (i:Int) < len:=by omega
  refine zg2 ?_
  refine zqB (fixed_spec B0) hB fun v A' hR=>?_
  obtain ⟨rfl,rfl⟩:=hR
  refine zg0 ?_
  exact ze9
theorem heed_spec (B0:Base) (c:Cf) (sa:Option Addr) (len cap:Nat) (ops:List LOp) (hs:ScrIn B0 sa len ops) (hlen:len ≤ 1048576):ConB prog B0 6 #[.agg c.row.toArray,.slice sa len cap] [] fun v A=>v = .bool true ∧ A = []:=by
 by_cases hc:CfOk c
 ·exact heed_yes B0 c hc sa len cap ops hs hlen
 ·exact heed_no B0 c hc sa len cap
end Go.Proofs.YtkoelgkghijgiaaGreat
namespace Go.Proofs.YtkoelgkghijgiaaGreat.coordHeedlessDone
open Go Go.Sep Go.Proofs Go.Proofs.Tryz
open Go.ChangeShapes Go.WideShapes Go.ChangeAt Go.RowKit
set_option synthInstance.maxSize 2000
instance (priority:=700) flat11 {P:Program} {ft start:Nat} {fl:List (TypeId × Nat)} {k1 k2 k3 k4 k5 k6 k7 k8 k9 k10 k11:LK} {k0:List LK} [h1:FlatT P ft [k1,k2,k3,k4,k5,k6,k7,k8,k9,k10,k11]] [h2:FlatF P fl (start + 11) k0]:FlatF P ((ft,start) :: fl) start (k1 :: k2 :: k3 :: k4 :: k5 :: k6 :: k7 :: k8 :: k9 :: k10 :: k11 :: k0):=FlatF.step h1 h2 rfl
theorem own:ownKnob prog.godebug = none:=by kernel_rfl
theorem laidOut:laidOutB prog = true:=by kernel_rfl
theorem script_of {w:World} {a:Option Addr} {len:Nat} (h:InRows w 18 [.int .i64,.int .i64,.int .i64,.int .i64,.int .i64,.int .i64,.int .i64,.int .i64,.int .i64,.int .i64,.int .i64,.int .i64,.int .i64,.int .i64,.int .u64,.str,.str,.str] a len):∃ ops,ScrIn (baseOf w) a len ops:=by
 obtain ⟨l,hl,hp⟩:=exists_list (α:=LOp) (p:=fun i o=>o.Ok ∧ ∃ b off,a = some ⟨b,off,none⟩ ∧ ∀ (A:List Blk) (j:Nat) (u:Value),o.row[j]? = some u → Rd (baseOf w) A b (off + i * 18 + j) u) len (fun i hi=>by
  obtain ⟨b,o,cs,rfl,hlen,hall,hc⟩:=h i hi
  match cs,hlen with
  | [v0,v1,v2,v3,v4,v5,v6,v7,v8,v9,v10,v11,v12,v13,v14,v15,v16,v17],_ =>
   obtain ⟨⟨n0,rfl,_⟩,⟨n1,rfl,_⟩,⟨n2,rfl,_⟩,⟨n3,rfl,_⟩,⟨n4,rfl,_⟩,⟨n5,rfl,_⟩,⟨n6,rfl,_⟩,⟨n7,rfl,_⟩,⟨n8,rfl,_⟩,⟨n9,rfl,_⟩,⟨n10,rfl,_⟩,⟨n11,rfl,_⟩,⟨n12,rfl,_⟩,⟨n13,rfl,_⟩,⟨n14,rfl,hx⟩,⟨s15,rfl,_⟩,⟨s16,rfl,_⟩,⟨s17,rfl,h17⟩,_⟩:=hall
   refine ⟨⟨n0,n1,n2,n3,n4,n5,⟨n6,n7,n8,n9,n10,n11,n12,n13,n14,s15,s16⟩,s17⟩,⟨?_,?_⟩,b,o,rfl,fun A j u hu=>rd_base (hc j u hu)⟩
   ·simp only [Lit.wf,IntKind.wrap,IntKind.bits,IntKind.signed,Bool.false_and,Bool.false_eq_true,if_false,beq_iff_eq,decide_eq_true_eq,Bool.and_eq_true] at hx
    have e1:IntKind.u64.min = 0:=by decide
    have e2:IntKind.u64.max = 18446744073709551615:=by decide
    show (0:Int) ≤ n14 ∧ n14 < 18446744073709551616
    omega
   ·have h2:maxLen < 9223372036854775808:=by decide
    show s17.size < _
    omega)
 exact ⟨l,hl,hp⟩
set_option maxRecDepth 100000 in
theorem config_of {H:Type} {enc:TypeId × Value → H} {W:World} {base:Nat} {spare:Nat → Bool} {held:Bool} {v:Value} {d:DataW H} {p:List MemPlace} (hv:Value.okWide prog W .any base 23 v) (h:DataW.Trod enc prog W 0 spare held 23 v d p):∃ c:Cf,v = .agg c.row.toArray:=by
 obtain ⟨cs,rfl,hsz⟩:=okWide_struct underlying23 hv
 obtain ⟨fuel,hf⟩:=h
 obtain ⟨xs,n,_,_,_,hlen,hfl⟩:=DataW.trod_struct underlying23 hf
 have h9:cs.size = 9:=hsz.trans (by kernel_rfl)
 obtain ⟨l⟩:=cs
 match l,xs,h9,hlen with
 | [v0,v1,v2,v3,v4,v5,v6,v7,v8],[y0,y1,y2,y3,y4,y5,y6,y7,y8],_,_ =>
  have g0:DataW.trod enc prog W 0 spare held n 3 [v0] = some y0:=hfl 0 _ rfl
  obtain ⟨a0,e0,_,_⟩:=DataW.trod_int underlying3 g0
  injection e0 with e0 _
  subst e0
  have g1:DataW.trod enc prog W 0 spare held n 3 [v1] = some y1:=hfl 1 _ rfl
  obtain ⟨a1,e1,_,_⟩:=DataW.trod_int underlying3 g1
  injection e1 with e1 _
  subst e1
  have g2:DataW.trod enc prog W 0 spare held n 3 [v2] = some y2:=hfl 2 _ rfl
  obtain ⟨a2,e2,_,_⟩:=DataW.trod_int underlying3 g2
  injection e2 with e2 _
  subst e2
  have g3:DataW.trod enc prog W 0 spare held n 3 [v3] = some y3:=hfl 3 _ rfl
  obtain ⟨a3,e3,_,_⟩:=DataW.trod_int underlying3 g3
  injection e3 with e3 _
  subst e3
  have g4:DataW.trod enc prog W 0 spare held n 3 [v4] = some y4:=hfl 4 _ rfl
  obtain ⟨a4,e4,_,_⟩:=DataW.trod_int underlying3 g4
  injection e4 with e4 _
  subst e4
  have g5:DataW.trod enc prog W 0 spare held n 3 [v5] = some y5:=hfl 5 _ rfl
  obtain ⟨a5,e5,_,_⟩:=DataW.trod_int underlying3 g5
  injection e5 with e5 _
  subst e5
  have g6:DataW.trod enc prog W 0 spare held n 3 [v6] = some y6:=hfl 6 _ rfl
  obtain ⟨a6,e6,_,_⟩:=DataW.trod_int underlying3 g6
  injection e6 with e6 _
  subst e6
  have g7:DataW.trod enc prog W 0 spare held n 3 [v7] = some y7:=hfl 7 _ rfl
  obtain ⟨a7,e7,_,_⟩:=DataW.trod_int underlying3 g7
  injection e7 with e7 _
  subst e7
  have g8:DataW.trod enc prog W 0 spare held n 3 [v8] = some y8:=hfl 8 _ rfl
  obtain ⟨a8,e8,_,_⟩:=DataW.trod_int underlying3 g8
  injection e8 with e8 _
  subst e8
  exact ⟨⟨a0,a1,a2,a3,a4,a5,a6,a7,a8⟩,rfl⟩
theorem coord_heed (w:World) (c:Cf) (sa:Option Addr) (len cap:Nat) (ops:List LOp) (hs:ScrIn (baseOf w) sa len ops) (hlen:len ≤ 131072):Calls prog 6 #[.agg c.row.toArray,.slice sa len cap] w fun e w'=>e = .returned (.bool true) ∧ RowKit.Below w.heap.size w w' :=
 ((heed_spec (baseOf w) c sa len cap ops hs (by omega)) (baseOf w) w (Ext.refl _) (sat_baseOf w)).mono fun e w' ⟨v,A',he,⟨hv,_⟩,hS⟩=>⟨by rw [he,hv],hS.below⟩
set_option maxRecDepth 100000 in
theorem lifted (os:Os) (started:os.Started) (H:Type) (enc:TypeId × Value → H) (F:Stop.Interp) :
  ReturnsInHanded {} Tryz.checked os 6 .any ((Rows.OpenSpec.upto Rows.coordHeedlessSpec).pre6 enc prog Tryz.f6 Rows.coordHeedlessUptoRow.domain false) (((Rows.OpenSpec.upto Rows.coordHeedlessSpec).at F).post enc prog Tryz.f6 false true false false):=by
 refine returnsInHanded_of_cond (C:=Tryz.checked) (s:=Rows.OpenSpec.upto Rows.coordHeedlessSpec) (k:=Rows.uptoSmall) rfl own started (by kernel_rfl) func6
  (OpenSpec.witness (enc:=enc) (C:=Tryz.checked) (s:=Rows.OpenSpec.upto Rows.coordHeedlessSpec) (k:=Rows.uptoSmall) rfl false ⟨#[],#[.agg #[.int .i64 0,.int .i64 0,.int .i64 0,.int .i64 0,.int .i64 0,.int .i64 0,.int .i64 0,.int .i64 0,.int .i64 0],.slice none 0 0],[]⟩ 8 (by kernel_rfl) (by kernel_rfl) (by kernel_rfl)
   (x:=([.agg [.lit (.int .i64 0),.lit (.int .i64 0),.lit (.int .i64 0),.lit (.int .i64 0),.lit (.int .i64 0),.lit (.int .i64 0),.lit (.int .i64 0),.lit (.int .i64 0),.lit (.int .i64 0)],.nil],[],[])) (by kernel_rfl) rfl (by kernel_rfl)) ?_
 intro W base args ds gs before hval0 hW hcnd hk _
 have hval:∀ (j:Nat) t v,Tryz.f6.params[j]? = some t → args[j]? = some v → Value.okWide prog W .any base t v:=hval0
 have hW':=hW
 obtain ⟨p,q,hA0,hV,rfl,hfz,hnd⟩:=hW
 have hA:DataW.TrodAll enc prog W 0 (fun _=>true) true Tryz.f6.params.toList args.toList ds p:=hA0
 rw [Tryz.params6] at hA hval
 obtain ⟨v0,vs0,d0,ds0,p0,q0,hargs,rfl,rfl,h0,r0⟩:=trodAll_cons hA
 obtain ⟨v1,vs1,d1,ds1,p1,q1,rfl,rfl,rfl,h1,r1⟩:=trodAll_cons r0
 obtain ⟨rfl,rfl,rfl⟩:=trodAll_nil r1
 obtain rfl:args = #[v0,v1]:=by cases args;simp_all
 obtain ⟨rfl,rfl⟩:=trodVars_none hV
 obtain ⟨c,rfl⟩:=config_of (hval 0 23 v0 rfl rfl) h0
 have k0:=h0
 have lt0:∀ x ∈ p0,x.block < W.heap.size:=by obtain ⟨m,hm⟩:=k0;exact DataW.trod_lt m _ _ _ hm
 obtain ⟨a1,len1,cap1,rfl⟩:=okWide_slice underlying24 (hval 1 24 v1 rfl rfl)
 have k1:=h1
 have lt1:∀ x ∈ p1,x.block < W.heap.size:=by obtain ⟨m,hm⟩:=k1;exact DataW.trod_lt m _ _ _ hm
 obtain ⟨hrows,hlen⟩:InRows W 18 [.int .i64,.int .i64,.int .i64,.int .i64,.int .i64,.int .i64,.int .i64,.int .i64,.int .i64,.int .i64,.int .i64,.int .i64,.int .i64,.int .i64,.int .u64,.str,.str,.str] a1 len1 ∧ (d1 = .nil ∧ len1 = 0 ∨ ∃ el sp,d1 = .slice el sp ∧ el.length = len1 ∧ len1 ≤ el.length + sp.length):=by
  obtain ⟨fuel,hf⟩:=h1
  exact in_rows underlying24 inferInstance inferInstance (by decide) hf (fun _=>rfl)
 have hag:∀ el sp,d1 = .slice el sp → 8 * el.length ≤ Rows.uptoBulkAll el:=fun el sp e=>by
  obtain ⟨fuel,hf⟩:=k1
  exact Bk.bulk_aggs el (Bk.el_aggs underlying24 underlying40 hf el sp e)
 obtain ⟨ops,hc⟩:=script_of hrows
 have hmax:len1 ≤ 131072:=by
  rcases hlen with ⟨_,rfl⟩|⟨el,sp,e1,rfl,_⟩
  ·omega
  ·have h8:=hag el sp e1
   have h:=of_decide_eq_true hk
   rw [e1] at h
   simp only [List.cons_append,List.nil_append,Rows.uptoBulkAll,Rows.uptoBulk] at h
   omega
 clear hA0 hval0
 refine (coord_heed W c a1 len1 cap1 ops hc hmax).mono fun e W' ⟨he,bel⟩=>?_
 subst he
 exact ⟨_,rfl,_,_,_,[],_,[],hW',trodAll_mk1 (shut_bool underlying4 _),(trodAll_cons_mk (Below.trod laidOut (by kernel_rfl) (of_decide_eq_true (by kernel_rfl)) k0 bel lt0) (trodAll_cons_mk (Below.trod laidOut (by kernel_rfl) (of_decide_eq_true (by kernel_rfl)) k1 bel lt1) trodAll_mk0)),rfl,bel.frame _,fun h=>by cases h⟩
end Go.Proofs.YtkoelgkghijgiaaGreat.coordHeedlessDone
