/- Proved: CoordTells returns true whatever the config and the script, and the input reads as it did, where what it reads is of bulk at most 1048576 (Rows.CoordTellsUptoSaid). Conditions: that bulk alone. -/
import Derived.Test.YtaecdnfkcebbeaaGreatA43
import Derived.Test.YtaecdnfkcebbeaaGreatRows
import Derived.WalkKit
import Derived.ProofKit
import Derived.OpenShut
import Derived.ShutString
import Derived.ChangeOld
import Derived.Below
import Derived.JoinedCond
import Derived.Lib.SmallJoins
set_option linter.unusedVariables false
set_option linter.unusedSimpArgs false
namespace Go.Proofs.YtaecdnfkcebbeaaGreat.coordTellsDone
open Go Go.Sep Go.Proofs
open Go.ChangeShapes Go.WideShapes Go.ChangeAt Go.RowKit
set_option synthInstance.maxSize 2000
instance (priority:=700) flat11 {P:Program} {ft start:Nat} {fl:List (TypeId × Nat)} {k1 k2 k3 k4 k5 k6 k7 k8 k9 k10 k11:LK} {k0:List LK} [h1:FlatT P ft [k1,k2,k3,k4,k5,k6,k7,k8,k9,k10,k11]] [h2:FlatF P fl (start + 11) k0]:FlatF P ((ft,start) :: fl) start (k1 :: k2 :: k3 :: k4 :: k5 :: k6 :: k7 :: k8 :: k9 :: k10 :: k11 :: k0):=FlatF.step h1 h2 rfl
theorem own:ownKnob Tryz.prog.godebug = none:=by kernel_rfl
theorem laidOut:laidOutB Tryz.prog = true:=by kernel_rfl
theorem bulk_pos {H:Type} (d:DataW H):1 ≤ Rows.uptoBulk d:=by
 cases d with
 | lit l=>cases l <;> simp [Rows.uptoBulk]
 | _=>simp [Rows.uptoBulk]
theorem bulk_len {H:Type}:∀ (l:List (DataW H)),l.length ≤ Rows.uptoBulkAll l
 | []=>by simp [Rows.uptoBulkAll]
 | x :: r=>by have h1:=bulk_pos x;have h2:=bulk_len r;simp only [Rows.uptoBulkAll,List.length_cons];omega
theorem script_of {w:World} {a:Option Addr} {len:Nat} (h:InRows w 18 [.int .i64,.int .i64,.int .i64,.int .i64,.int .i64,.int .i64,.int .i64,.int .i64,.int .i64,.int .i64,.int .i64,.int .i64,.int .i64,.int .i64,.int .u64,.str,.str,.str] a len):∃ ops,LScr (baseOf w) a len ops:=by
 obtain ⟨l,hl,hp⟩:=exists_list (α:=LOp) (p:=fun i o=>o.Ok ∧ ∃ b off,a = some ⟨b,off,none⟩ ∧ ∀ (A:List Blk) (j:Nat) (u:Value),o.row[j]? = some u → Rd (baseOf w) A b (off + i * 18 + j) u) len (fun i hi=>by
  obtain ⟨b,o,cs,rfl,hlen,hall,hc⟩:=h i hi
  match cs,hlen with
  | [v0,v1,v2,v3,v4,v5,v6,v7,v8,v9,v10,v11,v12,v13,v14,v15,v16,v17],_ =>
   obtain ⟨⟨n0,rfl,_⟩,⟨n1,rfl,_⟩,⟨n2,rfl,_⟩,⟨n3,rfl,_⟩,⟨n4,rfl,_⟩,⟨n5,rfl,_⟩,⟨n6,rfl,_⟩,⟨n7,rfl,_⟩,⟨n8,rfl,_⟩,⟨n9,rfl,_⟩,⟨n10,rfl,_⟩,⟨n11,rfl,_⟩,⟨n12,rfl,_⟩,⟨n13,rfl,_⟩,⟨n14,rfl,hx⟩,⟨s15,rfl,_⟩,⟨s16,rfl,_⟩,⟨s17,rfl,h17⟩,_⟩:=hall
   refine ⟨⟨n0,n1,n2,n3,n4,n5,⟨n6,n7,n8,n9,n10,n11,n12,n13,n14,s15,s16⟩,s17⟩,⟨?_,?_⟩,b,o,rfl,fun A j u hu=>rd_base (hc j u hu)⟩
   ·simp only [Lit.wf,IntKind.wrap,IntKind.bits,IntKind.signed,Bool.false_and,Bool.false_eq_true,if_false,beq_iff_eq,decide_eq_true_eq,Bool.and_eq_true] at hx
    have e1:IntKind.u64.min = 0:=by decide
    have e2:IntKind.u64.max = 18446744073709551615:=by decide
    show (0:Int) ≤ n14 ∧ n14 < 18446744073709551616
    omega
   ·have h2:maxLen < 9223372036854775808:=by decide
    show s17.size < _
    omega)
 exact ⟨l,hl,hp⟩
set_option maxRecDepth 100000 in
theorem config_of {H:Type} {enc:TypeId × Value → H} {W:World} {base:Nat} {spare:Nat → Bool} {held:Bool} {v:Value} {d:DataW H} {p:List MemPlace} (hv:Value.okWide Tryz.prog W .any base 23 v) (h:DataW.Trod enc Tryz.prog W 0 spare held 23 v d p):∃ c:Cf,v = .agg c.row.toArray:=by
 obtain ⟨cs,rfl,hsz⟩:=okWide_struct Tryz.underlying23 hv
 obtain ⟨fuel,hf⟩:=h
 obtain ⟨xs,n,_,_,_,hlen,hfl⟩:=DataW.trod_struct Tryz.underlying23 hf
 have h9:cs.size = 9:=hsz.trans (by kernel_rfl)
 obtain ⟨l⟩:=cs
 match l,xs,h9,hlen with
 | [v0,v1,v2,v3,v4,v5,v6,v7,v8],[y0,y1,y2,y3,y4,y5,y6,y7,y8],_,_ =>
  have g0:DataW.trod enc Tryz.prog W 0 spare held n 3 [v0] = some y0:=hfl 0 _ rfl
  obtain ⟨a0,e0,_,_⟩:=DataW.trod_int Tryz.underlying3 g0
  injection e0 with e0 _
  subst e0
  have g1:DataW.trod enc Tryz.prog W 0 spare held n 3 [v1] = some y1:=hfl 1 _ rfl
  obtain ⟨a1,e1,_,_⟩:=DataW.trod_int Tryz.underlying3 g1
  injection e1 with e1 _
  subst e1
  have g2:DataW.trod enc Tryz.prog W 0 spare held n 3 [v2] = some y2:=hfl 2 _ rfl
  obtain ⟨a2,e2,_,_⟩:=DataW.trod_int Tryz.underlying3 g2
  injection e2 with e2 _
  subst e2
  have g3:DataW.trod enc Tryz.prog W 0 spare held n 3 [v3] = some y3:=hfl 3 _ rfl
  obtain ⟨a3,e3,_,_⟩:=DataW.trod_int Tryz.underlying3 g3
  injection e3 with e3 _
  subst e3
  have g4:DataW.trod enc Tryz.prog W 0 spare held n 3 [v4] = some y4:=hfl 4 _ rfl
  obtain ⟨a4,e4,_,_⟩:=DataW.trod_int Tryz.underlying3 g4
  injection e4 with e4 _
  subst e4
  have g5:DataW.trod enc Tryz.prog W 0 spare held n 3 [v5] = some y5:=hfl 5 _ rfl
  obtain ⟨a5,e5,_,_⟩:=DataW.trod_int Tryz.underlying3 g5
  injection e5 with e5 _
  subst e5
  have g6:DataW.trod enc Tryz.prog W 0 spare held n 3 [v6] = some y6:=hfl 6 _ rfl
  obtain ⟨a6,e6,_,_⟩:=DataW.trod_int Tryz.underlying3 g6
  injection e6 with e6 _
  subst e6
  have g7:DataW.trod enc Tryz.prog W 0 spare held n 3 [v7] = some y7:=hfl 7 _ rfl
  obtain ⟨a7,e7,_,_⟩:=DataW.trod_int Tryz.underlying3 g7
  injection e7 with e7 _
  subst e7
  have g8:DataW.trod enc Tryz.prog W 0 spare held n 3 [v8] = some y8:=hfl 8 _ rfl
  obtain ⟨a8,e8,_,_⟩:=DataW.trod_int Tryz.underlying3 g8
  injection e8 with e8 _
  subst e8
  exact ⟨⟨a0,a1,a2,a3,a4,a5,a6,a7,a8⟩,rfl⟩
theorem coord_tells (w:World) (c:Cf) (sa:Option Addr) (len cap:Nat) (ops:List LOp) (hs:LScr (baseOf w) sa len ops) (hlen:len ≤ 1048576):Calls Tryz.prog 3 #[.agg c.row.toArray,.slice sa len cap] w fun e w'=>e = .returned (.bool true) ∧ RowKit.Below w.heap.size w w' :=
 ((tells_spec (baseOf w) c sa len cap ops hs hlen) (baseOf w) w (Ext.refl _) (sat_baseOf w)).mono fun e w' ⟨v,A',he,⟨hv,_⟩,hS⟩=>⟨by rw [he,hv],hS.below⟩
set_option maxRecDepth 100000 in
theorem lifted (os:Os) (started:os.Started) (H:Type) (enc:TypeId × Value → H) (F:Stop.Interp) :
  ReturnsInHanded {} Tryz.checked os 3 .any ((Rows.OpenSpec.upto Rows.coordTellsSpec).pre6 enc Tryz.prog Tryz.f3 Rows.coordTellsUptoRow.domain false) (((Rows.OpenSpec.upto Rows.coordTellsSpec).at F).post enc Tryz.prog Tryz.f3 false true false false):=by
 refine returnsInHanded_of_cond (C:=Tryz.checked) (s:=Rows.OpenSpec.upto Rows.coordTellsSpec) (k:=Rows.uptoSmall) rfl own started (by kernel_rfl) Tryz.func3
  (OpenSpec.witness (enc:=enc) (C:=Tryz.checked) (s:=Rows.OpenSpec.upto Rows.coordTellsSpec) (k:=Rows.uptoSmall) rfl false ⟨#[],#[.agg #[.int .i64 0,.int .i64 0,.int .i64 0,.int .i64 0,.int .i64 0,.int .i64 0,.int .i64 0,.int .i64 0,.int .i64 0],.slice none 0 0],[]⟩ 8 (by kernel_rfl) (by kernel_rfl) (by kernel_rfl)
   (x:=([.agg [.lit (.int .i64 0),.lit (.int .i64 0),.lit (.int .i64 0),.lit (.int .i64 0),.lit (.int .i64 0),.lit (.int .i64 0),.lit (.int .i64 0),.lit (.int .i64 0),.lit (.int .i64 0)],.nil],[],[])) (by kernel_rfl) rfl (by kernel_rfl)) ?_
 intro W base args ds gs before hval0 hW hcnd hk _
 have hval:∀ (j:Nat) t v,Tryz.f3.params[j]? = some t → args[j]? = some v → Value.okWide Tryz.prog W .any base t v:=hval0
 have hW':=hW
 obtain ⟨p,q,hA0,hV,rfl,hfz,hnd⟩:=hW
 have hA:DataW.TrodAll enc Tryz.prog W 0 (fun _=>true) true Tryz.f3.params.toList args.toList ds p:=hA0
 rw [Tryz.params3] at hA hval
 obtain ⟨v0,vs0,d0,ds0,p0,q0,hargs,rfl,rfl,h0,r0⟩:=trodAll_cons hA
 obtain ⟨v1,vs1,d1,ds1,p1,q1,rfl,rfl,rfl,h1,r1⟩:=trodAll_cons r0
 obtain ⟨rfl,rfl,rfl⟩:=trodAll_nil r1
 obtain rfl:args = #[v0,v1]:=by cases args;simp_all
 obtain ⟨rfl,rfl⟩:=trodVars_none hV
 obtain ⟨c,rfl⟩:=config_of (hval 0 23 v0 rfl rfl) h0
 have k0:=h0
 have lt0:∀ x ∈ p0,x.block < W.heap.size:=by obtain ⟨m,hm⟩:=k0;exact DataW.trod_lt m _ _ _ hm
 obtain ⟨a1,len1,cap1,rfl⟩:=okWide_slice Tryz.underlying24 (hval 1 24 v1 rfl rfl)
 have k1:=h1
 have lt1:∀ x ∈ p1,x.block < W.heap.size:=by obtain ⟨m,hm⟩:=k1;exact DataW.trod_lt m _ _ _ hm
 obtain ⟨hrows,hlen⟩:InRows W 18 [.int .i64,.int .i64,.int .i64,.int .i64,.int .i64,.int .i64,.int .i64,.int .i64,.int .i64,.int .i64,.int .i64,.int .i64,.int .i64,.int .i64,.int .u64,.str,.str,.str] a1 len1 ∧ (d1 = .nil ∧ len1 = 0 ∨ ∃ el sp,d1 = .slice el sp ∧ el.length = len1 ∧ len1 ≤ el.length + sp.length):=by
  obtain ⟨fuel,hf⟩:=h1
  exact in_rows Tryz.underlying24 inferInstance inferInstance (by decide) hf (fun _=>rfl)
 obtain ⟨ops,hc⟩:=script_of hrows
 have hmax:len1 ≤ 1048576:=by
  rcases hlen with ⟨_,rfl⟩|⟨el,sp,rfl,rfl,_⟩
  ·omega
  ·have h:=of_decide_eq_true hk
   simp only [List.cons_append,List.nil_append,Rows.uptoBulkAll,Rows.uptoBulk] at h
   have:=bulk_len el
   omega
 clear hA0 hval0
 refine (coord_tells W c a1 len1 cap1 ops hc hmax).mono fun e W' ⟨he,bel⟩=>?_
 subst he
 exact ⟨_,rfl,_,_,_,[],_,[],hW',trodAll_mk1 (shut_bool Tryz.underlying4 _),(trodAll_cons_mk (Below.trod laidOut (by kernel_rfl) (of_decide_eq_true (by kernel_rfl)) k0 bel lt0) (trodAll_cons_mk (Below.trod laidOut (by kernel_rfl) (of_decide_eq_true (by kernel_rfl)) k1 bel lt1) trodAll_mk0)),rfl,bel.frame _,fun h=>by cases h⟩
theorem proved:Rows.CoordTellsUptoSaid :=
 OpenClaim.holds_of_cond 3 Tryz.f3 rfl rfl rfl rfl rfl rfl rfl ⟨rfl,rfl,rfl,rfl,rfl⟩ rfl rfl rfl rfl rfl (by kernel_rfl) Tryz.func3 (by kernel_rfl)
  (of_decide_eq_true (by kernel_rfl)) (by unfold Func.isWrapper;first|(rw [if_pos (by decide +kernel)];kernel_rfl)|(rw [if_neg (by decide +kernel)];exact ⟨rfl,rfl⟩))
  (fun os started H enc _ F=>lifted os started H enc F)
#print axioms proved
end Go.Proofs.YtaecdnfkcebbeaaGreat.coordTellsDone
