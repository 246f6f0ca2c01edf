import Derived.Test.YtaecdnfkcebbeaaGreatA01
import Derived.Test.YtaecdnfkcebbeaaGreatA21
import Derived.Test.YtaecdnfkcebbeaaGreatA15
import Derived.Lib.ConvBytes
import Derived.Test.YtaecdnfkcebbeaaGreatA12
set_option linter.unusedVariables false
set_option linter.unusedSimpArgs false
namespace Go.Proofs.YtaecdnfkcebbeaaGreat
open Go Go.Sep Go.Proofs
set_option maxRecDepth 10000
set_option maxHeartbeats 40000000
set_option synthInstance.maxSize 2000
structure Ms where
 kind:Int
 session:Int
 number:Int
 job:Int
 badge:Int
 index:Int
 count:Int
 rcode:Int
 rbits:Int
 text:ByteArray
 prog:ByteArray
@[reducible] def Ms.row (m:Ms):List Value:=[.int .i64 m.kind,.int .i64 m.session,.int .i64 m.number,.int .i64 m.job,.int .i64 m.badge,.int .i64 m.index,.int .i64 m.count,.int .i64 m.rcode,.int .u64 m.rbits,.string m.text,.string m.prog]
@[reducible] def Ms.zero:Ms:=⟨0,0,0,0,0,0,0,0,0,⟨#[]⟩,⟨#[]⟩⟩
inductive Wh where
 | session|number|job|badge|index|count
def Wh.off:Wh → Nat
 | .session=>1|.number=>2|.job=>3|.badge=>4|.index=>5|.count=>6
def Wh.get (m:Ms):Wh → Int
 | .session=>m.session|.number=>m.number|.job=>m.job|.badge=>m.badge|.index=>m.index|.count=>m.count
def Wh.set (m:Ms) (n:Int):Wh → Ms
 | .session=>{ m with session:=n }|.number=>{ m with number:=n }|.job=>{ m with job:=n }|.badge=>{ m with badge:=n }|.index=>{ m with index:=n }|.count=>{ m with count:=n }
theorem Wh.at_ (m:Ms) (w:Wh):m.row[w.off]? = some (.int .i64 (w.get m)):=by cases w <;> rfl
theorem Wh.put (m:Ms) (w:Wh) (n:Int):m.row.set w.off (.int .i64 n) = (w.set m n).row:=by cases w <;> rfl
inductive Th where
 | text|prog
def Th.off:Th → Nat
 | .text=>9|.prog=>10
def Th.get (m:Ms):Th → ByteArray
 | .text=>m.text|.prog=>m.prog
def Th.set (m:Ms) (s:ByteArray):Th → Ms
 | .text=>{ m with text:=s }|.prog=>{ m with prog:=s }
theorem Th.at_ (m:Ms) (w:Th):m.row[w.off]? = some (.string (w.get m)):=by cases w <;> rfl
theorem Th.put (m:Ms) (w:Th) (s:ByteArray):m.row.set w.off (.string s) = (w.set m s).row:=by cases w <;> rfl
inductive Fd where
 | whole (w:Wh) (lo hi:Int)
 | text (t:Th) (lo hi:Nat)
 | result
def canonF (n:Nat):Nat:=if 9218868437227405312 < n % 9223372036854775808 then 9221120237041090561 else n
def Fd.may (m:Ms):Fd → Bool
 | .whole w lo hi=>decide (lo ≤ w.get m ∧ w.get m ≤ hi)
 | .text t lo hi=>decide ((lo:Int) ≤ ((t.get m).size:Nat) ∧ (((t.get m).size:Nat):Int) ≤ (hi:Int))
 | .result=>(decide (m.rcode = 0) && decide (((canonF m.rbits.toNat:Nat):Int) = m.rbits)) || (decide (0 < m.rcode ∧ m.rcode ≤ 7) && decide (m.rbits = 0))
def Fd.lay (m:Ms):Fd → ByteArray
 | .whole w _ _=>numB (w.get m).toNat
 | .text t _ _=>frameF (t.get m)
 | .result=>numB m.rcode.toNat ++ hiB m.rbits.toNat 8
def rdBits (b:ByteArray) (p:Nat) (e:Int):Nat × Nat × Int:=if e ≠ 0 then (0,p,e) else if p + 8 ≤ b.size then (ofn (b.extract p (p + 8)) 8,p + 8,0) else (0,p,20)
def Fd.read (b:ByteArray) (s:Ms × Nat × Int):Fd → Ms × Nat × Int
 | .whole w _ _=>(w.set s.1 ((rdNum b 1099511627776 s.2.1 s.2.2).1:Nat),(rdNum b 1099511627776 s.2.1 s.2.2).2)
 | .text t _ hi=>(t.set s.1 (rdText b hi s.2.1 s.2.2).1,(rdText b hi s.2.1 s.2.2).2)
 | .result=>({ s.1 with rcode:=((rdNum b 7 s.2.1 s.2.2).1:Nat),rbits:=((rdBits b (rdNum b 7 s.2.1 s.2.2).2.1 (rdNum b 7 s.2.1 s.2.2).2.2).1:Nat) },(rdBits b (rdNum b 7 s.2.1 s.2.2).2.1 (rdNum b 7 s.2.1 s.2.2).2.2).2)
structure MsOk (m:Ms):Prop where
 t:m.text.size ≤ 100000
 p:m.prog.size ≤ 100000
 x:0 ≤ m.rbits ∧ m.rbits < 18446744073709551616
structure FdA (fd:Fd) (v1 v2 v3:Value) (G:List Blk):Prop where
 may:∃ f ca,v1 = .func (.func f) #[] ca.toArray ∧ FnOk Tryz.prog f ∧ ∀ mb m,MsOk m → Con Tryz.prog f ([ptr mb] ++ ca).toArray (MgB mb m.row :: G) fun v A=>v = .bool (fd.may m) ∧ A = MgB mb m.row :: G
 lay:∃ f ca,v2 = .func (.func f) #[] ca.toArray ∧ FnOk Tryz.prog f ∧ ∀ mb m,MsOk m → fd.may m = true → Con Tryz.prog f ([ptr mb] ++ ca).toArray (MgB mb m.row :: G) fun v A=>v = .string (fd.lay m) ∧ A = MgB mb m.row :: G
 read:∃ f ca,v3 = .func (.func f) #[] ca.toArray ∧ FnOk Tryz.prog f ∧ ∀ B0 mb m rb (bs:ByteArray) (p:Nat) (e:Int),p ≤ bs.size → bs.size ≤ 1000000 → ConB Tryz.prog B0 f ([ptr mb,ptr rb] ++ ca).toArray (MgB mb m.row :: RdB rb bs p e :: G) fun v A=>A = MgB mb (fd.read bs (m,p,e)).1.row :: RdB rb bs ((fd.read bs (m,p,e)).2.1:Nat) (fd.read bs (m,p,e)).2.2 :: G
theorem whole_fd (ob lb hb:Nat) (sel:FuncId) [FnOk Tryz.prog sel] (w:Wh) [hs:SelOk sel w.off] (lo hi:Int) (h0:0 ≤ lo) (h1:hi < 9223372036854775808) :
  FdA (.whole w lo hi) (.func (.func 207) #[] [ptr ob,ptr lb,ptr hb].toArray) (.func (.func 208) #[] [ptr ob].toArray) (.func (.func 209) #[] [ptr ob].toArray) [(ob,cl [fnV sel] 242),(lb,cl [.int .i64 lo] 3),(hb,cl [.int .i64 hi] 3)]:=by
 refine ⟨⟨_,_,rfl,inferInstance,fun mb m _=>?_⟩,⟨_,_,rfl,inferInstance,fun mb m _ hm=>?_⟩,⟨_,_,rfl,inferInstance,fun B0 mb m rb bs p e hp hb2=>?_⟩⟩
 ·exact whole1_spec mb ob lb hb sel m.row w.off (w.get m) lo hi (w.at_ m)
 ·have hm:lo ≤ w.get m ∧ w.get m ≤ hi:=by simpa [Fd.may] using hm
  refine ((whole2_spec mb ob sel m.row w.off (w.get m) (w.at_ m) (by omega) (by omega)).beside (F:=[(lb,cl [.int .i64 lo] 3),(hb,cl [.int .i64 hi] 3)])).mono fun v A hR=>?_
  obtain ⟨A',⟨rfl,rfl⟩,rfl⟩:=hR
  exact ⟨rfl,rfl⟩
 ·refine ((whole3_spec B0 mb ob rb sel m.row w.off _ (w.at_ m) bs p e hp hb2).beside (F:=[(lb,cl [.int .i64 lo] 3),(hb,cl [.int .i64 hi] 3)])).mono fun v A hR=>?_
  obtain ⟨A',rfl,rfl⟩:=hR
  rw [w.put]
  rfl
theorem text_fd (ob lb hb:Nat) (sel:FuncId) [FnOk Tryz.prog sel] (w:Th) [hs:SelOk sel w.off] (lo hi:Nat) (h1:hi ≤ 100000) :
  FdA (.text w lo hi) (.func (.func 210) #[] [ptr ob,ptr lb,ptr hb].toArray) (.func (.func 211) #[] [ptr ob].toArray) (.func (.func 212) #[] [ptr hb,ptr ob].toArray) [(ob,cl [fnV sel] 246),(hb,cl [.int .i64 hi] 3),(lb,cl [.int .i64 lo] 3)]:=by
 refine ⟨⟨_,_,rfl,inferInstance,fun mb m _=>?_⟩,⟨_,_,rfl,inferInstance,fun mb m hok hm=>?_⟩,⟨_,_,rfl,inferInstance,fun B0 mb m rb bs p e hp hb2=>?_⟩⟩
 ·exact text_1_spec mb ob lb hb sel m.row w.off (w.get m) lo hi (w.at_ m)
 ·have hz:(w.get m).size ≤ 1000000:=by
   have h2:=hok.t
   have h3:=hok.p
   cases w
   ·show m.text.size ≤ _;omega
   ·show m.prog.size ≤ _;omega
  refine ((text_2_spec mb ob sel m.row w.off (w.get m) (w.at_ m) hz).beside (F:=[(hb,cl [.int .i64 hi] 3),(lb,cl [.int .i64 lo] 3)])).mono fun v A hR=>?_
  obtain ⟨A',⟨rfl,rfl⟩,rfl⟩:=hR
  exact ⟨rfl,rfl⟩
 ·refine ((text_3_spec B0 mb ob hb rb sel m.row w.off _ hi (w.at_ m) bs p e hp hb2 (by omega)).beside (F:=[(lb,cl [.int .i64 lo] 3)])).mono fun v A hR=>?_
  obtain ⟨A',rfl,rfl⟩:=hR
  rw [w.put]
  rfl
theorem whole_spec (sel:FuncId) [FnOk Tryz.prog sel] (w:Wh) [hs:SelOk sel w.off] (lo hi:Int) (h0:0 ≤ lo) (h1:hi < 9223372036854775808) :
  Con Tryz.prog 139 #[fnV sel,.int .i64 lo,.int .i64 hi] [] fun v A=>∃ v1 v2 v3,v = .agg [v1,v2,v3].toArray ∧ FdA (.whole w lo hi) v1 v2 v3 A:=by
 refine Con.intro (vs:=[_,_,_]) Tryz.func139 rfl Tryz.ntmps139 rfl (fun B=>?_)
 repeat' (first|refine Ops.mkF rfl rfl rfl rfl rfl ?_|refine Cd.seq ?_|refine Cd.reg ?_|refine Ops.nil ?_|refine Ops.bld rfl rfl rfl rfl ?_|refine Ops.box rfl rfl rfl rfl (noPd rfl) (fun b=>?_)|refine Ops.alloc rfl rfl rfl (noPd rfl) (fun b=>?_)|refine Ops.stN rfl rfl rfl rfl rfl rfl (noPd rfl) ?_)
 rename_i ob lb hb
 rename Nat=>rz
 exact Cd.ret (ret1 (A':=[(ob,cl [fnV sel] 242),(lb,cl [.int .i64 lo] 3),(hb,cl [.int .i64 hi] 3)]) rfl (Res.cellN rfl) (fun _ h=>h.split) ⟨_,_,_,rfl,whole_fd ob lb hb sel w lo hi h0 h1⟩)
theorem textf_spec (sel:FuncId) [FnOk Tryz.prog sel] (w:Th) [hs:SelOk sel w.off] (lo hi:Nat) (h1:hi ≤ 100000) :
  Con Tryz.prog 148 #[fnV sel,.int .i64 lo,.int .i64 hi] [] fun v A=>∃ v1 v2 v3,v = .agg [v1,v2,v3].toArray ∧ FdA (.text w lo hi) v1 v2 v3 A:=by
 refine Con.intro (vs:=[_,_,_]) Tryz.func148 rfl Tryz.ntmps148 rfl (fun B=>?_)
 repeat' (first|refine Ops.mkF rfl rfl rfl rfl rfl ?_|refine Cd.seq ?_|refine Cd.reg ?_|refine Ops.nil ?_|refine Ops.bld rfl rfl rfl rfl ?_|refine Ops.box rfl rfl rfl rfl (noPd rfl) (fun b=>?_)|refine Ops.alloc rfl rfl rfl (noPd rfl) (fun b=>?_)|refine Ops.stN rfl rfl rfl rfl rfl rfl (noPd rfl) ?_)
 rename_i ob lb hb
 rename Nat=>rz
 exact Cd.ret (ret1 (A':=[(ob,cl [fnV sel] 246),(hb,cl [.int .i64 hi] 3),(lb,cl [.int .i64 lo] 3)]) rfl (Res.cellN rfl) (fun _ h=>h.split) ⟨_,_,_,rfl,text_fd ob lb hb sel w lo hi h1⟩)
theorem indexf_spec (most:Int) (h1:most < 9223372036854775808):Con Tryz.prog 144 #[.int .i64 most] [] fun v A=>∃ v1 v2 v3,v = .agg [v1,v2,v3].toArray ∧ FdA (.whole .index 0 most) v1 v2 v3 A:=by
 refine Con.intro (vs:=[_]) Tryz.func144 rfl Tryz.ntmps144 rfl (fun B=>?_)
 haveI:SelOk 145 Wh.index.off:=(inferInstance:SelOk 145 5)
 repeat' (first|refine Cd.seq ?_|refine Cd.reg ?_|refine Ops.mv rfl rfl rfl rfl ?_|refine Ops.alloc rfl rfl rfl (noPd rfl) (fun b=>?_))
 refine Ops.call (whole_spec 145 .index 0 most (by decide) h1) rfl (noPd rfl) rfl rfl rfl (fun v A' hR=>?_)
 obtain ⟨v1,v2,v3,rfl,hF⟩:=hR
 obtain ⟨⟨f1,c1,rfl,q1⟩,⟨f2,c2,rfl,q2⟩,⟨f3,c3,rfl,q3⟩⟩:=hF
 refine zg5 ?_
 exact ze36
theorem countf_spec (most:Int) (h1:most < 9223372036854775808):Con Tryz.prog 146 #[.int .i64 most] [] fun v A=>∃ v1 v2 v3,v = .agg [v1,v2,v3].toArray ∧ FdA (.whole .count 0 most) v1 v2 v3 A:=by
 refine Con.intro (vs:=[_]) Tryz.func146 rfl Tryz.ntmps146 rfl (fun B=>?_)
 haveI:SelOk 147 Wh.count.off:=(inferInstance:SelOk 147 6)
 repeat' (first|refine Cd.seq ?_|refine Cd.reg ?_|refine Ops.mv rfl rfl rfl rfl ?_|refine Ops.alloc rfl rfl rfl (noPd rfl) (fun b=>?_))
 refine Ops.call (whole_spec 147 .count 0 most (by decide) h1) rfl (noPd rfl) rfl rfl rfl (fun v A' hR=>?_)
 obtain ⟨v1,v2,v3,rfl,hF⟩:=hR
 obtain ⟨⟨f1,c1,rfl,q1⟩,⟨f2,c2,rfl,q2⟩,⟨f3,c3,rfl,q3⟩⟩:=hF
 refine zg5 ?_
 exact ze36
end Go.Proofs.YtaecdnfkcebbeaaGreat
namespace Go.Sep
open Go
def nanQ (n:Nat):Bool:=decide (9218868437227405312 < n % 9223372036854775808)
theorem nan_order (n:Nat):(FloatKind.f64.format.order n n != some .eq) = nanQ n:=by
 have hs:Ieee.double.signWeight = 9223372036854775808:=rfl
 have hb:Ieee.double.binade = 4503599627370496:=rfl
 have hi:Ieee.double.infRung = 9218868437227405312:=rfl
 show (Ieee.double.order n n != some .eq) = nanQ n
 unfold Ieee.Format.order Ieee.Format.read nanQ
 rw [hs,hb,hi]
 dsimp only
 generalize n % 9223372036854775808 = r
 by_cases h1:r < 4503599627370496
 ·rw [if_pos h1,decide_eq_false (by omega)]
  simp [Ieee.Datum.order]
 ·rw [if_neg h1]
  by_cases h2:r < 9218868437227405312
  ·rw [if_pos h2,decide_eq_false (by omega)]
   simp [Ieee.Datum.order]
  ·rw [if_neg h2]
   by_cases h3:r = 9218868437227405312
   ·rw [if_pos h3,decide_eq_false (by omega)]
    simp [Ieee.Datum.order]
   ·rw [if_neg h3,decide_eq_true (by omega)]
    simp [Ieee.Datum.order]
instance BinRun.neqF {P:Program} {t:TypeId} {a:Nat}:BinRun P .neq t (.float .f64 a) (.float .f64 a) (.bool (nanQ a)):=⟨fun _ _ w=>by
 rw [← nan_order]
 simp [eqGuard,binOp,Op.floatCmp]⟩
def clX (l:List Value) (E:TypeId) (p:Nat × Nat):Obj:=.cells l.toArray E p
theorem clX_cell {w:World} {b:Nat} {l:List Value} {E:TypeId} {p:Nat × Nat} (h:w.heap[b]? = some (clX l E p)) (off:Nat):w.cell? ⟨b,off,none⟩ = l[off]?:=by
 simp [World.cell?,h,clX]
section
variable {P:Program} {N:Fi} {B:Base} {Q:Exit → Act → World → Prop} {T:Tm} {A:List Blk} {ops:Array Oper} {l:List Oper}
variable {d:Nat} {ty:TypeId} {pos:String} {af:Array Edge} {m:Md} {gd:Option (Nat × Bool)}
theorem Ops.ldX {t:TypeId} {x:Operand} {b off:Nat} {sz bs:Nat} {zc:List Value} {L:List Value} {E:TypeId} {p:Nat × Nat} {v:Value} (hm:m.rd false = true) (hg:gst ops T gd = some true) [ht:Ty P t false sz bs zc]
  (hx:ev T x = some (.pointer (some ⟨b,off,none⟩))) [hb:Has A b (clX L E p)] (hv:L[off]? = some v) (hd:Nat.blt d N.n = true)
  (k:Ops P N B Q ops m.tl l ((d,v) :: T) A):Ops P N B Q ops m (⟨some d,.load t x,ty,pos,af,gd⟩ :: l) T A :=
 Ops.readV hm hg hd (fun a w hF hS=>by
  have h0:=hS.here _ hb.mem
  simp [execOp,hF.eval hx,run_loadAt1 ht ((clX_cell h0 off).trans hv)]) k
theorem Ops.cvSB {s t e:TypeId} {x:Operand} {u:ByteArray} (hm:m.eff = true) (hg:gst ops T gd = some true) [hs:TyD P s .string] [ht:TyD P t (.slice e)] [he:TyD P e (.int .u8)] (hx:ev T x = some (.string u)) (hd:Nat.blt d N.n = true)
  (hp:Pd P N B ops m T (some d) (fun v X=>∃ g c L p,v = .slice (some ⟨g,0,none⟩) u.size c ∧ (∀ (j:Nat) (z:Value),(bv u)[j]? = some z → L[j]? = some z) ∧ X = (g,clX L e p) :: A))
  (k:∀ g c L p,(∀ (j:Nat) (z:Value),(bv u)[j]? = some z → L[j]? = some z) → Ops P N B Q ops m.tl l ((d,.slice (some ⟨g,0,none⟩) u.size c) :: T) ((g,clX L e p) :: A)) :
  Ops P N B Q ops m (⟨some d,.convert s t x,ty,pos,af,gd⟩ :: l) T A :=
 Ops.effV hm hp hg hd (fun a w hF hS=>by
  have h1:=Lib.run_convert_string_bytes (P:=P) w s t e u hs.und ht.und he.und
  simp only [execOp,hF.eval hx,Sem.run_bind,h1,Result.andThen_ok,Sem.run_pure,effPost]
  refine ⟨_,⟨w.heap.size,_,(Lib.bytesCells w e u).toList,((Lib.bytesCells w e u).size,(Lib.bytesCells w e u).size + 1),rfl,?_,rfl⟩,?_⟩
  ·intro j z hz
   have:(bv u)[j]? = (u.data.map fun b=>Value.int .u8 b.toNat).toList[j]?:=by simp [bv]
   rw [this] at hz
   unfold Lib.bytesCells
   rw [Array.toList_append]
   exact (List.getElem?_append_left (List.getElem?_eq_some_iff.1 hz).1).trans hz
  ·have h2:Sat B ([] ++ (w.heap.size,Obj.cells (Lib.bytesCells w e u) e) :: A) (w.drew.alloc (.cells (Lib.bytesCells w e u) e)):=hS.drew.alloc (.cells (Lib.bytesCells w e u) e)
   refine h2.put (w':=Lib.bytesWorld w e u) (by simp [Lib.bytesWorld,World.freeze]) (by simp [Lib.bytesWorld,World.freeze]) (by simp [Lib.bytesWorld,World.freeze]) ?_ fun n hn=>?_
   ·rw [Lib.bytesWorld_at_new]
    simp [clX]
   ·simp [Lib.bytesWorld,World.freeze,Array.getElem?_modify,Ne.symm hn]) fun v X ⟨g,c,L,p,h1,h2,h3⟩=>by rw [h1,h3];exact k g c L p h2
end
end Go.Sep
namespace Go.Proofs.YtaecdnfkcebbeaaGreat
open Go Go.Sep Go.Proofs
set_option maxRecDepth 10000
set_option maxHeartbeats 40000000
set_option synthInstance.maxSize 2000
instance:ExtOk Tryz.prog 272 Extern.MathFloatBits.float64bits:=⟨⟨_,Tryz.func272,by kernel_rfl,by kernel_rfl,by kernel_rfl,by kernel_rfl⟩⟩
instance:ExtOk Tryz.prog 274 Extern.MathFloatBits.float64frombits:=⟨⟨_,Tryz.func274,by kernel_rfl,by kernel_rfl,by kernel_rfl,by kernel_rfl⟩⟩
theorem run_tobits (n:Nat):∀ w:World,(Extern.MathFloatBits.float64bits [Value.float .f64 n].toArray).run Tryz.prog w = .ok (.int .u64 n) w:=fun w=>rfl
theorem run_frombits (n:Nat):∀ w:World,(Extern.MathFloatBits.float64frombits [Value.int .u64 (n:Nat)].toArray).run Tryz.prog w = .ok (.float .f64 n) w:=fun w=>rfl
theorem isnan_spec (n:Nat):Con Tryz.prog 271 #[.float .f64 n] [] fun v A=>v = .bool (nanQ n) ∧ A = []:=by
 refine Con.intro (vs:=[_]) Tryz.func271 rfl Tryz.ntmps271 rfl (fun B=>?_)
 refine zg8 ?_
 exact ze8
theorem nan_spec:Con Tryz.prog 273 #[] [] fun v A=>v = .float .f64 9221120237041090561 ∧ A = []:=by
 refine Con.intro (vs:=[]) Tryz.func273 rfl Tryz.ntmps273 rfl (fun B=>?_)
 refine zg0 ?_
 refine Ops.extR (vs:=[.int .u64 ((9221120237041090561:Nat):Int)]) rfl rfl rfl (run_frombits 9221120237041090561) rfl (noPd rfl) ?_
 refine zg1 ?_
 exact ze8
theorem float_spec (n:Nat):Con Tryz.prog 256 #[.int .u64 n] [] fun v A=>v = .float .f64 n ∧ A = []:=by
 refine Con.intro (vs:=[_]) Tryz.func256 rfl Tryz.ntmps256 rfl (fun B=>?_)
 refine zg0 ?_
 refine Ops.extR (vs:=[.int .u64 (n:Nat)]) rfl rfl rfl (run_frombits n) rfl (noPd rfl) ?_
 refine zg1 ?_
 exact ze8
theorem raw_spec (n:Nat):Con Tryz.prog 255 #[.float .f64 n] [] fun v A=>v = .int .u64 (canonF n:Nat) ∧ A = []:=by
 refine Con.intro (vs:=[_]) Tryz.func255 rfl Tryz.ntmps255 rfl (fun B=>?_)
 refine zg0 ?_
 refine Ops.call (isnan_spec n) rfl (noPd rfl) rfl rfl rfl (fun v A' hR=>?_)
 obtain ⟨rfl,rfl⟩:=hR
 by_cases hn:9218868437227405312 < n % 9223372036854775808
 ·rw [show nanQ n = true from decide_eq_true hn,show canonF n = 9221120237041090561 from if_pos hn]
  refine zg15 ?_
  refine Ops.call nan_spec rfl (noPd rfl) rfl rfl rfl (fun v A' hR=>?_)
  obtain ⟨rfl,rfl⟩:=hR
  skip
  refine Ops.extR (vs:=[.float .f64 9221120237041090561]) rfl rfl rfl (run_tobits 9221120237041090561) rfl (noPd rfl) ?_
  refine zg1 ?_
  exact ze8
 ·rw [show nanQ n = false from decide_eq_false hn,show canonF n = n from if_neg hn]
  refine zg6 ?_
  refine Ops.extR (vs:=[.float .f64 n]) rfl rfl rfl (run_tobits n) rfl (noPd rfl) ?_
  refine zg1 ?_
  exact ze8
theorem canon_spec (n:Nat):Con Tryz.prog 214 #[.int .u64 n] [] fun v A=>v = .int .u64 (canonF n:Nat) ∧ A = []:=by
 refine Con.intro (vs:=[_]) Tryz.func214 rfl Tryz.ntmps214 rfl (fun B=>?_)
 refine zg0 ?_
 refine Ops.call (float_spec n) rfl (noPd rfl) rfl rfl rfl (fun v A' hR=>?_)
 obtain ⟨rfl,rfl⟩:=hR
 refine Ops.call (raw_spec n) rfl (noPd rfl) rfl rfl rfl (fun v A' hR=>?_)
 obtain ⟨rfl,rfl⟩:=hR
 refine zg1 ?_
 exact ze8
theorem ofn_step {a b:Nat} (ha:a < 72057594037927936) (hb:b < 256):orI .u64 (IntKind.wrap .u64 ((a:Int) * 2 ^ 8)) (b:Int) = ((a * 256 + b:Nat):Int):=by
 have e:IntKind.wrap .u64 ((a:Int) * 2 ^ 8) = ((a <<< 8:Nat):Int):=by
  rw [Nat.shiftLeft_eq]
  simp [IntKind.wrap,IntKind.bits,IntKind.signed]
  omega
 rw [e,orI_u64 (by rw [Nat.shiftLeft_eq];omega) (by omega),← Nat.shiftLeft_add_eq_or_of_lt (by simpa using hb),Nat.shiftLeft_eq]
theorem bv_bat {s:ByteArray} {i:Nat} (h:i < s.size):(bv s)[i]? = some (.int .u8 ((bat s i:Nat):Int)):=by
 have e:s.data.toList[i]? = some s[i]:=by simp [ByteArray.getElem_eq_getElem_data]
 unfold bv
 rw [List.getElem?_map,e,bat_some (getElem?_pos s i h)]
 rfl
def bitsR (b:ByteArray) (p:Nat):Int ⊕ (Nat × Nat):=if p + 8 ≤ b.size then .inr (ofn (b.extract p (p + 8)) 8,p + 8) else .inl 20
theorem bits1_spec (B0:Base) (rb xr:Nat) (bs:ByteArray) (p:Nat) (hp:p ≤ bs.size) (hb:bs.size ≤ 1000000) :
  ConX Tryz.prog B0 177 #[ptr xr] (RdB rb bs p 0 :: [(xr,cl [ptr rb] 160)])
   (fun v A=>∃ u q,bitsR bs p = .inr (u,q) ∧ v = .int .u64 ((u:Nat):Int) ∧ A = RdB rb bs (q:Nat) 0 :: [(xr,cl [ptr rb] 160)])
   (fun c A=>∃ er,bitsR bs p = .inl er ∧ c = [gave er] ∧ ∃ q:Nat,A = RdB rb bs q 0 :: [(xr,cl [ptr rb] 160)]):=by
 refine ConX.intro (vs:=[_]) Tryz.func177 rfl Tryz.ntmps177 rfl (fun B hB=>?_)
 refine zg4 ?_
 refine Ops.callX (take_spec B0 rb bs p 0 8 hp hb (by omega)) hB rfl rfl rfl (fun c A' hX=>?_) (fun v A' hR=>?_)
 ·obtain ⟨hlt,rfl,rfl⟩:=hX
  exact panX (A':=RdB rb bs p 0 :: [(xr,cl [ptr rb] 160)]) (fun _ h=>h.split) ⟨20,if_neg hlt,rfl,p,rfl⟩
 ·obtain ⟨hlt,rfl,rfl⟩:=hR
  have hsz:(bs.extract p (p + 8)).size = 8:=by rw [ByteArray.size_extract];omega
  have hres:bitsR bs p = .inr (ofn (bs.extract p (p + 8)) 8,p + 8):=if_pos hlt
  generalize bs.extract p (p + 8) = u at hsz hres
  refine Ops.cvSB rfl rfl rfl rfl (noPd rfl) (fun g c L f hL=>?_)
  rw [hsz]
  refine zg3 ?_
  refine Cd.loopK (σ:=Nat) (fun i=>i ≤ 8) (fun i=>[(0,ptr xr),(2,.int .u64 ((ofn u i:Nat):Int)),(7,.slice (some ⟨g,0,none⟩) 8 c),(8,.int .i64 ((8:Nat):Int)),(9,.int .i64 ((i:Nat):Int))]) (fun i=>[(g,clX L 5 f),RdB rb bs ((p + 8:Nat):Int) 0,(xr,cl [ptr rb] 160)]) (fun i=>8 - i) 0 (Nat.zero_le _) ⟨rfl,rfl,rfl,rfl,rfl,trivial⟩ (fun w h=>h.split) (fun i hi=>?_)
  by_cases hlt:i < 8
  ·have hlt':((i:Nat):Int) < ((8:Nat):Int):=by omega
   have hv:L[((i:Nat):Int).toNat * 1]? = some (.int .u8 ((bat u i:Nat):Int)):=by
    rw [show ((i:Nat):Int).toNat * 1 = i from by omega]
    exact hL i _ (bv_bat (s:=u) (i:=i) (by omega))
   have ho:=ofn_lt u i
   have ho2:256 ^ i ≤ 256 ^ 7:=Nat.pow_le_pow_right (by decide) (by omega)
   have hbl:=bat_lt u i
   refine zg35 ?_
   refine Ops.ldX rfl rfl rfl hv rfl ?_
   refine zg0 ?_
   refine Ops.shlI rfl rfl rfl rfl (by decide) rfl ?_
   refine zg0 ?_
   refine Ops.cvI rfl rfl rfl rfl ?_
   rw [wrap_u64 (by omega)]
   rw [show (2:Int) ^ min (Int.toNat 8) (IntKind.bits .u64) = 2 ^ 8 from rfl]
   refine zg23 ?_
   rw [ofn_step (by omega) hbl]
   skip
   exact Ops.nilN (round_end (i + 1:Nat) (by show i + 1 ≤ 8;omega) (by show 8 - (i + 1) < 8 - i;omega) ⟨rfl,rfl,rfl,rfl,rfl,trivial⟩ (fun w h=>h.split))
  ·have hlt':¬ ((i:Nat):Int) < ((8:Nat):Int):=by omega
   have he:i = 8:=by omega
   subst he
   refine zg10 ?_
   exact Cd.ret (retX (ret1 (A':=RdB rb bs ((p + 8:Nat):Int) 0 :: [(xr,cl [ptr rb] 160)]) rfl (Res.tmp rfl) (fun _ h=>h.split) ⟨_,_,hres,rfl,rfl⟩))
theorem rbits_spec (B0:Base) (rb:Nat) (bs:ByteArray) (p:Nat) (e:Int) (hp:p ≤ bs.size) (hb:bs.size ≤ 1000000) :
  ConB Tryz.prog B0 103 #[ptr rb] [RdB rb bs p e] fun v A=>v = .int .u64 (((rdBits bs p e).1:Nat):Int) ∧ A = [RdB rb bs (((rdBits bs p e).2.1:Nat):Int) (rdBits bs p e).2.2]:=by
 refine ConB.intro (vs:=[_]) Tryz.func103 rfl Tryz.ntmps103 rfl (fun B hB=>?_)
 repeat' (first|refine Ops.mkF rfl rfl rfl rfl rfl ?_|refine Cd.seq ?_|refine Cd.reg ?_|refine Ops.asg rfl rfl rfl rfl ?_|refine Ops.ld1 rfl rfl rfl rfl rfl ?_|refine Ops.box rfl rfl rfl rfl (noPd rfl) (fun b=>?_))
 rename Nat=>xr
 by_cases he:e = 0
 ·subst he
  refine Ops.callB (faceuint64_new B0 rb bs p 177 [ptr xr] [(xr,cl [ptr rb] 160)] _ (bits1_spec B0 rb xr bs p hp hb)) hB rfl (noPd rfl) rfl rfl rfl (fun v A' hR=>?_)
  by_cases hlt:p + 8 ≤ bs.size
  ·have hu:rdBits bs p 0 = (ofn (bs.extract p (p + 8)) 8,p + 8,0):=(if_neg (by simp)).trans (if_pos hlt)
   have hr2:bitsR bs p = .inr (ofn (bs.extract p (p + 8)) 8,p + 8):=if_pos hlt
   rcases hR with ⟨u,q,hr,rfl,rfl⟩|⟨er,hr,rfl,rfl⟩
   ·rw [hr2] at hr
    injection hr with hr
    injection hr with h1 h2
    subst h1;subst h2
    rw [hu]
    refine zg1 ?_
    exact Cd.ret (ret1 (A':=[RdB rb bs ((p + 8:Nat):Int) 0]) rfl (Res.tmp rfl) (fun _ h=>h.split) ⟨rfl,rfl⟩)
   ·rw [hr2] at hr;cases hr
  ·have hu:rdBits bs p 0 = (0,p,20):=(if_neg (by simp)).trans (if_neg hlt)
   have hr2:bitsR bs p = .inl 20:=if_neg hlt
   rcases hR with ⟨u,q,hr,rfl,rfl⟩|⟨er,hr,rfl,rfl⟩
   ·rw [hr2] at hr;cases hr
   ·rw [hr2] at hr
    injection hr with h1
    subst h1
    rw [hu]
    refine zg1 ?_
    exact Cd.ret (ret1 (A':=[RdB rb bs p 20]) rfl (Res.tmp rfl) (fun _ h=>h.split) ⟨rfl,rfl⟩)
 ·refine Ops.callB (faceuint64_old B0 rb bs p e 177 [ptr xr] he) hB rfl (noPd rfl) rfl rfl rfl (fun v A' hR=>?_)
  obtain ⟨rfl,rfl⟩:=hR
  rw [show rdBits bs p e = (0,p,e) from if_pos he]
  refine zg1 ?_
  exact ze18
theorem result1_spec (mb:Nat) (m:Ms) (hx:0 ≤ m.rbits) :
  Con Tryz.prog 213 #[ptr mb] [MgB mb m.row] fun v A=>v = .bool (Fd.may m .result) ∧ A = [MgB mb m.row]:=by
 obtain ⟨kd,se,nu,jo,ba,ix,co,rc,rb,tx,pr⟩:=m
 dsimp only at hx
 obtain ⟨x,rfl⟩:∃ x:Nat,rb = x:=⟨rb.toNat,by omega⟩
 refine Con.intro (vs:=[_]) Tryz.func213 rfl Tryz.ntmps213 rfl (fun B=>?_)
 simp only [Fd.may,Int.toNat_natCast]
 by_cases h0:rc = 0
 ·by_cases hc:((canonF x:Nat):Int) = (x:Int)
  ·repeat' (first|refine Cd.seq ?_|refine Cd.reg ?_|refine Ops.mv rfl rfl rfl rfl ?_|refine Ops.asg rfl rfl rfl rfl ?_|refine Ops.nilP rfl rfl rfl rfl ?_|refine Ops.fa0 rfl rfl rfl rfl ?_|refine Ops.ldN rfl rfl rfl rfl ?_|refine Ops.alloc rfl rfl rfl (noPd rfl) (fun b=>?_)|refine Ops.stN rfl rfl rfl rfl rfl rfl (noPd rfl) ?_)
   refine Cd.draw [(0,0,[]),(1,1,[]),(2,0,[]),(3,0,[]),(4,0,[]),(5,1,[]),(7,0,[]),(8,1,[]),(6,2,[8]),(9,0,[]),(10,0,[]),(11,0,[]),(12,0,[]),(13,1,[]),(14,0,[]),(15,0,[]),(16,0,[]),(17,1,[]),(18,0,[]),(19,0,[]),(20,0,[]),(21,0,[]),(22,1,[]),(23,0,[]),(24,0,[]),(25,0,[]),(26,0,[])] (by kernel_rfl) (by kernel_rfl) (by simp only [picked,nth];exact rfl) ?_
   refine zg25 ?_
   refine Ops.call (canon_spec x) rfl zp1 rfl rfl rfl (fun v A' hR=>?_)
   obtain ⟨rfl,rfl⟩:=hR
   refine zg25 ?_
   exact ze37
  ·repeat' (first|refine Cd.seq ?_|refine Cd.reg ?_|refine Ops.mv rfl rfl rfl rfl ?_|refine Ops.asg rfl rfl rfl rfl ?_|refine Ops.nilP rfl rfl rfl rfl ?_|refine Ops.fa0 rfl rfl rfl rfl ?_|refine Ops.ldN rfl rfl rfl rfl ?_|refine Ops.alloc rfl rfl rfl (noPd rfl) (fun b=>?_)|refine Ops.stN rfl rfl rfl rfl rfl rfl (noPd rfl) ?_)
   refine Cd.draw [(0,0,[]),(1,1,[]),(2,0,[]),(3,0,[]),(4,0,[]),(5,1,[]),(7,0,[]),(8,1,[]),(6,2,[8]),(9,0,[]),(10,0,[]),(11,0,[]),(12,0,[]),(13,1,[]),(14,0,[]),(15,0,[]),(16,0,[]),(17,1,[]),(18,0,[]),(19,0,[]),(20,0,[]),(21,0,[]),(22,1,[]),(23,0,[]),(24,0,[]),(25,0,[]),(26,0,[])] (by kernel_rfl) (by kernel_rfl) (by simp only [picked,nth];exact rfl) ?_
   refine zg25 ?_
   refine Ops.call (canon_spec x) rfl zp1 rfl rfl rfl (fun v A' hR=>?_)
   obtain ⟨rfl,rfl⟩:=hR
   refine zg11 ?_
   exact ze37
 ·by_cases h1:0 < rc
  ·by_cases h2:rc ≤ 7
   ·repeat' (first|refine Cd.seq ?_|refine Cd.reg ?_|refine Ops.mv rfl rfl rfl rfl ?_|refine Ops.asg rfl rfl rfl rfl ?_|refine Ops.nilP rfl rfl rfl rfl ?_|refine Ops.fa0 rfl rfl rfl rfl ?_|refine Ops.ldN rfl rfl rfl rfl ?_|refine Ops.alloc rfl rfl rfl (noPd rfl) (fun b=>?_)|refine Ops.stN rfl rfl rfl rfl rfl rfl (noPd rfl) ?_)
    refine Cd.draw [(0,0,[]),(1,1,[]),(2,0,[]),(3,0,[]),(4,0,[]),(5,1,[]),(7,0,[]),(8,1,[]),(6,2,[8]),(9,0,[]),(10,0,[]),(11,0,[]),(12,0,[]),(13,1,[]),(14,0,[]),(15,0,[]),(16,0,[]),(17,1,[]),(18,0,[]),(19,0,[]),(20,0,[]),(21,0,[]),(22,1,[]),(23,0,[]),(24,0,[]),(25,0,[]),(26,0,[])] (by kernel_rfl) (by kernel_rfl) (by simp only [picked,nth];exact rfl) ?_
    refine zg22 ?_
    exact ze38
   ·repeat' (first|refine Cd.seq ?_|refine Cd.reg ?_|refine Ops.mv rfl rfl rfl rfl ?_|refine Ops.asg rfl rfl rfl rfl ?_|refine Ops.nilP rfl rfl rfl rfl ?_|refine Ops.fa0 rfl rfl rfl rfl ?_|refine Ops.ldN rfl rfl rfl rfl ?_|refine Ops.alloc rfl rfl rfl (noPd rfl) (fun b=>?_)|refine Ops.stN rfl rfl rfl rfl rfl rfl (noPd rfl) ?_)
    refine Cd.draw [(0,0,[]),(1,1,[]),(2,0,[]),(3,0,[]),(4,0,[]),(5,1,[]),(7,0,[]),(8,1,[]),(6,2,[8]),(9,0,[]),(10,0,[]),(11,0,[]),(12,0,[]),(13,1,[]),(14,0,[]),(15,0,[]),(16,0,[]),(17,1,[]),(18,0,[]),(19,0,[]),(20,0,[]),(21,0,[]),(22,1,[]),(23,0,[]),(24,0,[]),(25,0,[]),(26,0,[])] (by kernel_rfl) (by kernel_rfl) (by simp only [picked,nth];exact rfl) ?_
    refine zg22 ?_
    exact ze38
  ·repeat' (first|refine Cd.seq ?_|refine Cd.reg ?_|refine Ops.mv rfl rfl rfl rfl ?_|refine Ops.asg rfl rfl rfl rfl ?_|refine Ops.nilP rfl rfl rfl rfl ?_|refine Ops.fa0 rfl rfl rfl rfl ?_|refine Ops.ldN rfl rfl rfl rfl ?_|refine Ops.alloc rfl rfl rfl (noPd rfl) (fun b=>?_)|refine Ops.stN rfl rfl rfl rfl rfl rfl (noPd rfl) ?_)
   refine Cd.draw [(0,0,[]),(1,1,[]),(2,0,[]),(3,0,[]),(4,0,[]),(5,1,[]),(7,0,[]),(8,1,[]),(6,2,[8]),(9,0,[]),(10,0,[]),(11,0,[]),(12,0,[]),(13,1,[]),(14,0,[]),(15,0,[]),(16,0,[]),(17,1,[]),(18,0,[]),(19,0,[]),(20,0,[]),(21,0,[]),(22,1,[]),(23,0,[]),(24,0,[]),(25,0,[]),(26,0,[])] (by kernel_rfl) (by kernel_rfl) (by simp only [picked,nth];exact rfl) ?_
   refine zg22 ?_
   exact Cd.ret (ret1 (A':=[MgB mb [.int .i64 kd,.int .i64 se,.int .i64 nu,.int .i64 jo,.int .i64 ba,.int .i64 ix,.int .i64 co,.int .i64 rc,.int .u64 x,.string tx,.string pr]]) rfl (Res.tmp rfl) (fun _ h=>h.split) ⟨by simp [h0,h1],rfl⟩)
theorem result2_spec (mb:Nat) (m:Ms) (hx:0 ≤ m.rbits ∧ m.rbits < 18446744073709551616) (h0:0 ≤ m.rcode) (h1:m.rcode < 18446744073709551616) :
  Con Tryz.prog 215 #[ptr mb] [MgB mb m.row] fun v A=>v = .string (Fd.lay m .result) ∧ A = [MgB mb m.row]:=by
 obtain ⟨kd,se,nu,jo,ba,ix,co,rc,rb,tx,pr⟩:=m
 dsimp only at hx h0 h1
 obtain ⟨x,rfl⟩:∃ x:Nat,rb = x:=⟨rb.toNat,by omega⟩
 obtain ⟨r,rfl⟩:∃ r:Nat,rc = r:=⟨rc.toNat,by omega⟩
 refine Con.intro (vs:=[_]) Tryz.func215 rfl Tryz.ntmps215 rfl (fun B=>?_)
 simp only [Fd.lay,Int.toNat_natCast]
 have hs:=numB_size (n:=r) (by omega)
 have hs2:=hiB_size x 8
 refine zg0 ?_
 refine Cd.draw [(0,0,[]),(1,0,[]),(2,0,[]),(3,0,[]),(4,1,[]),(5,0,[]),(7,0,[]),(8,0,[]),(9,0,[]),(10,0,[]),(11,1,[]),(6,2,[11]),(12,2,[]),(13,0,[]),(14,0,[])] (by kernel_rfl) (by kernel_rfl) (by simp only [picked,nth];exact rfl) ?_
 refine zg2 ?_
 refine Ops.cvI rfl rfl rfl rfl ?_
 rw [wrap_u64 (by omega)]
 refine zg2 ?_
 refine Ops.call (num_spec r (by omega)) rfl zp1 rfl rfl rfl (fun v A' hR=>?_)
 obtain ⟨rfl,rfl⟩:=hR
 skip
 refine Ops.call (bits_spec x (by omega)) rfl zp1 rfl rfl rfl (fun v A' hR=>?_)
 obtain ⟨rfl,rfl⟩:=hR
 refine Ops.cat rfl rfl rfl rfl (by omega) rfl ?_
 refine zg1 ?_
 exact Cd.ret (ret1 (A':=[MgB mb [.int .i64 kd,.int .i64 se,.int .i64 nu,.int .i64 jo,.int .i64 ba,.int .i64 ix,.int .i64 co,.int .i64 r,.int .u64 x,.string tx,.string pr]]) rfl (Res.tmp rfl) (fun _ h=>h.split) ⟨rfl,rfl⟩)
theorem result3_spec (B0:Base) (mb rb:Nat) (m:Ms) (bs:ByteArray) (p:Nat) (e:Int) (hp:p ≤ bs.size) (hb:bs.size ≤ 1000000) :
  ConB Tryz.prog B0 216 #[ptr mb,ptr rb] [MgB mb m.row,RdB rb bs p e] fun v A=>A = [MgB mb (Fd.read bs (m,p,e) .result).1.row,RdB rb bs ((Fd.read bs (m,p,e) .result).2.1:Nat) (Fd.read bs (m,p,e) .result).2.2]:=by
 obtain ⟨kd,se,nu,jo,ba,ix,co,rc,rbt,tx,pr⟩:=m
 refine ConB.intro (vs:=[_,_]) Tryz.func216 rfl Tryz.ntmps216 rfl (fun B hB=>?_)
 refine zg0 ?_
 refine Ops.callB (rnum_spec B0 rb bs p 7 e hp hb (by omega)) hB rfl (noPd rfl) rfl rfl rfl (fun v A' hR=>?_)
 obtain ⟨rfl,rfl⟩:=hR
 have h1:(rdNum bs 7 p e).1 ≤ 7:=rdNum_le
 have h2:(rdNum bs 7 p e).2.1 ≤ bs.size:=rdNum_at hp
 refine Ops.cvI rfl rfl rfl rfl ?_
 rw [wrap_i64 (by omega)]
 refine zg0 ?_
 refine Ops.callB (rbits_spec B0 rb bs (rdNum bs 7 p e).2.1 (rdNum bs 7 p e).2.2 h2 hb) hB rfl (noPd rfl) rfl rfl rfl (fun v A' hR=>?_)
 obtain ⟨rfl,rfl⟩:=hR
 refine zg26 ?_
 exact Ops.nilN (end0 (A':=[MgB mb [.int .i64 kd,.int .i64 se,.int .i64 nu,.int .i64 jo,.int .i64 ba,.int .i64 ix,.int .i64 co,.int .i64 (((rdNum bs 7 p e).1:Nat):Int),.int .u64 (((rdBits bs (rdNum bs 7 p e).2.1 (rdNum bs 7 p e).2.2).1:Nat):Int),.string tx,.string pr],RdB rb bs (((rdBits bs (rdNum bs 7 p e).2.1 (rdNum bs 7 p e).2.2).2.1:Nat):Int) (rdBits bs (rdNum bs 7 p e).2.1 (rdNum bs 7 p e).2.2).2.2]) rfl (fun _ h=>h.split) rfl)
theorem result_fd:FdA .result (fnV 213) (fnV 215) (fnV 216) []:=by
 refine ⟨⟨_,[],rfl,inferInstance,fun mb m hok=>?_⟩,⟨_,[],rfl,inferInstance,fun mb m hok hm=>?_⟩,⟨_,[],rfl,inferInstance,fun B0 mb m rb bs p e hp hb=>?_⟩⟩
 ·exact result1_spec mb m hok.x.1
 ·have h:0 ≤ m.rcode ∧ m.rcode ≤ 7:=by
   simp only [Fd.may,Bool.or_eq_true,Bool.and_eq_true,decide_eq_true_eq] at hm
   omega
  exact result2_spec mb m hok.x h.1 (by omega)
 ·exact result3_spec B0 mb rb m bs p e hp hb
theorem result_spec:Con Tryz.prog 151 #[] [] fun v A=>∃ v1 v2 v3,v = .agg [v1,v2,v3].toArray ∧ FdA .result v1 v2 v3 A:=by
 refine Con.intro (vs:=[]) Tryz.func151 rfl Tryz.ntmps151 rfl (fun B=>?_)
 repeat' (first|refine Cd.seq ?_|refine Cd.reg ?_|refine Ops.nil ?_|refine Ops.bld rfl rfl rfl rfl ?_|refine Ops.alloc rfl rfl rfl (noPd rfl) (fun b=>?_)|refine Ops.stN rfl rfl rfl rfl rfl rfl (noPd rfl) ?_)
 exact Cd.ret (ret1 (A':=[]) rfl (Res.cellN rfl) (fun _ h=>h.split) ⟨_,_,_,rfl,result_fd⟩)
end Go.Proofs.YtaecdnfkcebbeaaGreat
namespace Go.Sep
open Go
theorem fill_rows {sz:Nat}:∀ (vs:List Value) (k:Nat) (done rest:List Value),(∀ v ∈ vs,v.cells.toList.length = sz) → done.length = k * sz → rest.length = vs.length * sz →
  Instr.fill (fun i=>some (i * sz,sz)) (done ++ rest).toArray (vs.mapIdx fun i v=>(k + i,v)) = some (done ++ (vs.map fun v=>v.cells.toList).flatten).toArray
 | [],k,done,rest,_,_,h3=>by
  have:rest = []:=by cases rest with
   | nil=>rfl
   | cons _ _=>simp at h3
  subst this
  simp [Instr.fill]
 | v :: vs,k,done,rest,h1,h2,h3=>by
  have hv:=h1 v (List.mem_cons_self ..)
  rw [List.mapIdx_cons]
  have hle:sz ≤ rest.length:=by rw [h3,List.length_cons,Nat.add_mul];omega
  rw [fill_one (off:=(k + 0) * sz) (size:=sz) (vs:=v.cells.toList) (by simp) (by simp) hv (by simp [h2,hv];omega)]
  rw [Nat.add_zero,← h2,ins_app,hv]
  have ih:=fill_rows vs (k + 1) (done ++ v.cells.toList) (rest.drop sz) (fun u hu=>h1 u (List.mem_cons_of_mem _ hu)) (by rw [List.length_append,h2,hv,Nat.add_mul];omega) (by rw [List.length_drop,h3,List.length_cons,Nat.add_mul];omega)
  rw [show (vs.mapIdx fun i v=>(k + (i + 1),v)) = vs.mapIdx fun i v=>(k + 1 + i,v) from by
   congr 1;funext i x;rw [show k + (i + 1) = k + 1 + i from by omega]]
  rw [ih]
  simp
section
variable {P:Program} {N:Fi} {B:Base} {Q:Exit → Act → World → Prop} {T:Tm} {A:List Blk} {ops:Array Oper} {l:List Oper}
variable {d:Nat} {ty:TypeId} {pos:String} {af:Array Edge} {m:Md} {gd:Option (Nat × Bool)}
theorem parts_eval {a:Act} {n:Nat}:∀ (ps:List (Nat × Operand)) (vs:List Value) (k:Nat),ps.map (·.1) = (List.range ps.length).map (k + ·) → ps.map (fun p=>a.eval p.2) = vs → ps.map (fun (i,x)=>(i,a.eval x)) = vs.mapIdx fun i v=>(k + i,v)
 | [],vs,k,_,h2=>by simp at h2;subst h2;rfl
 | (i,x) :: ps,vs,k,h1,h2=>by
  simp only [List.map_cons,List.length_cons,List.range_succ_eq_map,List.map_map,List.cons.injEq] at h1 h2
  subst h2
  rw [List.mapIdx_cons]
  have:=parts_eval (a:=a) (n:=n) ps _ (k + 1) (by rw [h1.2];apply List.map_congr_left;intro q _;simp;omega) rfl
  simp only [List.map_cons,h1.1]
  rw [this]
  congr 2
  funext j v
  rw [show k + 1 + j = k + (j + 1) from by omega]
theorem Ops.bsN {t e:TypeId} {ge:Bool} {sz' bs' n:Nat} {zc' vs:List Value} {ps:Array (Nat × Operand)} (rows:List (List Value)) (hm:m.eff = true) (hg:gst ops T gd = some true) [ht:TyD P t (.slice e)] [he:Ty P e ge sz' bs' zc']
  (hi:ps.toList.map (·.1) = List.range n) (hx:evs T (ps.toList.map (·.2)) = some vs) (hn:vs.length = n) (hr:(vs.map fun v=>v.cells.toList) = rows) (hl:(rows.all fun r=>r.length == sz') = true) (h0:Nat.blt 0 (n * sz') = true) (hsz:Nat.ble (n * sz') 16777216 = true) (hd:Nat.blt d N.n = true)
  (hp:Pd P N B ops m T (some d) (NewR (fun b=>.slice (some ⟨b,0,none⟩) n n) (cl (rows.flatten ++ []) e) A)) (k:∀ b,Ops P N B Q ops m.tl l ((d,.slice (some ⟨b,0,none⟩) n n) :: T) ((b,cl (rows.flatten ++ []) e) :: A)):Ops P N B Q ops m (⟨some d,.buildSlice t n ps,ty,pos,af,gd⟩ :: l) T A :=
 Ops.new (v:=fun b=>.slice (some ⟨b,0,none⟩) n n) hm hp hg hd (fun a w hF hS=>by
  obtain ⟨z,hz,hzc⟩:=he.run_zero (w:=w)
  have h0':¬ n * sz' = 0:=by rw [Nat.blt_eq] at h0;omega
  have h1:¬ (16777216 < n * sz'):=by rw [Nat.ble_eq] at hsz;omega
  have hlen:ps.toList.length = n:=by have:=congrArg List.length hi;simpa using this
  have hev:ps.toList.map (fun p=>a.eval p.2) = vs:=by have:=hF.evals hx;rw [List.map_map] at this;exact this
  have hpe:=parts_eval (a:=a) (n:=n) ps.toList vs 0 (by rw [hi,hlen];simp) hev
  simp only [Nat.zero_add] at hpe
  have hsz2:∀ v ∈ vs,v.cells.toList.length = sz':=fun v hv=>by
   have h2:=List.all_eq_true.1 hl v.cells.toList (by rw [← hr];exact List.mem_map.2 ⟨v,hv,rfl⟩)
   simpa using h2
  have hf:=fill_rows (sz:=sz') vs 0 [] ((Array.range (n * sz')).map (fun i=>z.cells[i % z.cells.size]!)).toList hsz2 (by simp) (by simp [hn])
  simp only [Nat.zero_add,List.nil_append,Array.toArray_toList] at hf
  have hpt:(ps.map fun (i,x)=>(i,a.eval x)).toList = vs.mapIdx fun i v=>(i,v):=by rw [Array.toList_map];exact hpe
  simp only [execOp,Instr.buildSlice,ht.run_und,he.run_size,Sem.run_bind,Result.andThen_ok,Sem.run_pure,Sem.run_ite,gt_iff_lt,show (2:Nat)^24 = 16777216 from rfl,if_neg h1,h0',if_false,hz,hpt,hf,hr]
  simp [newRow,cl]) k
end
end Go.Sep
