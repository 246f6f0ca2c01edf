import Derived.WalkKit
import Derived.RangeFuncSeq
import Derived.RangeFuncLeaves
import Derived.RangeFuncRecord
import Derived.OrdersIn
import Derived.TacticsIn
set_option linter.unusedVariables false
set_option linter.unusedSimpArgs false
namespace Go.Proofs.YtkoelgkghijgiaaGreat
structure Hid (q : Prop) : Prop where get : q
theorem zp0 {p:Prop} (h:p:=by first|rfl|assumption|(simp only [decide_eq_true_eq,decide_eq_false_iff_not,Bool.not_eq_true',Bool.not_eq_false',Bool.not_eq_eq_eq_not,Bool.not_true,Bool.not_false,beq_iff_eq,beq_eq_false_iff_ne,ne_eq,decide_eq_decide,eq_self,true_iff,iff_true,not_true_eq_false,not_false_eq_true];first|done|omega)):p:=h
theorem zp1 {p:Prop} (h:p:=by first|exact noPd rfl|(intro v A' hR i hi;obtain ⟨A2,hR,rfl⟩:=hR;(try obtain ⟨rfl,rfl⟩:=hR);(repeat (rcases List.mem_cons.1 hi with rfl|hi;· (first|exact Still.ld1 rfl rfl rfl rfl rfl|exact Still.ldN rfl rfl rfl rfl|exact Still.len rfl rfl rfl rfl rfl|exact Still.skip rfl rfl rfl|exact Still.ldRow1 rfl rfl rfl (by assumption) (by assumption) rfl rfl|exact Still.ldR rfl rfl rfl (by apply_assumption) rfl)));cases hi)):p:=h
theorem zp2 {p:Prop} (h:p:=by first|exact noPd rfl|(intro v A' hR i hi;obtain ⟨A2,hR,rfl⟩:=hR;(try obtain ⟨rfl,rfl⟩:=hR);(repeat (rcases List.mem_cons.1 hi with rfl|hi;· (first|exact Still.ld1 rfl rfl rfl rfl rfl|exact Still.ldN rfl rfl rfl rfl|exact Still.len rfl rfl rfl rfl rfl|exact Still.skip rfl rfl rfl|exact Still.skipU rfl rfl rfl rfl|exact Still.ldRow1 rfl rfl rfl (by assumption) (by assumption) rfl rfl|exact Still.ldR rfl rfl rfl (by apply_assumption) rfl)));cases hi)):p:=h
theorem zp3 {p:Prop} (h:p:=by first|exact noPd rfl|(intro v A' hR i hi;obtain ⟨b,rfl,rfl⟩:=hR;(repeat (rcases List.mem_cons.1 hi with rfl|hi;· (first|exact Still.ld1 rfl rfl rfl rfl rfl|exact Still.ldN rfl rfl rfl rfl|exact Still.len rfl rfl rfl rfl rfl|exact Still.skip rfl rfl rfl|exact Still.ldRow1 rfl rfl rfl (by assumption) (by assumption) rfl rfl|exact Still.ldR rfl rfl rfl (by apply_assumption) rfl)));cases hi)):p:=h
theorem zp4 {p:Prop} (h:p:=by first|exact noPd rfl|(intro v A' hR i hi;obtain rfl:=hR;(repeat (rcases List.mem_cons.1 hi with rfl|hi;· (first|exact Still.ld1 rfl rfl rfl rfl rfl|exact Still.ldN rfl rfl rfl rfl|exact Still.len rfl rfl rfl rfl rfl|exact Still.skip rfl rfl rfl|exact Still.ldRow1 rfl rfl rfl (by assumption) (by assumption) rfl rfl|exact Still.ldR rfl rfl rfl (by apply_assumption) rfl)));cases hi)):p:=h
theorem zp5 {p:Prop} (h:p:=by intro v A' hR i hi;obtain ⟨A2,hR,rfl⟩:=hR;obtain ⟨g,rows,rfl,rfl,_⟩:=hR;(repeat (rcases List.mem_cons.1 hi with rfl|hi;· (first|exact Still.ld1 rfl rfl rfl rfl rfl|exact Still.ldN rfl rfl rfl rfl|exact Still.len rfl rfl rfl rfl rfl|exact Still.skip rfl rfl rfl|exact Still.ldRow1 rfl rfl rfl (by assumption) (by assumption) rfl rfl|exact Still.ldR rfl rfl rfl (by apply_assumption) rfl)));cases hi):p:=h
theorem zp6 {p:Prop} (h:p:=by intro v A' hR i hi;obtain ⟨A2,hR,rfl⟩:=hR;obtain ⟨rfl,rfl⟩:=hR;(repeat (rcases List.mem_cons.1 hi with rfl|hi;· (first|exact Still.ld1 rfl rfl rfl rfl rfl|exact Still.ldN rfl rfl rfl rfl|exact Still.len rfl rfl rfl rfl rfl|exact Still.skip rfl rfl rfl|exact Still.ldRow1 rfl rfl rfl (by assumption) (by assumption) rfl rfl|exact Still.ldR rfl rfl rfl (by apply_assumption) rfl)));cases hi):p:=h
theorem zp7 {p:Prop} (h:p:=by intro v A' hR i hi;obtain ⟨A2,hR,rfl⟩:=hR;(repeat (rcases List.mem_cons.1 hi with rfl|hi;· (first|exact Still.ld1 rfl rfl rfl rfl rfl|exact Still.ldN rfl rfl rfl rfl|exact Still.len rfl rfl rfl rfl rfl|exact Still.skip rfl rfl rfl|exact Still.ldRow1 rfl rfl rfl (by assumption) (by assumption) rfl rfl|exact Still.ldR rfl rfl rfl (by apply_assumption) rfl)));cases hi):p:=h
theorem zp8 {p:Prop} (h:p:=by intro v A' hR i hi;obtain ⟨A2,hR,rfl⟩:=hR;obtain ⟨rfl,rfl⟩:=hR;(repeat (rcases List.mem_cons.1 hi with rfl|hi;· (first|exact Still.ld1 rfl rfl rfl rfl rfl|exact Still.cvSp (bs:=bytesOf [(h.half:Int)]) rfl rfl rfl (bytesOf_size _) (fun j u hu=>by rw [hb] at hu;rw [Nat.zero_add];exact hu) rfl)));cases hi):p:=h
theorem zp9 {p:Prop} (h:p:=by intro v A' hR i hi;obtain ⟨A2,hR,rfl⟩:=hR;obtain ⟨V2,A6,rfl,hV2,hP6⟩:=hR;(repeat (rcases List.mem_cons.1 hi with rfl|hi;· (first|exact Still.ld1 rfl rfl rfl rfl rfl|exact Still.ldN rfl rfl rfl rfl|exact Still.len rfl rfl rfl rfl rfl|exact Still.skip rfl rfl rfl|exact Still.ldRow1 rfl rfl rfl (by assumption) (by assumption) rfl rfl|exact Still.ldR rfl rfl rfl (by apply_assumption) rfl)));cases hi):p:=h
theorem zp10 {p:Prop} (h:p:=by intro v A' hR i hi;obtain ⟨b,rfl,rfl⟩:=hR;(repeat (rcases List.mem_cons.1 hi with rfl|hi;· (first|exact Still.ld1 rfl rfl rfl rfl rfl|exact Still.ldRowA rfl rfl rfl hok hx rfl)));cases hi):p:=h
theorem zp11 {p:Prop} (h:p:=by first|exact noPd rfl|(intro v A' hR i hi;obtain ⟨rfl,rfl⟩:=hR;(repeat (rcases List.mem_cons.1 hi with rfl|hi;· (first|exact Still.ld1 rfl rfl rfl rfl rfl|exact Still.ldN rfl rfl rfl rfl|exact Still.len rfl rfl rfl rfl rfl|exact Still.skip rfl rfl rfl|exact Still.skipU rfl rfl rfl rfl|exact Still.ldRow1 rfl rfl rfl (by assumption) (by assumption) rfl rfl|exact Still.ldR rfl rfl rfl (by apply_assumption) rfl)));cases hi)):p:=h
theorem zp12 {p:Prop} (h:p:=by first|exact noPd rfl|(intro v A' hR i hi;obtain ⟨G2,hR,rfl⟩:=hR;(repeat (rcases List.mem_cons.1 hi with rfl|hi;· (first|exact Still.ld1 rfl rfl rfl rfl rfl|exact Still.ldN rfl rfl rfl rfl|exact Still.len rfl rfl rfl rfl rfl|exact Still.skip rfl rfl rfl|exact Still.ldRow1 rfl rfl rfl (by assumption) (by assumption) rfl rfl|exact Still.ldR rfl rfl rfl (by apply_assumption) rfl)));cases hi)):p:=h
theorem zp13 {p:Prop} (h:p:=by simp only [ByteArray.size_append,hiB_size,bytesOf_size,List.length_singleton];decide):p:=h
theorem zp14 {p:Prop} (h:p:=by first|exact noPd rfl|(intro v A' hR i hi;obtain ⟨rfl,rfl⟩:=hR;(repeat (rcases List.mem_cons.1 hi with rfl|hi;· (first|exact Still.ld1 rfl rfl rfl rfl rfl|exact Still.ldN rfl rfl rfl rfl|exact Still.len rfl rfl rfl rfl rfl|exact Still.skip rfl rfl rfl|exact Still.ldRow1 rfl rfl rfl (by assumption) (by assumption) rfl rfl|exact Still.ldR rfl rfl rfl (by apply_assumption) rfl)));cases hi)):p:=h
theorem zp15 {p:Prop} (h:p:=by show l.length - (i + 1) < l.length - i;omega):p:=h
theorem zp16 {p:Prop} (h:p:=by show (hasS c.kind).size - (i + 1) < (hasS c.kind).size - i;omega):p:=h
theorem zp17 {p:Prop} (h:p:=by show u.size - (i + 1) < u.size - i;omega):p:=h
theorem zp18 {p:Prop} (h:p:=by show rgt true _ (decide (1 ≤ bg ∧ bg ≤ 1099511627776)) = true;rw [decide_eq_true hb];rfl):p:=h
theorem zp19 {p:Prop} (h:p:=by show lv.length - (k + 1) < lv.length - k;omega):p:=h
theorem zp20 {p:Prop} (h:p:=by show fds.length - (i + 1) < fds.length - i;omega):p:=h
theorem zp21 {p:Prop} (h:p:=by show s.size - (i + 1) < s.size - i;omega):p:=h
theorem zp22 {p:Prop} (h:p:=by show rgt true _ (decide (1 ≤ job ∧ job ≤ 8)) = true;rw [decide_eq_true h];rfl):p:=h
theorem zp23 {p:Prop} (h:p:=by show (0:Int) ≤ 0 ∧ (0:Int) < _;omega):p:=h
theorem ze0 {p:Prop} (h:p:=by exact Cd.ret (ret1 (A':=[]) rfl (Res.tmp rfl) (fun _ h=>h.split) ⟨by rw [numB,hx,numL_small hm],rfl⟩)):p:=h
theorem ze1 {p:Prop} (h:p:=by exact Cd.ret (ret1 (A':=DkB db g c S.length rv ar bd false :: SeB g S sp :: H) rfl (Res.tmp rfl) (fun _ h=>h.split) ⟨rfl,hD1⟩)):p:=h
theorem ze2 {p:Prop} (h:p:=by exact Cd.ret (ret1 (A':=[]) rfl (Res.tmp rfl) (fun _ h=>h.split) ⟨⟨_,rfl⟩,rfl⟩)):p:=h
theorem ze3 {p:Prop} (h:p:=by exact Ops.nilN (meet_end (Q:=fun _ _ _=>True) (fb,f) ⟨hf0,hf3⟩ ⟨rfl,rfl,rfl,trivial⟩ (fun w h=>h.split))):p:=h
theorem ze4 {p:Prop} (h:p:=by exact Ops.nilN (round_end (i + 1) ⟨by omega,by omega⟩ (by omega) ⟨rfl,rfl,rfl,rfl,rfl,rfl,trivial⟩ (fun w h=>h.split))):p:=h
theorem ze5 {p:Prop} (h:p:=by exact Cd.ret (ret2 (A':=[]) rfl (Res.tmp rfl) (Res.tmp rfl) (fun _ h=>h.split) ⟨⟨_,_,rfl⟩,rfl⟩)):p:=h
theorem ze6 {p:Prop} (h:p:=by exact Ops.nilN (round_end (i + 1:Nat) (by show i + 1 ≤ l.length;omega) zp15 ⟨rfl,rfl,rfl,rfl,trivial⟩ (fun w h=>h.split))):p:=h
theorem ze7 {p:Prop} (h:p:=by exact Cd.ret (ret2 (A':=[]) rfl (Res.cellN rfl) (Res.tmp rfl) (fun _ h=>h.split) ⟨_,_,_,_,_,rfl,fun q=>by cases q⟩)):p:=h
theorem ze8 {p:Prop} (h:p:=by exact Ops.nilN (meet_end (Q:=fun _ _ _=>True) (fb,f) ⟨hf0,hf3⟩ ⟨rfl,rfl,rfl,rfl,rfl,rfl,rfl,rfl,trivial⟩ (fun w h=>h.split))):p:=h
theorem ze9 {p:Prop} (h:p:=by exact Cd.ret (ret1 (A':=[]) rfl (Res.tmp rfl) (fun _ h=>h.split) ⟨rfl,rfl⟩)):p:=h
theorem ze10 {p:Prop} (h:p:=by exact Cd.ret (ret2 (A':=[]) rfl (Res.tmp rfl) (Res.tmp rfl) (fun _ h=>h.split) ⟨rfl,rfl⟩)):p:=h
theorem ze11 {p:Prop} (h:p:=by exact Ops.nilN (round_end (i + 1) (by show i + 1 ≤ l.length;omega) zp15 ⟨rfl,rfl,rfl,trivial⟩ (fun w h=>h))):p:=h
theorem ze12 {p:Prop} (h:p:=by exact Cd.ret (ret1 rfl (Res.tmp rfl) (fun w h=>h) ⟨rfl,rfl⟩)):p:=h
theorem ze13 {p:Prop} (h:p:=by exact Cd.ret (ret1 (A':=[]) rfl (Res.tmp rfl) (fun _ h=>h.split) ⟨⟨_,rfl,by unfold nmL;rw [if_neg (by omega)];decide⟩,rfl⟩)):p:=h
theorem ze14 {p:Prop} (h:p:=by exact Ops.nilN (meet_end (Q:=fun _ _ _=>True) () trivial ⟨rfl,rfl,rfl,rfl,trivial⟩ (fun w h=>h.split))):p:=h
theorem ze15 {p:Prop} (h:p:=by exact Ops.nilN (meet_end (Q:=fun _ _ _=>True) () trivial ⟨rfl,rfl,trivial⟩ (fun w h=>h.split))):p:=h
theorem ze16 {p:Prop} (h:p:=by exact Cd.skip (meet_end (Q:=fun _ _ _=>True) () trivial ⟨rfl,rfl,trivial⟩ (fun w h=>h.split))):p:=h
theorem ze17 {p:Prop} (h:p:=by exact Ops.nilN (inB (inB (meet_end (Q:=fun _ _ _=>True) () trivial ⟨rfl,rfl,rfl,rfl,trivial⟩ (fun w h=>h.split))))):p:=h
theorem ze18 {p:Prop} (h:p:=by exact Cd.exit (inTx (inBs (meet_end (Q:=fun _ _ _=>True) (⟨i,o1,A1⟩:OnS) ⟨rfl,hok1.later,hA1.on,by rw [hr1];exact hrl⟩ ⟨rfl,rfl,rfl,rfl,trivial⟩ (fun w h=>h.split))))):p:=h
theorem ze19 {p:Prop} (h:p:=by exact Cd.ret (ret3 (A':=[]) rfl (Res.tmp rfl) (Res.tmp rfl) (Res.tmp rfl) (fun _ h=>h.split) ⟨by unfold formV;rw [hbad],rfl⟩)):p:=h
theorem ze20 {p:Prop} (h:p:=by exact Cd.ret (ret3 (A':=[]) rfl (Res.tmp rfl) (Res.tmp rfl) (Res.tmp rfl) (fun _ h=>h.split) ⟨by rw [fin];congr 1,rfl⟩)):p:=h
theorem ze21 {p:Prop} (h:p:=by exact Cd.ret (ret1 (A':=[RgB rb b p 20 p]) rfl (Res.tmp rfl) (fun _ h=>h.split) ⟨p,rfl,rfl⟩)):p:=h
theorem ze22 {p:Prop} (h:p:=by exact Ops.nilN (round_end (i + 1:Nat) (by show i + 1 ≤ 8;omega) (by show 8 - (i + 1) < 8 - i;omega) ⟨rfl,rfl,rfl,trivial⟩ (fun w h=>h.split))):p:=h
theorem ze23 {p:Prop} (h:p:=by exact Cd.ret (ret2 (A':=[RgB rb b p e a]) rfl (Res.tmp rfl) (Res.tmp rfl) (fun _ h=>h.split) ⟨⟨_,rfl⟩,rfl⟩)):p:=h
theorem ze24 {p:Prop} (h:p:=by exact Cd.ret (ret2 (A':=[]) rfl (Res.cellN rfl) (Res.tmp rfl) (fun _ h=>h.split) ⟨rfl,rfl⟩)):p:=h
theorem ze25 {p:Prop} (h:p:=by exact Ops.nilN (inB (inB (meet_end (Q:=fun _ _ _=>True) a' trivial ⟨rfl,rfl,rfl,rfl,rfl,trivial⟩ (fun w h=>h.split))))):p:=h
theorem ze26 {p:Prop} (h:p:=by exact Ops.nilN (meet_end (Q:=fun _ _ _=>True) () trivial ⟨rfl,rfl,rfl,rfl,rfl,rfl,rfl,rfl,trivial⟩ (fun w h=>h.split))):p:=h
theorem ze27 {p:Prop} (h:p:=by exact Ops.nilN (round_end (k + 1:Nat) (by show k + 1 ≤ lv.length;omega) zp19 ⟨rfl,rfl,rfl,rfl,rfl,rfl,rfl,rfl,congrArg (fun q=>some (Value.bool q)) hnx.symm,rfl,rfl,trivial⟩ (fun w h=>h.split))):p:=h
theorem ze28 {p:Prop} (h:p:=by exact Cd.ret (ret1 (A':=[]) rfl (Res.tmp rfl) (fun _ h=>h.split) ⟨by rw [he];rfl,rfl⟩)):p:=h
theorem ze29 {p:Prop} (h:p:=by exact Cd.ret (ret1 (A':=[RdB rb bs p e]) rfl (Res.tmp rfl) (fun _ h=>h.split) ⟨rfl,rfl⟩)):p:=h
theorem ze30 {p:Prop} (h:p:=by exact Ops.nilN (meet_end (Q:=fun _ _ _=>True) () trivial ⟨rfl,rfl,rfl,rfl,rfl,rfl,rfl,rfl,rfl,trivial⟩ (fun w h=>h.split))):p:=h
theorem ze31 {p:Prop} (h:p:=by exact Ops.nilN (meet_end (Q:=fun _ _ _=>True) () trivial ⟨rfl,rfl,rfl,rfl,rfl,rfl,rfl,congrArg (fun q=>some (Value.bool q)) (decide_eq_true g2),trivial⟩ (fun w h=>h.split))):p:=h
theorem ze32 {p:Prop} (h:p:=by exact Ops.nilN (meet_end (Q:=fun _ _ _=>True) () trivial ⟨rfl,rfl,rfl,rfl,rfl,rfl,rfl,congrArg (fun q=>some (Value.bool q)) (decide_eq_false g2),trivial⟩ (fun w h=>h.split))):p:=h
theorem ze33 {p:Prop} (h:p:=by exact Ops.nilN (meet_end (Q:=fun _ _ _=>True) (fb,fw) trivial ⟨rfl,rfl,rfl,trivial⟩ (fun w h=>h.split))):p:=h
theorem ze34 {p:Prop} (h:p:=by exact Ops.nilN (meet_end (Q:=fun _ _ _=>True) (fb,fw) trivial ⟨rfl,rfl,rfl,rfl,rfl,rfl,rfl,trivial⟩ (fun w h=>h.split))):p:=h
theorem ze35 {p:Prop} (h:p:=by exact Ops.nilN (meet_end (Q:=fun _ _ _=>True) (fb,fw) trivial ⟨rfl,rfl,rfl,rfl,rfl,rfl,rfl,rfl,trivial⟩ (fun w h=>h.split))):p:=h
theorem ze36 {p:Prop} (h:p:=by exact Cd.skip (meet_end (Q:=fun _ _ _=>True) () trivial ⟨rfl,rfl,rfl,rfl,rfl,rfl,rfl,rfl,trivial⟩ (fun w h=>h.split))):p:=h
theorem ze37 {p:Prop} (h:p:=by exact Cd.ret (ret1 (A':=A') rfl (Res.tmp rfl) (fun _ h=>h.split) ⟨rfl,rfl⟩)):p:=h
theorem ze38 {p:Prop} (h:p:=by exact Cd.ret (ret2 (A':=[]) rfl (Res.tmp rfl) (Res.tmp rfl) (fun _ h=>h.split) (.inl ⟨by rw [hfr,hb];rfl,rfl,rfl⟩))):p:=h
theorem ze39 {p:Prop} (h:p:=by exact Ops.nilN (meet_end (Q:=fun _ _ _=>True) hb trivial ⟨rfl,rfl,rfl,rfl,rfl,rfl,rfl,rfl,trivial⟩ (fun w h=>h.split))):p:=h
theorem ze40 {p:Prop} (h:p:=by exact Ops.nilN (round_end (⟨i + 1,h,s,sv,ok,G⟩:CnS) ⟨by show i + 1 ≤ 2;omega,by show CurA (curF x.S (i + 1)) _;rw [hcur2];exact hc⟩ (by show 2 - (i + 1) < 2 - i;omega) ⟨rfl,rfl,rfl,rfl,rfl,rfl,rfl,rfl,rfl,rfl,trivial⟩ (fun w h=>h.split))):p:=h
theorem ze41 {p:Prop} (h:p:=by exact Cd.ret (ret1 (A':=D) rfl (Res.tmp rfl) (fun _ h=>h.split) ⟨rfl,hD1⟩)):p:=h
theorem ze42 {p:Prop} (h:p:=by exact Cd.ret (ret4 (A':=D) rfl (Res.tmp rfl) (Res.tmp rfl) (Res.tmp rfl) (Res.tmp rfl) (fun _ h=>h.split) (.inl (by rw [hop];exact ⟨rfl,rfl,rfl⟩)))):p:=h
theorem ze43 {p:Prop} (h:p:=by exact Cd.ret (ret1 (A':=WlB wb db ⟨⟨hn,half,snap,log⟩,recs,true⟩ :: D) rfl (Res.tmp rfl) (fun _ h=>h.split) ⟨rfl,D,rfl,hD9⟩)):p:=h
theorem ze44 {p:Prop} (h:p:=by exact Cd.ret (ret1 (A':=WlB wb db ⟨⟨hn,half,snap,log⟩,recs,false⟩ :: D) rfl (Res.tmp rfl) (fun _ h=>h.split) ⟨rfl,D,rfl,hD9⟩)):p:=h
theorem ze45 {p:Prop} (h:p:=by exact Cd.ret (ret1 (A':=WlB wb db ⟨⟨hn,half,snap,log⟩,recs,true⟩ :: D2) rfl (Res.tmp rfl) (fun _ h=>h.split) ⟨rfl,D2,rfl,hD3⟩)):p:=h
theorem ze46 {p:Prop} (h:p:=by exact Cd.ret (ret1 (A':=[]) rfl (Res.tmp rfl) (fun _ h=>h.split) ⟨by rw [decide_eq_true h2],rfl⟩)):p:=h
theorem ze47 {p:Prop} (h:p:=by exact Cd.ret (ret1 (A':=[]) rfl (Res.tmp rfl) (fun _ h=>h.split) ⟨by rw [decide_eq_false h2],rfl⟩)):p:=h
theorem ze48 {p:Prop} (h:p:=by exact Cd.ret (ret1 (A':=[]) rfl (Res.tmp rfl) (fun _ h=>h.split) Own.none)):p:=h
theorem ze49 {p:Prop} (h:p:=by exact Cd.ret (ret1 (A':=G') rfl (Res.tmp rfl) (fun _ h=>h.split) hG')):p:=h
theorem ze50 {p:Prop} (h:p:=by exact Cd.ret (ret1 (A':=[StB sb qb res pv lv]) rfl (Res.tmp rfl) (fun _ h=>h.split) ⟨rfl,rfl⟩)):p:=h
theorem ze51 {p:Prop} (h:p:=by exact Ops.nilN (inB (inB (round_end (⟨i + 1,_⟩:PtS) ⟨by show i + 1 ≤ _;omega,by show BuA bb (putN c (i + 1)) _;rw [hfi,hfl];exact hR⟩ zp16 ⟨rfl,rfl,rfl,trivial⟩ (fun w h=>h.split))))):p:=h
theorem ze52 {p:Prop} (h:p:=by exact Cd.ret (ret2 (A':=D) rfl (Res.tmp rfl) (Res.tmp rfl) (fun _ h=>h.split) ⟨rfl,hD⟩)):p:=h
theorem ze53 {p:Prop} (h:p:=by exact Cd.ret (ret1 (A':=A') rfl (Res.cellN rfl) (fun _ h=>h.split) ⟨_,_,_,rfl,⟨f1,c1,rfl,q1⟩,⟨f2,c2,rfl,q2⟩,⟨f3,c3,rfl,q3⟩⟩)):p:=h
theorem ze54 {p:Prop} (h:p:=by exact Cd.ret (ret1 (A':=[MgB mb [.int .i64 kd,.int .i64 se,.int .i64 nu,.int .i64 jo,.int .i64 ba,.int .i64 ix,.int .i64 co,.int .i64 rc,.int .u64 x,.string tx,.string pr]]) rfl (Res.tmp rfl) (fun _ h=>h.split) ⟨by simp [h0,hc],rfl⟩)):p:=h
theorem ze55 {p:Prop} (h:p:=by exact Cd.ret (ret1 (A':=[MgB mb [.int .i64 kd,.int .i64 se,.int .i64 nu,.int .i64 jo,.int .i64 ba,.int .i64 ix,.int .i64 co,.int .i64 rc,.int .u64 x,.string tx,.string pr]]) rfl (Res.tmp rfl) (fun _ h=>h.split) ⟨by simp [h0,h1,h2],rfl⟩)):p:=h
theorem ze56 {p:Prop} (h:p:=by exact Cd.ret (ret1 (A':=[]) rfl (Res.cellN rfl) (fun _ h=>h.split) ⟨rfl,rfl⟩)):p:=h
theorem ze57 {p:Prop} (h:p:=by exact Ops.nilN (round_end (i + 1:Nat) (by show i + 1 ≤ fds.length;omega) zp20 ⟨rfl,by rw [hs];rfl,rfl,rfl,rfl,trivial⟩ (fun w h=>h.split))):p:=h
theorem ze58 {p:Prop} (h:p:=by exact Cd.exit (inTx (roundX (inBs (meet_end (Q:=fun _ _ _=>True) () trivial ⟨rfl,rfl,rfl,trivial⟩ (fun w h=>h.split)))))):p:=h
theorem ze59 {p:Prop} (h:p:=by exact Cd.ret (ret1 (A':=D) rfl (Res.tmp rfl) (fun _ h=>h.split) ⟨rfl,rfl⟩)):p:=h
theorem ze60 {p:Prop} (h:p:=by exact Cd.ret (ret1 (A':=[RdB rb bs q e]) rfl (Res.cell1 rfl rfl) (fun _ h=>h.split) ⟨rfl,rfl⟩)):p:=h
theorem ze61 {p:Prop} (h:p:=by exact Cd.exit (inTx (roundX (inBs (end0 (A':=CoB xb lb1 tb cb mb db wb sb c tv dead :: (Ls.TB lb1 lm1 c.lease es ck ++ [(bx,cl [ptr xb] 26)])) rfl (fun _ h=>h.split) ⟨lb1,lm1,es,ck,rfl,hok⟩))))):p:=h
theorem ze62 {p:Prop} (h:p:=by exact Cd.ret (ret1 (A':=[(xb,cl [.int .i64 badge] 3)]) rfl (Res.tmp rfl) (fun _ h=>h.split) ⟨by simp [h1],rfl⟩)):p:=h
theorem ze63 {p:Prop} (h:p:=by exact Cd.ret (ret1 (A':=QuB qb att (.slice a rows.length c) :: RG) rfl (Res.tmp rfl) (fun _ h=>h.split) ⟨rfl,rfl⟩)):p:=h
theorem ze64 {p:Prop} (h:p:=by exact Cd.ret (ret2 (A':=QuB qb att (.slice a rows.length c) :: RG) rfl (Res.tmp rfl) (Res.tmp rfl) (fun _ h=>h.split) ⟨rfl,rfl⟩)):p:=h
theorem ze65 {p:Prop} (h:p:=by exact Cd.ret (ret1 (A':=[RdB rb bs q2 0]) rfl (Res.tmp rfl) (fun _ h=>h.split) ⟨rfl,rfl⟩)):p:=h
theorem ze66 {p:Prop} (h:p:=by exact Cd.ret (ret1 (A':=[RdB rb bs p e2]) rfl (Res.tmp rfl) (fun _ h=>h.split) ⟨rfl,rfl⟩)):p:=h
theorem ze67 {p:Prop} (h:p:=by exact Cd.ret (ret1 (A':=StB sb qb s.res pv lv :: QuB qb s.att (.slice ra s.rows.length rc) :: (RG ++ (PG ++ (LG ++ ls.flatMap Lg.G)))) rfl (Res.tmp rfl) (fun _ h=>h.split) ⟨rfl,qb,_,RG,pv,PG,lv,LG,ls,rfl,y1,y2,y3,y4,y5⟩)):p:=h
theorem ze68 {p:Prop} (h:p:=by exact Cd.ret (ret1 (A':=StB sb qb s.res (.slice pa s.progs.length pc) (.slice la s.logs.length lc) :: QuB qb s.att (.slice ra s.rows.length rc) :: (RG ++ (PG ++ (LG ++ ls.flatMap Lg.G)))) rfl (Res.tmp rfl) (fun _ h=>h.split) ⟨rfl,qb,_,RG,_,PG,_,LG,ls,rfl,y1,y2,y3,y4,y5⟩)):p:=h
theorem ze69 {p:Prop} (h:p:=by exact Ops.nilN (meet_end (Q:=fun _ _ _=>True) rb trivial ⟨rfl,rfl,rfl,rfl,rfl,trivial⟩ (fun w h=>h.split))):p:=h
theorem ze70 {p:Prop} (h:p:=by exact Cd.skip (meet_end (Q:=fun _ _ _=>True) (⟨(snapF w x (bytesS s)).1.1,(snapF w x (bytesS s)).1.2,_,D1⟩:MkS) ⟨hpr0.symm,hD1,by show k + (bytesS s).size + 20 ≤ k + 17020;omega⟩ ⟨rfl,rfl,rfl,trivial⟩ (fun w h=>h.split))):p:=h
theorem ze71 {p:Prop} (h:p:=by exact Cd.ret (ret2 (A':=[RdB rb b0 p e]) rfl (Res.tmp rfl) (Res.tmp rfl) (fun _ h=>h.split) ⟨rfl,rfl⟩)):p:=h
theorem ze72 {p:Prop} (h:p:=by exact Ops.nilN (meet_end (Q:=fun _ _ _=>True) (pb,p) hp ⟨rfl,rfl,rfl,rfl,rfl,trivial⟩ (fun w h=>h.split))):p:=h
theorem ze73 {p:Prop} (h:p:=by exact Cd.ret (ret2 (A':=CoB xb lb tb cb mb db wb sb c tv dead :: (p.l.G ++ SD)) rfl (Res.cellN rfl) (Res.tmp rfl) (fun _ h=>h.split) ⟨p,rfl,rfl,ht⟩)):p:=h
theorem ze74 {p:Prop} (h:p:=by exact Ops.nilN (meet_end (Q:=fun _ _ _=>True) (pb,p) hp ⟨rfl,rfl,rfl,rfl,trivial⟩ (fun w h=>h.split))):p:=h
theorem ze75 {p:Prop} (h:p:=by exact Cd.ret (ret1 (A':=CoB xb lb tb cb mb db wb sb c tv dead :: (Ls.TB lb lm c.lease les lck ++ ((mb,mpo mes mck_) :: WlB wb db w :: (SD ++ (D ++ TG))))) rfl (Res.tmp rfl) (fun _ h=>h.split) (.inl ⟨by decide,rfl,rfl⟩))):p:=h
theorem ze76 {p:Prop} (h:p:=by exact Cd.skip (meet_end (Q:=fun _ _ _=>True) () trivial ⟨rfl,rfl,rfl,trivial⟩ (fun w h=>h.split))):p:=h
theorem ze77 {p:Prop} (h:p:=by exact Cd.ret (ret1 (A':=CoB xb lb tb cb mb db wb sb c tv dead :: Se.TabB tb sv G) rfl (Res.tmp rfl) (fun _ h=>h.split) ⟨rfl,rfl⟩)):p:=h
theorem ze78 {p:Prop} (h:p:=by exact Cd.ret (ret1 (A':=[CoB xb lb tb cb mb db wb sb c tv dead]) rfl (Res.tmp rfl) (fun _ h=>h.split) ⟨rfl,rfl⟩)):p:=h
theorem ze79 {p:Prop} (h:p:=by exact Cd.ret (ret0 (A':=CoB xb lb tb cb mb db wb sb c tv dead :: HrB dx xx fx sx xb data node life (.slice none 0 0)) rfl (fun _ h=>h.split) rfl)):p:=h
theorem ze80 {p:Prop} (h:p:=by exact Cd.ret (ret1 (A':=DkB db g c S.length rv ar bd de :: SeB g S sp :: H) rfl (Res.tmp rfl) (fun _ h=>h.split) ⟨rfl,rfl⟩)):p:=h
theorem ze81 {p:Prop} (h:p:=by exact Cd.ret (ret2 (A':=DkB db g c S.length rv ar bd false :: SeB g S sp :: H) rfl (Res.tmp rfl) (Res.tmp rfl) (fun _ h=>h.split) ⟨rfl,rfl⟩)):p:=h
theorem ze82 {p:Prop} (h:p:=by exact Cd.ret (ret2 rfl (Res.tmp rfl) (Res.tmp rfl) (fun _ h=>h.split) ⟨rfl,rfl⟩)):p:=h
theorem ze83 {p:Prop} (h:p:=by exact Cd.ret (ret1 rfl (Res.tmp rfl) (fun _ h=>h.split) ⟨rfl,rfl⟩)):p:=h
theorem ze84 {p:Prop} (h:p:=by exact Cd.ret (ret2 rfl (Res.tmp rfl) (Res.tmp rfl) (fun _ h=>h) ⟨_,_,rfl,rfl⟩)):p:=h
theorem ze85 {p:Prop} (h:p:=by exact Cd.ret (ret1 (A':=TB n m ticks es ck) rfl (Res.tmp rfl) (fun _ h=>h.split) ⟨rfl,es,ck,rfl,h⟩)):p:=h
theorem ze86 {p:Prop} (h:p:=by exact Cd.ret (ret1 (A':=TB n m ticks es ck) rfl (Res.cell1 rfl rfl) (fun _ h=>h.split) ⟨rfl,rfl⟩)):p:=h
theorem ze87 {p:Prop} (h:p:=by exact Cd.ret (inBr (rnd_ret ⟨rfl,⟨x,hmem,hc⟩,rfl⟩ (fun w h=>h.split)))):p:=h
theorem ze88 {p:Prop} (h:p:=by exact Cd.ret (ret2 rfl (Res.tmp rfl) (Res.tmp rfl) (fun _ h=>h) ⟨rfl,rfl⟩)):p:=h
theorem zg0 {p q:Prop} (k:q) (h:Hid q → p:=by intro kk;(repeat' (first|refine Cd.seq ?_|refine Cd.reg ?_|refine Ops.nil ?_|refine Ops.mv rfl rfl rfl rfl ?_|refine Ops.asg rfl rfl rfl rfl ?_|fail));exact kk.get):p:=h ⟨k⟩
theorem zg1 {p q:Prop} (k:q) (h:Hid q → p:=by intro kk;(repeat' (first|refine Ops.delI rfl rfl rfl rfl (noPd rfl) ?_|refine Cd.seq ?_|refine Cd.reg ?_|refine Ops.nil ?_|refine Ops.mv rfl rfl rfl rfl ?_|refine Ops.asg rfl rfl rfl rfl ?_|refine Ops.nilP rfl rfl rfl rfl ?_|refine Ops.fa0 rfl rfl rfl rfl ?_|refine Ops.fa rfl rfl rfl rfl ?_|refine Ops.ld1 rfl rfl rfl rfl rfl ?_|refine Ops.lenStr rfl rfl rfl rfl ?_|refine Ops.lenS rfl rfl rfl rfl ?_|refine Ops.ext rfl rfl rfl rfl rfl ?_|refine Ops.st1 rfl rfl rfl rfl rfl (noPd rfl) ?_|refine Ops.stN rfl rfl rfl rfl rfl rfl (noPd rfl) ?_|refine Cd.condT rfl rfl ?_|refine Cd.condF rfl rfl ?_|refine Cd.block ?_|fail));exact kk.get):p:=h ⟨k⟩
theorem zg2 {p q:Prop} (k:q) (h:Hid q → p:=by intro kk;(repeat' (first|refine Cd.seq ?_|refine Cd.reg ?_|refine Ops.nil ?_|refine Ops.mv rfl rfl rfl rfl ?_|refine Ops.asg rfl rfl rfl rfl ?_|refine Ops.ldN rfl rfl rfl rfl ?_|refine Ops.lenStr rfl rfl rfl rfl ?_|refine Ops.lenS rfl rfl rfl rfl ?_|refine Ops.bin rfl rfl rfl rfl rfl ?_|refine Cd.block ?_|refine Cd.skip (Cd.next ?_)|refine Cd.exit (Cd.next (Q':=fun _ _ _=>True) ?_)|refine Cd.skip (Cd.next (Q':=fun _ _ _=>True) ?_)|refine Cd.condT rfl zp0 ?_|refine Cd.condF rfl zp0 ?_|fail));exact kk.get):p:=h ⟨k⟩
theorem zg3 {p q:Prop} (k:q) (h:Hid q → p:=by intro kk;(repeat' (first|refine Ops.nilN (inB (Cd.next ?_))|exact List.forall_mem_nil _|refine List.forall_mem_cons.2 ⟨?_,?_⟩|refine Ops.mkF rfl rfl rfl rfl rfl ?_|refine Ops.asM rfl rfl rfl rfl ?_|refine Cd.seq ?_|refine Cd.reg ?_|refine Ops.nil ?_|refine Ops.mv rfl rfl rfl rfl ?_|refine Ops.asg rfl rfl rfl rfl ?_|refine Ops.nilP rfl rfl rfl rfl ?_|refine Ops.fa0 rfl rfl rfl rfl ?_|refine Ops.fa rfl rfl rfl rfl ?_|refine Ops.ld1 rfl rfl rfl rfl rfl ?_|refine Ops.ldN rfl rfl rfl rfl ?_|refine Ops.lenStr rfl rfl rfl rfl ?_|refine Ops.lenS rfl rfl rfl rfl ?_|refine Ops.maxI rfl rfl rfl rfl rfl ?_|refine Ops.bin rfl rfl rfl rfl rfl ?_|refine Ops.un rfl rfl rfl rfl ?_|refine Ops.pickT rfl rfl rfl rfl rfl ?_|refine Ops.pickF rfl rfl rfl rfl rfl ?_|refine Ops.ext rfl rfl rfl rfl rfl ?_|refine Ops.bld rfl rfl rfl rfl ?_|refine Ops.asgE rfl (noPd rfl) rfl rfl rfl ?_|refine Cd.condT rfl rfl ?_|fail));exact kk.get):p:=h ⟨k⟩
theorem zg4 {p q:Prop} (k:q) (h:Hid q → p:=by intro kk;(repeat' (first|refine Cd.seq ?_|refine Cd.reg ?_|refine Ops.nil ?_|refine Ops.mv rfl rfl rfl rfl ?_|refine Ops.asg rfl rfl rfl rfl ?_|refine Ops.fa0 rfl rfl rfl rfl ?_|refine Ops.ld1 rfl rfl rfl rfl rfl ?_|refine Ops.ldN rfl rfl rfl rfl ?_|refine Ops.lenStr rfl rfl rfl rfl ?_|refine Ops.lenS rfl rfl rfl rfl ?_|refine Ops.bin rfl rfl rfl rfl rfl ?_|refine Ops.un rfl rfl rfl rfl ?_|refine Ops.pickF rfl rfl rfl rfl rfl ?_|refine Ops.ext rfl rfl rfl rfl rfl ?_|refine Ops.st1 rfl rfl rfl rfl rfl (noPd rfl) ?_|refine Ops.stN rfl rfl rfl rfl rfl rfl (noPd rfl) ?_|refine Cd.condT rfl rfl ?_|refine Cd.condF rfl rfl ?_|refine Cd.block ?_|refine Cd.skip (Cd.next ?_)|refine Cd.exit (Cd.next (Q':=fun _ _ _=>True) ?_)|refine Cd.skip (Cd.next (Q':=fun _ _ _=>True) ?_)|fail));exact kk.get):p:=h ⟨k⟩
theorem zg5 {p q:Prop} (k:q) (h:Hid q → p:=by intro kk;(repeat' (first|refine Ops.mv rfl rfl rfl rfl ?_|refine Ops.nilP rfl rfl rfl rfl ?_|refine Ops.fa0 rfl rfl rfl rfl ?_|refine Ops.fa rfl rfl rfl rfl ?_|refine Ops.ld1 rfl rfl rfl rfl rfl ?_|refine Ops.pickT rfl rfl rfl rfl rfl ?_|refine Ops.st1 rfl rfl rfl rfl rfl (noPd rfl) ?_|fail));exact kk.get):p:=h ⟨k⟩
theorem zg6 {p q:Prop} (k:q) (h:Hid q → p:=by intro kk;(repeat' (first|refine Cd.seq ?_|refine Cd.reg ?_|refine Ops.nil ?_|refine Ops.mv rfl rfl rfl rfl ?_|refine Ops.asg rfl rfl rfl rfl ?_|refine Ops.ld1 rfl rfl rfl rfl rfl ?_|refine Ops.bin rfl rfl rfl rfl rfl ?_|refine Ops.un rfl rfl rfl rfl ?_|refine Ops.pickT rfl rfl rfl rfl rfl ?_|refine Ops.pickF rfl rfl rfl rfl rfl ?_|refine Ops.gSkip rfl rfl rfl ?_|refine Ops.gSkipU rfl rfl rfl rfl ?_|refine Cd.condT rfl rfl ?_|refine Cd.condF rfl rfl ?_|refine Cd.skip (Cd.next ?_)|fail));exact kk.get):p:=h ⟨k⟩
theorem zg7 {p q:Prop} (k:q) (h:Hid q → p:=by intro kk;(repeat' (first|refine Ops.mkI rfl rfl (fun _ h=>by cases h) rfl rfl ?_|refine Cd.seq ?_|refine Cd.reg ?_|refine Ops.nil ?_|refine Ops.mv rfl rfl rfl rfl ?_|refine Ops.asg rfl rfl rfl rfl ?_|refine Ops.nilP rfl rfl rfl rfl ?_|refine Ops.fa0 rfl rfl rfl rfl ?_|refine Ops.fa rfl rfl rfl rfl ?_|refine Ops.ld1 rfl rfl rfl rfl rfl ?_|refine Ops.ldN rfl rfl rfl rfl ?_|refine Ops.lenStr rfl rfl rfl rfl ?_|refine Ops.lenS rfl rfl rfl rfl ?_|refine Ops.maxI rfl rfl rfl rfl rfl ?_|refine Ops.bin rfl rfl rfl rfl rfl ?_|refine Ops.un rfl rfl rfl rfl ?_|refine Ops.pickT rfl rfl rfl rfl rfl ?_|refine Ops.pickF rfl rfl rfl rfl rfl ?_|refine Ops.ext rfl rfl rfl rfl rfl ?_|refine Ops.bld rfl rfl rfl rfl ?_|refine Ops.st1 rfl rfl rfl rfl rfl (noPd rfl) ?_|refine Ops.stN rfl rfl rfl rfl rfl rfl (noPd rfl) ?_|refine Ops.gSkip rfl rfl rfl ?_|refine Cd.condT rfl rfl ?_|refine Cd.condF rfl rfl ?_|refine Cd.skip (Cd.next ?_)|refine Cd.exit (Cd.next (Q':=fun _ _ _=>True) ?_)|refine Cd.skip (Cd.next (Q':=fun _ _ _=>True) ?_)|((fail_if_success refine Ops.probe rfl ?_);refine Ops.gT rfl rfl zp0 ?_)|fail));exact kk.get):p:=h ⟨k⟩
theorem zg8 {p q:Prop} (k:q) (h:Hid q → p:=by intro kk;(repeat' (first|refine Ops.upI rfl rfl rfl rfl rfl (noPd rfl) ?_|refine Ops.lenM rfl rfl rfl rfl ?_|refine Ops.lkI rfl rfl rfl rfl rfl ?_|refine Cd.seq ?_|refine Cd.reg ?_|refine Ops.nil ?_|refine Ops.mv rfl rfl rfl rfl ?_|refine Ops.asg rfl rfl rfl rfl ?_|refine Ops.nilP rfl rfl rfl rfl ?_|refine Ops.fa0 rfl rfl rfl rfl ?_|refine Ops.fa rfl rfl rfl rfl ?_|refine Ops.ld1 rfl rfl rfl rfl rfl ?_|refine Ops.ldN rfl rfl rfl rfl ?_|refine Ops.lenStr rfl rfl rfl rfl ?_|refine Ops.lenS rfl rfl rfl rfl ?_|refine Ops.bin rfl rfl rfl rfl rfl ?_|refine Ops.un rfl rfl rfl rfl ?_|refine Ops.pickT rfl rfl rfl rfl rfl ?_|refine Ops.pickF rfl rfl rfl rfl rfl ?_|refine Ops.ext rfl rfl rfl rfl rfl ?_|refine Ops.bld rfl rfl rfl rfl ?_|refine Ops.st1 rfl rfl rfl rfl rfl (noPd rfl) ?_|refine Ops.stN rfl rfl rfl rfl rfl rfl (noPd rfl) ?_|refine Ops.gSkip rfl rfl rfl ?_|refine Cd.condT rfl rfl ?_|refine Cd.condF rfl rfl ?_|refine Cd.block ?_|refine Cd.skip (Cd.next ?_)|refine Cd.exit (Cd.next (Q':=fun _ _ _=>True) ?_)|refine Cd.skip (Cd.next (Q':=fun _ _ _=>True) ?_)|refine Cd.condT rfl zp0 ?_|refine Ops.slLo rfl rfl rfl rfl (by omega) (by omega) rfl ?_|refine Cd.condF rfl zp0 ?_|((fail_if_success refine Ops.probe rfl ?_);refine Ops.gF rfl rfl zp0 ?_)|fail));exact kk.get):p:=h ⟨k⟩
theorem zg9 {p q:Prop} (k:q) (h:Hid q → p:=by intro kk;(repeat' (first|refine Ops.nilN (inB (Cd.next ?_))|refine Ops.delI rfl rfl rfl rfl (noPd rfl) ?_|refine Cd.seq ?_|refine Cd.reg ?_|refine Ops.nil ?_|refine Ops.mv rfl rfl rfl rfl ?_|refine Ops.asg rfl rfl rfl rfl ?_|refine Ops.nilP rfl rfl rfl rfl ?_|refine Ops.fa0 rfl rfl rfl rfl ?_|refine Ops.fa rfl rfl rfl rfl ?_|refine Ops.ld1 rfl rfl rfl rfl rfl ?_|refine Ops.addI rfl rfl rfl rfl (by omega) (by omega) rfl ?_|refine Ops.st1 rfl rfl rfl rfl rfl zp4 ?_|refine Ops.minI rfl rfl rfl rfl rfl ?_|refine Ops.st1 rfl rfl rfl rfl rfl (noPd rfl) ?_|refine Cd.block ?_|fail));exact kk.get):p:=h ⟨k⟩
theorem zg10 {p q:Prop} (k:q) (h:Hid q → p:=by intro kk;(repeat' (first|refine Ops.nilN (inB (Cd.next ?_))|refine Cd.seq ?_|refine Cd.reg ?_|refine Ops.nil ?_|refine Ops.mv rfl rfl rfl rfl ?_|refine Ops.asg rfl rfl rfl rfl ?_|refine Ops.nilP rfl rfl rfl rfl ?_|refine Ops.fa0 rfl rfl rfl rfl ?_|refine Ops.fa rfl rfl rfl rfl ?_|refine Ops.ld1 rfl rfl rfl rfl rfl ?_|refine Ops.lenStr rfl rfl rfl rfl ?_|refine Ops.lenS rfl rfl rfl rfl ?_|refine Ops.addI rfl rfl rfl rfl (by omega) (by omega) rfl ?_|refine Ops.subI rfl rfl rfl rfl (by omega) (by omega) rfl ?_|refine Ops.maxI rfl rfl rfl rfl rfl ?_|refine Ops.mulI rfl rfl rfl rfl (by omega) (by omega) rfl ?_|refine Ops.bin rfl rfl rfl rfl rfl ?_|refine Ops.un rfl rfl rfl rfl ?_|refine Ops.pickT rfl rfl rfl rfl rfl ?_|refine Ops.pickF rfl rfl rfl rfl rfl ?_|refine Ops.bld rfl rfl rfl rfl ?_|refine Ops.st1 rfl rfl rfl rfl rfl zp4 ?_|refine Ops.st1 rfl rfl rfl rfl rfl (noPd rfl) ?_|refine Ops.gSkip rfl rfl rfl ?_|refine Ops.gSkipU rfl rfl rfl rfl ?_|refine Ops.asgE rfl (noPd rfl) rfl rfl rfl ?_|refine Cd.condT rfl rfl ?_|refine Cd.condF rfl rfl ?_|refine Cd.block ?_|refine Cd.skip (Cd.next ?_)|refine Cd.exit (Cd.next (Q':=fun _ _ _=>True) ?_)|refine Cd.skip (Cd.next (Q':=fun _ _ _=>True) ?_)|refine Ops.ixa0 rfl rfl rfl rfl (by omega) (by omega) rfl ?_|refine Ops.ldCell rfl rfl rfl (by assumption) (by assumption) rfl ?_|refine Ops.ldRow1 rfl rfl rfl (by assumption) (by assumption) rfl rfl ?_|refine Cd.condT rfl zp0 ?_|refine Cd.condF rfl zp0 ?_|((fail_if_success refine Ops.probe rfl ?_);refine Ops.gT rfl rfl zp0 ?_)|((fail_if_success refine Ops.probe rfl ?_);refine Ops.gF rfl rfl zp0 ?_)|fail));exact kk.get):p:=h ⟨k⟩
theorem zg11 {p q:Prop} (k:q) (h:Hid q → p:=by intro kk;(repeat' (first|refine Ops.nilN (inB (Cd.next ?_))|refine Cd.seq ?_|refine Cd.reg ?_|refine Ops.nil ?_|refine Ops.mv rfl rfl rfl rfl ?_|refine Ops.asg rfl rfl rfl rfl ?_|refine Ops.nilP rfl rfl rfl rfl ?_|refine Ops.fa0 rfl rfl rfl rfl ?_|refine Ops.fa rfl rfl rfl rfl ?_|refine Ops.ld1 rfl rfl rfl rfl rfl ?_|refine Ops.ldN rfl rfl rfl rfl ?_|refine Ops.lenStr rfl rfl rfl rfl ?_|refine Ops.subI rfl rfl rfl rfl (by omega) (by omega) rfl ?_|refine Ops.bin rfl rfl rfl rfl rfl ?_|refine Ops.un rfl rfl rfl rfl ?_|refine Ops.pickT rfl rfl rfl rfl rfl ?_|refine Ops.pickF rfl rfl rfl rfl rfl ?_|refine Ops.ext rfl rfl rfl rfl rfl ?_|refine Ops.minI rfl rfl rfl rfl rfl ?_|refine Ops.st1 rfl rfl rfl rfl rfl (noPd rfl) ?_|refine Ops.gSkip rfl rfl rfl ?_|refine Ops.gSkipU rfl rfl rfl rfl ?_|refine Cd.condT rfl rfl ?_|refine Cd.block ?_|((fail_if_success refine Ops.probe rfl ?_);refine Ops.gF rfl rfl zp0 ?_)|fail));exact kk.get):p:=h ⟨k⟩
theorem zg12 {p q:Prop} (k:q) (h:Hid q → p:=by intro kk;(repeat' (first|refine Cd.seq ?_|refine Cd.reg ?_|refine Ops.nil ?_|refine Ops.mv rfl rfl rfl rfl ?_|refine Ops.asg rfl rfl rfl rfl ?_|refine Ops.nilP rfl rfl rfl rfl ?_|refine Ops.fa0 rfl rfl rfl rfl ?_|refine Ops.fa rfl rfl rfl rfl ?_|refine Ops.ld1 rfl rfl rfl rfl rfl ?_|refine Ops.ldN rfl rfl rfl rfl ?_|refine Ops.lenStr rfl rfl rfl rfl ?_|refine Ops.addI rfl rfl rfl rfl (by omega) (by omega) rfl ?_|refine Ops.bin rfl rfl rfl rfl rfl ?_|refine Ops.un rfl rfl rfl rfl ?_|refine Ops.pickT rfl rfl rfl rfl rfl ?_|refine Ops.pickF rfl rfl rfl rfl rfl ?_|refine Ops.bld rfl rfl rfl rfl ?_|refine Ops.stN rfl rfl rfl rfl rfl rfl zp4 ?_|refine Ops.gSkip rfl rfl rfl ?_|refine Ops.gSkipE rfl zp14 rfl rfl ?_|refine Cd.condT rfl rfl ?_|refine Cd.condF rfl rfl ?_|((fail_if_success refine Ops.probe rfl ?_);refine Ops.gT rfl rfl zp0 ?_)|((fail_if_success refine Ops.probe rfl ?_);refine Ops.gF rfl rfl zp0 ?_)|fail));exact kk.get):p:=h ⟨k⟩
theorem zg13 {p q:Prop} (k:q) (h:Hid q → p:=by intro kk;(repeat' (first|refine Ops.nilN (inB (Cd.next ?_))|refine Cd.seq ?_|refine Cd.reg ?_|refine Ops.nil ?_|refine Ops.mv rfl rfl rfl rfl ?_|refine Ops.asg rfl rfl rfl rfl ?_|refine Ops.nilP rfl rfl rfl rfl ?_|refine Ops.fa0 rfl rfl rfl rfl ?_|refine Ops.ld1 rfl rfl rfl rfl rfl ?_|refine Ops.lenStr rfl rfl rfl rfl ?_|refine Ops.lenS rfl rfl rfl rfl ?_|refine Ops.addI rfl rfl rfl rfl (by omega) (by omega) rfl ?_|refine Ops.maxI rfl rfl rfl rfl rfl ?_|refine Ops.bin rfl rfl rfl rfl rfl ?_|refine Ops.un rfl rfl rfl rfl ?_|refine Ops.pickT rfl rfl rfl rfl rfl ?_|refine Ops.pickF rfl rfl rfl rfl rfl ?_|refine Ops.ext rfl rfl rfl rfl rfl ?_|refine Ops.gSkip rfl rfl rfl ?_|refine Ops.gSkipU rfl rfl rfl rfl ?_|refine Ops.asgE rfl (noPd rfl) rfl rfl rfl ?_|refine Ops.gSkipE rfl (noPd rfl) rfl rfl ?_|refine Cd.condF rfl rfl ?_|refine Cd.block ?_|refine Cd.skip (Cd.next ?_)|refine Cd.exit (Cd.next (Q':=fun _ _ _=>True) ?_)|refine Cd.skip (Cd.next (Q':=fun _ _ _=>True) ?_)|refine Cd.condF rfl zp0 ?_|fail));exact kk.get):p:=h ⟨k⟩
theorem zg14 {p q:Prop} (k:q) (h:Hid q → p:=by intro kk;(repeat' (first|refine Ops.lk1 rfl rfl rfl rfl rfl ?_|refine Cd.seq ?_|refine Cd.reg ?_|refine Ops.nil ?_|refine Ops.mv rfl rfl rfl rfl ?_|refine Ops.asg rfl rfl rfl rfl ?_|refine Ops.nilP rfl rfl rfl rfl ?_|refine Ops.fa0 rfl rfl rfl rfl ?_|refine Ops.fa rfl rfl rfl rfl ?_|refine Ops.ld1 rfl rfl rfl rfl rfl ?_|refine Ops.ldN rfl rfl rfl rfl ?_|refine Ops.lenStr rfl rfl rfl rfl ?_|refine Ops.lenS rfl rfl rfl rfl ?_|refine Ops.addI rfl rfl rfl rfl (by omega) (by omega) rfl ?_|refine Ops.subI rfl rfl rfl rfl (by omega) (by omega) rfl ?_|refine Ops.bin rfl rfl rfl rfl rfl ?_|refine Ops.un rfl rfl rfl rfl ?_|refine Ops.pickT rfl rfl rfl rfl rfl ?_|refine Ops.pickF rfl rfl rfl rfl rfl ?_|refine Ops.bld rfl rfl rfl rfl ?_|refine Ops.stN rfl rfl rfl rfl rfl rfl zp4 ?_|refine Cd.condF rfl rfl ?_|refine Cd.block ?_|refine Cd.skip (Cd.next ?_)|refine Cd.skip (Cd.next (Q':=fun _ _ _=>True) ?_)|refine Ops.ixa0 rfl rfl rfl rfl (by omega) (by omega) rfl ?_|refine Ops.ldRow rfl rfl rfl (by assumption) (by assumption) rfl ?_|refine Ops.ldCell rfl rfl rfl (by assumption) (by assumption) rfl ?_|refine Cd.condT rfl zp0 ?_|((fail_if_success refine Ops.probe rfl ?_);refine Ops.gT rfl rfl zp0 ?_)|fail));exact kk.get):p:=h ⟨k⟩
theorem zg15 {p q:Prop} (k:q) (h:Hid q → p:=by intro kk;(repeat' (first|refine Ops.upI rfl rfl rfl rfl rfl (noPd rfl) ?_|refine Cd.seq ?_|refine Cd.reg ?_|refine Ops.nil ?_|refine Ops.mv rfl rfl rfl rfl ?_|refine Ops.asg rfl rfl rfl rfl ?_|refine Ops.nilP rfl rfl rfl rfl ?_|refine Ops.fa0 rfl rfl rfl rfl ?_|refine Ops.fa rfl rfl rfl rfl ?_|refine Ops.ld1 rfl rfl rfl rfl rfl ?_|refine Ops.ldN rfl rfl rfl rfl ?_|refine Ops.lenS rfl rfl rfl rfl ?_|refine Ops.bin rfl rfl rfl rfl rfl ?_|refine Ops.pickT rfl rfl rfl rfl rfl ?_|refine Ops.ext rfl rfl rfl rfl rfl ?_|refine Ops.st1 rfl rfl rfl rfl rfl (noPd rfl) ?_|refine Cd.block ?_|refine Cd.skip (Cd.next ?_)|refine Ops.ixa rfl rfl rfl rfl (by omega) (by omega) rfl ?_|refine Cd.condT rfl zp0 ?_|fail));exact kk.get):p:=h ⟨k⟩
theorem zg16 {p q:Prop} (k:q) (h:Hid q → p:=by intro kk;(repeat' (first|refine Ops.upI rfl rfl rfl rfl rfl zp4 ?_|refine Cd.seq ?_|refine Cd.reg ?_|refine Ops.nil ?_|refine Ops.mv rfl rfl rfl rfl ?_|refine Ops.asg rfl rfl rfl rfl ?_|refine Ops.nilP rfl rfl rfl rfl ?_|refine Ops.fa0 rfl rfl rfl rfl ?_|refine Ops.fa rfl rfl rfl rfl ?_|refine Ops.ld1 rfl rfl rfl rfl rfl ?_|refine Ops.ldN rfl rfl rfl rfl ?_|refine Ops.lenStr rfl rfl rfl rfl ?_|refine Ops.lenS rfl rfl rfl rfl ?_|refine Ops.addI rfl rfl rfl rfl (by omega) (by omega) rfl ?_|refine Ops.subI rfl rfl rfl rfl (by omega) (by omega) rfl ?_|refine Ops.mulI rfl rfl rfl rfl (by omega) (by omega) rfl ?_|refine Ops.bin rfl rfl rfl rfl rfl ?_|refine Ops.bld rfl rfl rfl rfl ?_|refine Ops.sl3 rfl rfl rfl rfl rfl rfl (by omega) (by omega) (by omega) (by omega) rfl ?_|refine Ops.st1 rfl rfl rfl rfl rfl (noPd rfl) ?_|refine Ops.stN rfl rfl rfl rfl rfl rfl (noPd rfl) ?_|refine Cd.condF rfl rfl ?_|refine Cd.block ?_|refine Cd.skip (Cd.next ?_)|refine Cd.exit (Cd.next (Q':=fun _ _ _=>True) ?_)|refine Cd.skip (Cd.next (Q':=fun _ _ _=>True) ?_)|refine Ops.ixa rfl rfl rfl rfl (by omega) (by omega) rfl ?_|refine Ops.slHi rfl rfl rfl rfl (by omega) (by omega) rfl ?_|refine Cd.condT rfl zp0 ?_|fail));exact kk.get):p:=h ⟨k⟩
theorem zg17 {p q:Prop} (k:q) (h:Hid q → p:=by intro kk;(repeat' (first|refine Ops.mkF rfl rfl rfl rfl rfl ?_|refine Ops.delI rfl rfl rfl rfl (noPd rfl) ?_|refine Ops.upI rfl rfl rfl rfl rfl (noPd rfl) ?_|refine Ops.lk1 rfl rfl rfl rfl rfl ?_|refine Cd.seq ?_|refine Cd.reg ?_|refine Ops.nil ?_|refine Ops.mv rfl rfl rfl rfl ?_|refine Ops.asg rfl rfl rfl rfl ?_|refine Ops.nilP rfl rfl rfl rfl ?_|refine Ops.fa0 rfl rfl rfl rfl ?_|refine Ops.fa rfl rfl rfl rfl ?_|refine Ops.ld1 rfl rfl rfl rfl rfl ?_|refine Ops.ldN rfl rfl rfl rfl ?_|refine Ops.lenS rfl rfl rfl rfl ?_|refine Ops.mulI rfl rfl rfl rfl (by omega) (by omega) rfl ?_|refine Ops.bin rfl rfl rfl rfl rfl ?_|refine Ops.un rfl rfl rfl rfl ?_|refine Ops.pickT rfl rfl rfl rfl rfl ?_|refine Ops.pickF rfl rfl rfl rfl rfl ?_|refine Ops.ext rfl rfl rfl rfl rfl ?_|refine Ops.bld rfl rfl rfl rfl ?_|refine Ops.st1 rfl rfl rfl rfl rfl (noPd rfl) ?_|refine Ops.stN rfl rfl rfl rfl rfl rfl (noPd rfl) ?_|refine Ops.gSkip rfl rfl rfl ?_|refine Cd.condF rfl rfl ?_|refine Cd.skip (Cd.next ?_)|refine Ops.ixa0 rfl rfl rfl rfl (by omega) (by omega) rfl ?_|fail));exact kk.get):p:=h ⟨k⟩
theorem zg18 {p q:Prop} (k:q) (h:Hid q → p:=by intro kk;(repeat' (first|refine Cd.seq ?_|refine Cd.reg ?_|refine Ops.nil ?_|refine Ops.mv rfl rfl rfl rfl ?_|refine Ops.asg rfl rfl rfl rfl ?_|refine Ops.nilP rfl rfl rfl rfl ?_|refine Ops.fa0 rfl rfl rfl rfl ?_|refine Ops.fa rfl rfl rfl rfl ?_|refine Ops.ld1 rfl rfl rfl rfl rfl ?_|refine Ops.lenS rfl rfl rfl rfl ?_|refine Ops.bin rfl rfl rfl rfl rfl ?_|refine Ops.un rfl rfl rfl rfl ?_|refine Ops.pickT rfl rfl rfl rfl rfl ?_|refine Ops.pickF rfl rfl rfl rfl rfl ?_|refine Ops.st1 rfl rfl rfl rfl rfl (noPd rfl) ?_|refine Ops.gSkip rfl rfl rfl ?_|refine Ops.gSkipE rfl zp14 rfl rfl ?_|refine Ops.gSkipE rfl zp11 rfl rfl ?_|refine Ops.gSkipU rfl rfl rfl rfl ?_|refine Ops.gSkipUE rfl zp11 rfl rfl rfl ?_|refine Ops.gSkipE rfl (noPd rfl) rfl rfl ?_|refine Cd.condT rfl rfl ?_|refine Cd.condF rfl rfl ?_|refine Cd.block ?_|refine Cd.skip (Cd.next ?_)|refine Cd.exit (Cd.next (Q':=fun _ _ _=>True) ?_)|((fail_if_success refine Ops.probe rfl ?_);refine Ops.gT rfl rfl zp0 ?_)|((fail_if_success refine Ops.probe rfl ?_);refine Ops.gF rfl rfl zp0 ?_)|fail));exact kk.get):p:=h ⟨k⟩
theorem zg19 {p q:Prop} (k:q) (h:Hid q → p:=by intro kk;(repeat' (first|refine Ops.ixA rfl rfl rfl rfl (by omega) (by omega) rfl ?_|refine Ops.nil ?_|refine Ops.mv rfl rfl rfl rfl ?_|refine Ops.asg rfl rfl rfl rfl ?_|refine Ops.ld1 rfl rfl rfl rfl rfl ?_|refine Ops.ext rfl rfl rfl rfl rfl ?_|refine Ops.bld rfl rfl rfl rfl ?_|refine Ops.stN rfl rfl rfl rfl rfl rfl zp4 ?_|fail));exact kk.get):p:=h ⟨k⟩
theorem zs0 {p q:Prop} (k:q) (h:Hid q → p:=by intro kk;(first|refine Ops.mkF rfl rfl rfl rfl rfl ?_|refine Cd.seq ?_|refine Cd.reg ?_|refine Ops.nil ?_|refine Ops.mv rfl rfl rfl rfl ?_|refine Ops.asg rfl rfl rfl rfl ?_|refine Ops.nilP rfl rfl rfl rfl ?_|refine Ops.fa0 rfl rfl rfl rfl ?_|refine Ops.ld1 rfl rfl rfl rfl rfl ?_|refine Ops.ext rfl rfl rfl rfl rfl ?_|refine Ops.bld rfl rfl rfl rfl ?_|refine Ops.stN rfl rfl rfl rfl rfl rfl (noPd rfl) ?_|fail);exact kk.get):p:=h ⟨k⟩
theorem zs1 {p q:Prop} (k:q) (h:Hid q → p:=by intro kk;(first|refine Cd.seq ?_|refine Cd.reg ?_|refine Ops.mv rfl rfl rfl rfl ?_|refine Ops.asg rfl rfl rfl rfl ?_|refine Ops.ldN rfl rfl rfl rfl ?_|fail);exact kk.get):p:=h ⟨k⟩
theorem zs2 {p q:Prop} (k:q) (h:Hid q → p:=by intro kk;(first|refine Ops.mkF rfl rfl rfl rfl rfl ?_|refine Cd.seq ?_|refine Cd.reg ?_|refine Ops.nil ?_|refine Ops.mv rfl rfl rfl rfl ?_|refine Ops.asg rfl rfl rfl rfl ?_|refine Ops.nilP rfl rfl rfl rfl ?_|refine Ops.fa0 rfl rfl rfl rfl ?_|refine Ops.ld1 rfl rfl rfl rfl rfl ?_|refine Ops.ldN rfl rfl rfl rfl ?_|refine Ops.lenS rfl rfl rfl rfl ?_|refine Ops.bin rfl rfl rfl rfl rfl ?_|refine Ops.un rfl rfl rfl rfl ?_|refine Ops.pickF rfl rfl rfl rfl rfl ?_|refine Ops.ext rfl rfl rfl rfl rfl ?_|refine Ops.bld rfl rfl rfl rfl ?_|refine Ops.st1 rfl rfl rfl rfl rfl (noPd rfl) ?_|refine Ops.stN rfl rfl rfl rfl rfl rfl (noPd rfl) ?_|refine Cd.condT rfl rfl ?_|refine Cd.condF rfl rfl ?_|refine Cd.block ?_|refine Cd.skip (Cd.next ?_)|refine Cd.skip (Cd.next (Q':=fun _ _ _=>True) ?_)|fail);exact kk.get):p:=h ⟨k⟩
theorem zs3 {p q:Prop} (k:q) (h:Hid q → p:=by intro kk;(first|refine Cd.seq ?_|refine Cd.reg ?_|refine Ops.nil ?_|refine Ops.mv rfl rfl rfl rfl ?_|refine Ops.asg rfl rfl rfl rfl ?_|refine Ops.nilP rfl rfl rfl rfl ?_|refine Ops.fa0 rfl rfl rfl rfl ?_|refine Ops.ld1 rfl rfl rfl rfl rfl ?_|refine Ops.ldN rfl rfl rfl rfl ?_|refine Ops.lenS rfl rfl rfl rfl ?_|refine Ops.bin rfl rfl rfl rfl rfl ?_|refine Ops.pickT rfl rfl rfl rfl rfl ?_|refine Ops.ext rfl rfl rfl rfl rfl ?_|refine Ops.bld rfl rfl rfl rfl ?_|refine Ops.st1 rfl rfl rfl rfl rfl (noPd rfl) ?_|refine Ops.stN rfl rfl rfl rfl rfl rfl (noPd rfl) ?_|refine Cd.block ?_|fail);exact kk.get):p:=h ⟨k⟩
theorem zs4 {p q:Prop} (k:q) (h:Hid q → p:=by intro kk;(first|refine Ops.mkF rfl rfl rfl rfl rfl ?_|refine Cd.seq ?_|refine Cd.reg ?_|refine Ops.nil ?_|refine Ops.mv rfl rfl rfl rfl ?_|refine Ops.asg rfl rfl rfl rfl ?_|refine Ops.fa0 rfl rfl rfl rfl ?_|refine Ops.fa rfl rfl rfl rfl ?_|refine Ops.ld1 rfl rfl rfl rfl rfl ?_|refine Ops.ldN rfl rfl rfl rfl ?_|refine Ops.lenS rfl rfl rfl rfl ?_|refine Ops.lenStr rfl rfl rfl rfl ?_|refine Ops.bin rfl rfl rfl rfl rfl ?_|refine Ops.un rfl rfl rfl rfl ?_|refine Ops.pickF rfl rfl rfl rfl rfl ?_|refine Ops.ext rfl rfl rfl rfl rfl ?_|refine Ops.bld rfl rfl rfl rfl ?_|refine Ops.st1 rfl rfl rfl rfl rfl (noPd rfl) ?_|refine Ops.stN rfl rfl rfl rfl rfl rfl (noPd rfl) ?_|refine Cd.condF rfl rfl ?_|refine Cd.skip (Cd.next ?_)|refine Cd.condF rfl zp0 ?_|fail);exact kk.get):p:=h ⟨k⟩
theorem zs5 {p q:Prop} (k:q) (h:Hid q → p:=by intro kk;(first|refine Ops.mkF rfl rfl rfl rfl rfl ?_|refine Cd.seq ?_|refine Cd.reg ?_|refine Ops.nil ?_|refine Ops.mv rfl rfl rfl rfl ?_|refine Ops.asg rfl rfl rfl rfl ?_|refine Ops.nilP rfl rfl rfl rfl ?_|refine Ops.fa0 rfl rfl rfl rfl ?_|refine Ops.fa rfl rfl rfl rfl ?_|refine Ops.ld1 rfl rfl rfl rfl rfl ?_|refine Ops.ldN rfl rfl rfl rfl ?_|refine Ops.lenS rfl rfl rfl rfl ?_|refine Ops.lenStr rfl rfl rfl rfl ?_|refine Ops.bin rfl rfl rfl rfl rfl ?_|refine Ops.ext rfl rfl rfl rfl rfl ?_|refine Ops.bld rfl rfl rfl rfl ?_|refine Ops.st1 rfl rfl rfl rfl rfl (noPd rfl) ?_|refine Ops.stN rfl rfl rfl rfl rfl rfl (noPd rfl) ?_|refine Cd.block ?_|refine Cd.skip (Cd.next ?_)|refine Cd.skip (Cd.next (Q':=fun _ _ _=>True) ?_)|refine Cd.condT rfl zp0 ?_|refine Cd.condF rfl zp0 ?_|fail);exact kk.get):p:=h ⟨k⟩
theorem zs6 {p q:Prop} (k:q) (h:Hid q → p:=by intro kk;(first|refine Ops.lkI rfl rfl rfl rfl rfl ?_|refine Ops.delI rfl rfl rfl rfl (noPd rfl) ?_|refine Ops.upI rfl rfl rfl rfl rfl (noPd rfl) ?_|refine Cd.seq ?_|refine Cd.reg ?_|refine Ops.nil ?_|refine Ops.mv rfl rfl rfl rfl ?_|refine Ops.asg rfl rfl rfl rfl ?_|refine Ops.nilP rfl rfl rfl rfl ?_|refine Ops.fa0 rfl rfl rfl rfl ?_|refine Ops.ld1 rfl rfl rfl rfl rfl ?_|refine Ops.ldN rfl rfl rfl rfl ?_|refine Ops.lenS rfl rfl rfl rfl ?_|refine Ops.bin rfl rfl rfl rfl rfl ?_|refine Ops.un rfl rfl rfl rfl ?_|refine Ops.pickT rfl rfl rfl rfl rfl ?_|refine Ops.pickF rfl rfl rfl rfl rfl ?_|refine Ops.ext rfl rfl rfl rfl rfl ?_|refine Ops.bld rfl rfl rfl rfl ?_|refine Ops.stN rfl rfl rfl rfl rfl rfl zp4 ?_|refine Ops.gSkip rfl rfl rfl ?_|refine Ops.gSkipU rfl rfl rfl rfl ?_|fail);exact kk.get):p:=h ⟨k⟩
theorem zs7 {p q:Prop} (k:q) (h:Hid q → p:=by intro kk;(first|refine Ops.mkF rfl rfl rfl rfl rfl ?_|refine Ops.nilN (inB (Cd.next ?_))|refine Cd.seq ?_|refine Cd.reg ?_|refine Ops.nil ?_|refine Ops.mv rfl rfl rfl rfl ?_|refine Ops.asg rfl rfl rfl rfl ?_|refine Ops.nilP rfl rfl rfl rfl ?_|refine Ops.fa0 rfl rfl rfl rfl ?_|refine Ops.fa rfl rfl rfl rfl ?_|refine Ops.ld1 rfl rfl rfl rfl rfl ?_|refine Ops.ldN rfl rfl rfl rfl ?_|refine Ops.lenS rfl rfl rfl rfl ?_|refine Ops.lenStr rfl rfl rfl rfl ?_|refine Ops.addI rfl rfl rfl rfl (by omega) (by omega) rfl ?_|refine Ops.bin rfl rfl rfl rfl rfl ?_|refine Ops.mulI rfl rfl rfl rfl (by omega) (by omega) rfl ?_|refine Ops.un rfl rfl rfl rfl ?_|refine Ops.pickT rfl rfl rfl rfl rfl ?_|refine Ops.pickF rfl rfl rfl rfl rfl ?_|refine Ops.ext rfl rfl rfl rfl rfl ?_|refine Ops.bld rfl rfl rfl rfl ?_|refine Ops.st1 rfl rfl rfl rfl rfl (noPd rfl) ?_|refine Ops.stN rfl rfl rfl rfl rfl rfl (noPd rfl) ?_|refine Ops.gSkip rfl rfl rfl ?_|refine Cd.condF rfl rfl ?_|refine Cd.skip (Cd.next ?_)|refine Cd.skip (Cd.next (Q':=fun _ _ _=>True) ?_)|refine Cd.condT rfl zp0 ?_|refine Cd.condF rfl zp0 ?_|fail);exact kk.get):p:=h ⟨k⟩
theorem zs8 {p q:Prop} (k:q) (h:Hid q → p:=by intro kk;(first|refine Cd.seq ?_|refine Cd.reg ?_|refine Ops.nil ?_|refine Ops.mv rfl rfl rfl rfl ?_|refine Ops.asg rfl rfl rfl rfl ?_|refine Ops.nilP rfl rfl rfl rfl ?_|refine Ops.fa0 rfl rfl rfl rfl ?_|refine Ops.fa rfl rfl rfl rfl ?_|refine Ops.ld1 rfl rfl rfl rfl rfl ?_|refine Ops.ldN rfl rfl rfl rfl ?_|refine Ops.lenS rfl rfl rfl rfl ?_|refine Ops.bin rfl rfl rfl rfl rfl ?_|refine Ops.un rfl rfl rfl rfl ?_|refine Ops.pickT rfl rfl rfl rfl rfl ?_|refine Ops.pickF rfl rfl rfl rfl rfl ?_|refine Ops.bld rfl rfl rfl rfl ?_|refine Ops.stN rfl rfl rfl rfl rfl rfl (noPd rfl) ?_|refine Ops.gSkip rfl rfl rfl ?_|refine Cd.condT rfl rfl ?_|refine Cd.condF rfl rfl ?_|refine Cd.block ?_|refine Cd.skip (Cd.next ?_)|refine Ops.ixa0 rfl rfl rfl rfl (by omega) (by omega) rfl ?_|refine Ops.ldRow rfl rfl rfl (by assumption) (by assumption) rfl ?_|refine Ops.ldRow1 rfl rfl rfl (by assumption) (by assumption) rfl rfl ?_|refine Cd.condT rfl zp0 ?_|fail);exact kk.get):p:=h ⟨k⟩
theorem zs9 {p q:Prop} (k:q) (h:Hid q → p:=by intro kk;(first|refine Ops.ixA rfl rfl rfl rfl (by omega) (by omega) rfl ?_|refine Cd.seq ?_|refine Cd.reg ?_|refine Ops.nil ?_|refine Ops.mv rfl rfl rfl rfl ?_|refine Ops.asg rfl rfl rfl rfl ?_|refine Ops.nilP rfl rfl rfl rfl ?_|refine Ops.fa0 rfl rfl rfl rfl ?_|refine Ops.fa rfl rfl rfl rfl ?_|refine Ops.ld1 rfl rfl rfl rfl rfl ?_|refine Ops.bld rfl rfl rfl rfl ?_|refine Ops.stN rfl rfl rfl rfl rfl rfl (noPd rfl) ?_|refine Ops.subI rfl rfl rfl rfl (by omega) (by omega) rfl ?_|refine Ops.st1 rfl rfl rfl rfl rfl zp4 ?_|fail);exact kk.get):p:=h ⟨k⟩
end Go.Proofs.YtkoelgkghijgiaaGreat
namespace Go.Sep
open Go
abbrev Blk:=Nat × Obj
abbrev Tm:=List (Nat × Value)
structure Base where
 h:Nat → Option Obj
 os:Os
 tape:Nat → Question → Nat
 output:Array (Nat × ByteArray)
 round:Option Nat
def fen (B:Base):Fence:={ fn:=fun _=>True,depth:=none,alive:=false,round:=B.round }
def Base.plain (B:Base):Base:={ B with round:=none }
structure Fi where
 n:Nat
 ds:List Deferred
def mark (D:Nat):Deferred:={ target:=.collected D,args:=#[] }
structure Sat (B:Base) (A:List Blk) (w:World):Prop where
 os:w.os = B.os
 tape:w.tape = B.tape
 output:w.output = B.output
 base:∀ n o,B.h n = some o → w.heap[n]? = some o
 here:∀ p ∈ A,w.heap[p.1]? = some p.2
 apart:∀ p ∈ A,B.h p.1 = none
 nodup:(A.map Prod.fst).Nodup
theorem lt_of_get {w:World} {b:Nat} {o:Obj} (h:w.heap[b]? = some o):b < w.heap.size:=by
 rcases Nat.lt_or_ge b w.heap.size with h'|h'
 ·exact h'
 ·rw [Array.getElem?_eq_none h'] at h;cases h
theorem Sat.drew {B:Base} {A:List Blk} {w:World} (h:Sat B A w):Sat B A w.drew :=
 ⟨h.os,h.tape,h.output,h.base,h.here,h.apart,h.nodup⟩
theorem Sat.drewAt {B:Base} {A:List Blk} {w:World} (h:Sat B A w) (n:Nat):Sat B A { w with drawn:=n } :=
 ⟨h.os,h.tape,h.output,h.base,h.here,h.apart,h.nodup⟩
theorem heap_alloc_old {w:World} {o:Obj} {n:Nat} (h:n < w.heap.size):(w.alloc o).heap[n]? = w.heap[n]?:=by
 simp only [World.alloc,Array.getElem?_push]
 rw [if_neg (by omega)]
theorem heap_alloc_at {w:World} {o:Obj}:(w.alloc o).heap[w.heap.size]? = some o:=by
 simp only [World.alloc,Array.getElem?_push,if_true]
theorem Sat.alloc {B:Base} {A:List Blk} {w:World} (h:Sat B A w) (o:Obj):Sat B ((w.heap.size,o) :: A) (w.alloc o):=by
 refine ⟨h.os,h.tape,h.output,fun n o' hn=>?_,fun p hp=>?_,fun p hp=>?_,?_⟩
 ·have h1:=h.base n o' hn
  rw [heap_alloc_old (lt_of_get h1)];exact h1
 ·rcases List.mem_cons.1 hp with rfl|hp
  ·exact heap_alloc_at
  ·have h1:=h.here p hp
   rw [heap_alloc_old (lt_of_get h1)];exact h1
 ·rcases List.mem_cons.1 hp with rfl|hp
  ·cases hb:B.h w.heap.size with
   | none=>rfl
   | some o'=>have:=lt_of_get (h.base _ _ hb);omega
  ·exact h.apart p hp
 ·simp only [List.map_cons,List.nodup_cons]
  refine ⟨fun hm=>?_,h.nodup⟩
  obtain ⟨p,hp,he⟩:=List.mem_map.1 hm
  have:=lt_of_get (h.here p hp)
  omega
theorem Sat.sub {B:Base} {A A':List Blk} {w:World} (h:Sat B A w) (hs:∀ p ∈ A',p ∈ A) (hn:(A'.map Prod.fst).Nodup):Sat B A' w :=
 ⟨h.os,h.tape,h.output,h.base,fun p hp=>h.here p (hs p hp),fun p hp=>h.apart p (hs p hp),hn⟩
theorem Sat.perm {B:Base} {A A':List Blk} {w:World} (h:Sat B A w) (hp:A.Perm A'):Sat B A' w :=
 h.sub (fun _ hm=>hp.mem_iff.2 hm) ((hp.map Prod.fst).nodup_iff.1 h.nodup)
theorem Sat.left {B:Base} {A F:List Blk} {w:World} (h:Sat B (A ++ F) w):Sat B A w :=
 h.sub (fun _ hm=>List.mem_append_left _ hm) (by have:=h.nodup;rw [List.map_append] at this;exact (List.nodup_append.1 this).1)
theorem Sat.right {B:Base} {A F:List Blk} {w:World} (h:Sat B (A ++ F) w):Sat B F w :=
 h.sub (fun _ hm=>List.mem_append_right _ hm) (by have:=h.nodup;rw [List.map_append] at this;exact (List.nodup_append.1 this).2.1)
theorem Sat.put {B:Base} {A1 A2:List Blk} {b:Nat} {o o':Obj} {w w':World} (h:Sat B (A1 ++ (b,o) :: A2) w)
  (hos:w'.os = w.os) (htp:w'.tape = w.tape) (hout:w'.output = w.output)
  (hb:w'.heap[b]? = some o') (hoth:∀ n,n ≠ b → w'.heap[n]? = w.heap[n]?):Sat B (A1 ++ (b,o') :: A2) w':=by
 have hnd:((A1 ++ (b,o') :: A2).map Prod.fst).Nodup:=by
  have h1:=h.nodup
  simp only [List.map_append,List.map_cons] at h1 ⊢
  exact h1
 have hkey:∀ p ∈ A1 ++ (b,o') :: A2,p = (b,o') ∨ (p ∈ A1 ++ (b,o) :: A2 ∧ p.1 ≠ b):=by
  intro p hp
  have h1:=h.nodup
  rw [List.map_append,List.map_cons,List.nodup_append] at h1
  obtain ⟨_,h2,h3⟩:=h1
  rw [List.nodup_cons] at h2
  rcases List.mem_append.1 hp with hp|hp
  ·refine .inr ⟨List.mem_append_left _ hp,fun he=>?_⟩
   exact h3 p.1 (List.mem_map_of_mem hp) b (List.mem_cons_self ..) he
  ·rcases List.mem_cons.1 hp with rfl|hp
   ·exact .inl rfl
   ·refine .inr ⟨List.mem_append_right _ (List.mem_cons_of_mem _ hp),fun he=>?_⟩
    exact h2.1 (List.mem_map.2 ⟨p,hp,he⟩)
 have hbn:B.h b = none:=h.apart (b,o) (List.mem_append_right _ (List.mem_cons_self ..))
 refine ⟨hos.trans h.os,htp.trans h.tape,hout.trans h.output,fun n on hn=>?_,fun p hp=>?_,fun p hp=>?_,hnd⟩
 ·rw [hoth n (fun e=>by rw [e,hbn] at hn;cases hn)];exact h.base n on hn
 ·rcases hkey p hp with rfl|⟨hp,hne⟩
  ·exact hb
  ·rw [hoth _ hne];exact h.here p hp
 ·rcases hkey p hp with rfl|⟨hp,_⟩
  ·exact hbn
  ·exact h.apart p hp
def Base.with (B:Base) (F:List Blk):Base :=
 { B with h:=fun n=>match (F.find? fun p=>p.1 == n) with|some p=>some p.2|none=>B.h n }
theorem find_of_mem {F:List Blk} (hn:(F.map Prod.fst).Nodup) {p:Blk} (hp:p ∈ F):F.find? (fun q=>q.1 == p.1) = some p:=by
 induction F with
 | nil=>cases hp
 | cons q F ih =>
  simp only [List.map_cons,List.nodup_cons] at hn
  rcases List.mem_cons.1 hp with rfl|hp
  ·simp
  ·have hne:q.1 ≠ p.1:=fun e=>hn.1 (e ▸ List.mem_map_of_mem hp)
   rw [List.find?_cons_of_neg (by simpa using hne)]
   exact ih hn.2 hp
theorem find_none {F:List Blk} {n:Nat} (h:∀ p ∈ F,p.1 ≠ n):F.find? (fun q=>q.1 == n) = none:=by
 rw [List.find?_eq_none]
 intro p hp
 simpa using h p hp
theorem Sat.frameIn {B:Base} {A F:List Blk} {w:World} (h:Sat B (A ++ F) w):Sat (B.with F) A w:=by
 have hF:=h.right
 have hA:=h.left
 refine ⟨h.os,h.tape,h.output,fun n o hn=>?_,hA.here,fun p hp=>?_,hA.nodup⟩
 ·simp only [Base.with] at hn
  split at hn
  ·rename_i p hp
   have hm:=List.mem_of_find?_eq_some hp
   have he:=List.find?_some hp
   simp only [beq_iff_eq] at he
   injection hn with hn
   subst he;subst hn
   exact hF.here p hm
  ·exact h.base n o hn
 ·have hd:=h.nodup
  rw [List.map_append,List.nodup_append] at hd
  have:F.find? (fun q=>q.1 == p.1) = none:=find_none fun q hq e=>hd.2.2 p.1 (List.mem_map_of_mem hp) q.1 (List.mem_map_of_mem hq) e.symm
  simp only [Base.with,this]
  exact hA.apart p hp
theorem Sat.frameOut {B:Base} {A A' F:List Blk} {w w':World} (h0:Sat B (A ++ F) w) (h:Sat (B.with F) A' w'):Sat B (A' ++ F) w':=by
 have hF:=h0.right
 have hin:∀ p ∈ F,(B.with F).h p.1 = some p.2:=fun p hp=>by
  simp only [Base.with,find_of_mem hF.nodup hp]
 have hA':∀ p ∈ A',(∀ q ∈ F,q.1 ≠ p.1) ∧ B.h p.1 = none:=fun p hp=>by
  have h1:=h.apart p hp
  have h2:∀ q ∈ F,q.1 ≠ p.1:=fun q hq e=>by
   have:=hin q hq
   rw [e,h1] at this
   cases this
  refine ⟨h2,?_⟩
  simp only [Base.with,find_none h2] at h1
  exact h1
 refine ⟨h.os,h.tape,h.output,fun n o hn=>?_,fun p hp=>?_,fun p hp=>?_,?_⟩
 ·refine h.base n o ?_
  have:F.find? (fun q=>q.1 == n) = none:=find_none fun q hq e=>by
   have:=hF.apart q hq
   rw [e,hn] at this
   cases this
  simp only [Base.with,this]
  exact hn
 ·rcases List.mem_append.1 hp with hp|hp
  ·exact h.here p hp
  ·exact h.base _ _ (hin p hp)
 ·rcases List.mem_append.1 hp with hp|hp
  ·exact (hA' p hp).2
  ·exact hF.apart p hp
 ·rw [List.map_append,List.nodup_append]
  refine ⟨h.nodup,hF.nodup,fun x hx y hy e=>?_⟩
  obtain ⟨p,hp,rfl⟩:=List.mem_map.1 hx
  obtain ⟨q,hq,rfl⟩:=List.mem_map.1 hy
  exact (hA' p hp).1 q hq e.symm
def Con (P:Program) (f:FuncId) (args:Array Value) (A:List Blk) (R:Value → List Blk → Prop):Prop :=
 ∀ (B:Base) (w:World),Sat B A w → Calls P f args w fun e w'=>∃ v A',e = .returned v ∧ R v A' ∧ Sat B A' w'
theorem Con.mono {P:Program} {f:FuncId} {args:Array Value} {A:List Blk} {R R':Value → List Blk → Prop} (h:Con P f args A R)
  (hr:∀ v A',R v A' → R' v A'):Con P f args A R':=fun B w hs =>
 (h B w hs).mono fun _ _ ⟨v,A',he,hR,hS⟩=>⟨v,A',he,hr _ _ hR,hS⟩
theorem Con.frame {P:Program} {f:FuncId} {args:Array Value} {A F:List Blk} {R:Value → List Blk → Prop} (h:Con P f args A R)
  {B:Base} {w:World} (hs:Sat B (A ++ F) w):Calls P f args w fun e w'=>∃ v A',e = .returned v ∧ R v A' ∧ Sat B (A' ++ F) w' :=
 (h (B.with F) w hs.frameIn).mono fun _ _ ⟨v,A',he,hR,hS⟩=>⟨v,A',he,hR,hs.frameOut hS⟩
def look:Tm → Nat → Option Value
 | [],_=>none
 | (j,v) :: T,i=>bif Nat.beq i j then some v else look T i
structure Fr (N:Fi) (T:Tm) (a:Act):Prop where
 size:a.tmps.size = N.n
 dfr:a.defers = N.ds
 get:∀ i v,look T i = some v → a.tmps[i]? = some v
def ev (T:Tm):Operand → Option Value
 | .tmp t=>look T t
 | .const v=>some v
 | .global g=>some (.pointer (some ⟨g,0,none⟩))
 | .func f=>some (.func (.func f) #[] #[])
theorem Fr.eval {N:Fi} {T:Tm} {a:Act} (h:Fr N T a) {x:Operand} {v:Value} (hx:ev T x = some v):a.eval x = v:=by
 cases x with
 | tmp t=>simp only [ev] at hx;simp [Act.eval,Array.getD_eq_getD_getElem?,h.get _ _ hx]
 | const u=>simpa [ev,Act.eval] using hx
 | global g=>simpa [ev,Act.eval] using hx
 | func f=>simpa [ev,Act.eval] using hx
theorem Fr.put {N:Fi} {T:Tm} {a:Act} (h:Fr N T a) {d:Nat} (hd:Nat.blt d N.n = true) (v:Value):Fr N ((d,v) :: T) (a.put (some d) v):=by
 have hd':d < a.tmps.size:=by rw [h.size];simpa [Nat.blt_eq] using hd
 refine ⟨by simp [Act.put,h.size],h.dfr,fun i u hi=>?_⟩
 simp only [look] at hi
 simp only [Act.put]
 by_cases e:i = d
 ·subst e
  simp only [Nat.beq_refl,cond_true,Option.some.injEq] at hi
  subst hi
  simp [hd']
 ·have:Nat.beq i d = false:=by
   cases hb:Nat.beq i d with
   | false=>rfl
   | true=>exact absurd (Nat.eq_of_beq_eq_true hb) e
  rw [this] at hi
  simp only [cond_false] at hi
  rw [Array.getElem?_setIfInBounds_ne (by omega)]
  exact h.get i u hi
theorem Fr.keep {N:Fi} {T T':Tm} {a:Act} (h:Fr N T a) (hk:∀ i v,look T' i = some v → look T i = some v):Fr N T' a :=
 ⟨h.size,h.dfr,fun i v hi=>h.get i v (hk i v hi)⟩
def pick (T:Tm):List Nat → Tm
 | []=>[]
 | i :: l=>match look T i with
  | some v=>(i,v) :: pick T l
  | none=>pick T l
section
variable (P:Program) (N:Fi) (B:Base) (Q:Exit → Act → World → Prop)
def Cd (c:Code) (T:Tm) (A:List Blk):Prop:=∀ a w,Fr N T a → Sat B A w → c.wpIn (fen B) 0 P Q a w
end
section
variable {P:Program} {N:Fi} {B:Base} {Q:Exit → Act → World → Prop} {T:Tm} {A:List Blk}
theorem Cd.seq {x y:Code} (h:Cd P N B (Exit.then (fun a w=>y.wpIn (fen B) 0 P Q a w) Q) x T A):Cd P N B Q (.seq x y) T A :=
 fun a w hF hS=>wpIn_seq (h a w hF hS)
theorem Cd.skip (h:∀ a w,Fr N T a → Sat B A w → Q .normal a w):Cd P N B Q .skip T A :=
 fun a w hF hS=>wpIn_skip (h a w hF hS)
theorem Cd.ret (h:∀ a w,Fr N T a → Sat B A w → Q .ret a w):Cd P N B Q .ret T A :=
 fun a w hF hS=>wpIn_ret (h a w hF hS)
theorem Cd.exit {id:Nat} (h:∀ a w,Fr N T a → Sat B A w → Q (.exit id) a w):Cd P N B Q (.exit id) T A :=
 fun a w hF hS=>wpIn_exit (h a w hF hS)
theorem Cd.block {id:Nat} {c:Code} (h:Cd P N B (Exit.inBlock id Q) c T A):Cd P N B Q (.block id c) T A :=
 fun a w hF hS=>wpIn_block (h a w hF hS)
theorem Cd.cond {c:Operand} {x y:Code} {t:Bool} (hc:ev T c = some (.bool t)) (ht:t = true → Cd P N B Q x T A) (hf:t = false → Cd P N B Q y T A) :
  Cd P N B Q (.cond c x y) T A :=
 fun a w hF hS=>wpIn_cond_split (hF.eval hc) (fun h=>ht h a w hF hS) (fun h=>hf h a w hF hS)
theorem Cd.condT {c:Operand} {x y:Code} {t:Bool} (hc:ev T c = some (.bool t)) (h:t = true) (hx:Cd P N B Q x T A):Cd P N B Q (.cond c x y) T A :=
 Cd.cond hc (fun _=>hx) (fun h'=>by rw [h] at h';cases h')
theorem Cd.condF {c:Operand} {x y:Code} {t:Bool} (hc:ev T c = some (.bool t)) (h:t = false) (hx:Cd P N B Q y T A):Cd P N B Q (.cond c x y) T A :=
 Cd.cond hc (fun h'=>by rw [h] at h';cases h') (fun _=>hx)
theorem Cd.next {y:Code} {Q':Exit → Act → World → Prop} (h:Cd P N B Q y T A):∀ a w,Fr N T a → Sat B A w → (Exit.then (fun a w=>y.wpIn (fen B) 0 P Q a w) Q') .normal a w:=h
theorem Cd.mono {c:Code} {Q':Exit → Act → World → Prop} (h:Cd P N B Q c T A) (hq:∀ e a w,Q e a w → Q' e a w):Cd P N B Q' c T A :=
 fun a w hF hS=>wpIn_mono (h a w hF hS) hq
def Meets {σ:Type} (N:Fi) (B:Base) (I:σ → Prop) (Tf:σ → Tm) (Af:σ → List Blk) (Q:Exit → Act → World → Prop):Exit → Act → World → Prop
 | .normal,a,w=>∃ s,I s ∧ Fr N (Tf s) a ∧ Sat B (Af s) w
 | e,a,w=>Q e a w
theorem Cd.cut {σ:Type} {x y:Code} (I:σ → Prop) (Tf:σ → Tm) (Af:σ → List Blk) (hx:Cd P N B (Meets N B I Tf Af Q) x T A)
  (hy:∀ s,I s → Cd P N B Q y (Tf s) (Af s)):Cd P N B Q (.seq x y) T A :=
 Cd.seq (hx.mono fun e a w h=>by
  cases e with
  | normal=>obtain ⟨s,hI,hF,hS⟩:=h;exact hy s hI a w hF hS
  | _=>exact h)
def Round {σ:Type} (N:Fi) (B:Base) (I:σ → Prop) (Tf:σ → Tm) (Af:σ → List Blk) (μ:σ → Nat) (m:Nat) (Q:Exit → Act → World → Prop):Exit → Act → World → Prop
 | .normal,a,w=>∃ s,I s ∧ μ s < m ∧ Fr N (Tf s) a ∧ Sat B (Af s) w
 | e,a,w=>Q e a w
theorem Cd.loop {σ:Type} {c:Code} (I:σ → Prop) (Tf:σ → Tm) (Af:σ → List Blk) (μ:σ → Nat) (s0:σ) (h0:I s0)
  (hT:∀ a,Fr N T a → Fr N (Tf s0) a) (hA:∀ w,Sat B A w → Sat B (Af s0) w)
  (round:∀ s,I s → Cd P N B (Round N B I Tf Af μ (μ s) Q) c (Tf s) (Af s)):Cd P N B Q (.loop c) T A:=by
 intro a w hF hS b k cs hro hb hr
 have key:∀ (n:Nat) (s:σ),μ s = n → I s → ∀ a w,Fr N (Tf s) a → Sat B (Af s) w →
   ∃ e a' w',Q e a' w' ∧ ArrivesIn (Machine.fenced P (fen B)) P (lone (b.atR a (.code c :: .inLoop c :: k)) cs w) b k cs e a' w':=by
  intro n
  induction n using Nat.strongRecOn with
  | _ n ih =>
   intro s hn hI a w hF hS
   obtain ⟨e,a₁,w₁,hq,harr⟩:=round s hI a w hF hS b (.inLoop c :: k) cs hro hb hr
   cases e with
   | normal =>
    obtain ⟨s',hI',hlt,hF',hS'⟩:=hq
    obtain ⟨e₂,a₂,w₂,hq₂,harr₂⟩:=ih (μ s') (hn ▸ hlt) s' rfl hI' a₁ w₁ hF' hS'
    exact ⟨e₂,a₂,w₂,hq₂,.of_steps (StepsIn.trans harr (.one (fenced_calm hb hr rfl) stepR_inLoop)) harr₂⟩
   | exit id=>exact ⟨_,a₁,w₁,hq,.pass (x:=.inLoop c) rfl (fun _ _=>.inl (by simp)) harr⟩
   | goto l=>exact ⟨_,a₁,w₁,hq,.pass (x:=.inLoop c) rfl (fun _ _=>.inl (by simp)) harr⟩
   | ret=>exact ⟨_,a₁,w₁,hq,.pass (x:=.inLoop c) rfl (fun _ _=>.inl (by simp)) harr⟩
   | panic ch=>exact ⟨_,a₁,w₁,hq,.pass (x:=.inLoop c) rfl (fun _ _=>.inl (by simp)) harr⟩
   | outgrown=>exact ⟨_,a₁,w₁,hq,.pass (x:=.inLoop c) rfl (fun _ _=>.inl (by simp)) harr⟩
 obtain ⟨e,a',w',hq,harr⟩:=key _ s0 rfl h0 a w (hT a hF) (hA w hS)
 exact ⟨e,a',w',hq,.of_steps (.one (fenced_calm hb hr rfl) stepR_loop) harr⟩
end
end Go.Sep
namespace Go.Sep
open Go
def cl (l:List Value) (E:TypeId):Obj:=.cells l.toArray E (0,0)
def aggD:TypeDesc → Bool
 | .struct _|.array _ _=>true
 | _=>false
class Ty (P:Program) (t:TypeId) (g:outParam Bool) (sz bs:outParam Nat) (zc:outParam (List Value)):Prop where
 und:∃ d,P.underlying t = some d ∧ aggD d = g
 info:(P.info? t).map (fun i=>(i.zero.map Value.cells,i.size,i.bytes)) = some (some zc.toArray,sz,bs)
class TyD (P:Program) (t:TypeId) (d:outParam TypeDesc):Prop where
 und:P.underlying t = some d
theorem Ty.get {P:Program} {t:TypeId} {g:Bool} {sz bs:Nat} {zc:List Value} (h:Ty P t g sz bs zc) :
  ∃ i z,P.info? t = some i ∧ i.zero = some z ∧ z.cells = zc.toArray ∧ i.size = sz ∧ i.bytes = bs:=by
 have h1:=h.info
 cases hi:P.info? t with
 | none=>rw [hi] at h1;cases h1
 | some i =>
  rw [hi] at h1
  simp only [Option.map_some,Option.some.injEq,Prod.mk.injEq] at h1
  cases hz:i.zero with
  | none=>rw [hz] at h1;simp at h1
  | some z =>
   rw [hz] at h1
   simp only [Option.map_some,Option.some.injEq] at h1
   exact ⟨i,z,rfl,hz,h1.1,h1.2.1,h1.2.2⟩
section
variable {P:Program} {w:World} {t:TypeId} {g:Bool} {sz bs:Nat} {zc:List Value}
theorem TyD.run_und {d:TypeDesc} (h:TyD P t d):(underlying t).run P w = .ok d w:=run_underlying h.und w
theorem Ty.run_size (h:Ty P t g sz bs zc):(sizeOf t).run P w = .ok sz w:=by
 obtain ⟨i,z,hi,hz,hc,hs,hb⟩:=h.get
 simp [sizeOf,typeInfo,hi,hs]
theorem Ty.run_info (h:Ty P t g sz bs zc):∃ i:TypeInfo,(typeInfo t).run P w = .ok i w ∧ i.size = sz ∧ i.bytes = bs:=by
 obtain ⟨i,z,hi,hz,hc,hs,hb⟩:=h.get
 exact ⟨i,by simp [typeInfo,hi],hs,hb⟩
theorem Ty.run_zero (h:Ty P t g sz bs zc):∃ z:Value,(zeroValue t).run P w = .ok z w ∧ z.cells = zc.toArray:=by
 obtain ⟨i,z,hi,hz,hc,hs,hb⟩:=h.get
 exact ⟨z,by simp [zeroValue,typeInfo,hi,hz],hc⟩
theorem Ty.run_isAgg (h:Ty P t g sz bs zc):(isAgg t).run P w = .ok g w:=by
 obtain ⟨d,hd,hg⟩:=h.und
 simp only [isAgg,Sem.run_bind,run_underlying hd w,Result.andThen_ok]
 subst hg
 cases d <;> rfl
end
class Has (A:List Blk) (b:Nat) (o:outParam Obj):Prop where
 mem:(b,o) ∈ A
instance Has.head {A:List Blk} {b:Nat} {o:Obj}:Has ((b,o) :: A) b o:=⟨List.mem_cons_self ..⟩
instance (priority:=900) Has.tail {A:List Blk} {p:Blk} {b:Nat} {o:Obj} [h:Has A b o]:Has (p :: A) b o:=⟨List.mem_cons_of_mem _ h.mem⟩
instance (priority:=800) Has.right {A G:List Blk} {b:Nat} {o:Obj} [h:Has A b o]:Has (G ++ A) b o:=⟨List.mem_append_right _ h.mem⟩
instance (priority:=850) Has.left {A G:List Blk} {b:Nat} {o:Obj} [h:Has G b o]:Has (G ++ A) b o:=⟨List.mem_append_left _ h.mem⟩
class Upd (A:List Blk) (b:Nat) (o o':Obj) (A':outParam (List Blk)):Prop where
 put:∃ A1 A2,A = A1 ++ (b,o) :: A2 ∧ A' = A1 ++ (b,o') :: A2
instance Upd.head {A:List Blk} {b:Nat} {o o':Obj}:Upd ((b,o) :: A) b o o' ((b,o') :: A):=⟨[],A,rfl,rfl⟩
instance (priority:=900) Upd.tail {A A':List Blk} {p:Blk} {b:Nat} {o o':Obj} [h:Upd A b o o' A']:Upd (p :: A) b o o' (p :: A'):=by
 obtain ⟨A1,A2,e1,e2⟩:=h.put
 exact ⟨p :: A1,A2,by rw [e1];rfl,by rw [e2];rfl⟩
instance (priority:=800) Upd.right {A A' G:List Blk} {b:Nat} {o o':Obj} [h:Upd A b o o' A']:Upd (G ++ A) b o o' (G ++ A'):=by
 obtain ⟨A1,A2,e1,e2⟩:=h.put
 exact ⟨G ++ A1,A2,by rw [e1,List.append_assoc],by rw [e2,List.append_assoc]⟩
instance (priority:=850) Upd.left {A G G':List Blk} {b:Nat} {o o':Obj} [h:Upd G b o o' G']:Upd (G ++ A) b o o' (G' ++ A):=by
 obtain ⟨A1,A2,e1,e2⟩:=h.put
 exact ⟨A1,A2 ++ A,by rw [e1,List.append_assoc];rfl,by rw [e2,List.append_assoc];rfl⟩
class Rem (A:List Blk) (p:Blk) (A':outParam (List Blk)):Prop where
 perm:A.Perm (p :: A')
instance Rem.head {A:List Blk} {p:Blk}:Rem (p :: A) p A:=⟨.refl _⟩
instance (priority:=900) Rem.tail {A A':List Blk} {p q:Blk} [h:Rem A p A']:Rem (q :: A) p (q :: A'):=⟨(h.perm.cons q).trans (.swap ..)⟩
instance (priority:=800) Rem.right {A A' G:List Blk} {p:Blk} [h:Rem A p A']:Rem (G ++ A) p (G ++ A') :=
 ⟨(h.perm.append_left G).trans List.perm_middle⟩
class Pop (A:List Blk) (b:Nat) (o:outParam Obj) (A':outParam (List Blk)):Prop where
 perm:A.Perm ((b,o) :: A')
instance Pop.head {A:List Blk} {b:Nat} {o:Obj}:Pop ((b,o) :: A) b o A:=⟨.refl _⟩
instance (priority:=850) Rem.left {A G G':List Blk} {p:Blk} [h:Rem G p G']:Rem (G ++ A) p (G' ++ A):=⟨h.perm.append_right A⟩
class RemL (A G:List Blk) (A':outParam (List Blk)):Prop where
 perm:A.Perm (G ++ A')
instance RemL.head {A G:List Blk}:RemL (G ++ A) G A:=⟨.refl _⟩
instance (priority:=950) RemL.all {G:List Blk}:RemL G G []:=⟨by rw [List.append_nil]⟩
instance (priority:=900) RemL.tail {A A' G:List Blk} {q:Blk} [h:RemL A G A']:RemL (q :: A) G (q :: A'):=⟨(h.perm.cons q).trans List.perm_middle.symm⟩
instance (priority:=800) RemL.right {A A' G H:List Blk} [h:RemL A G A']:RemL (H ++ A) G (H ++ A') :=
 ⟨(h.perm.append_left H).trans (by rw [← List.append_assoc,← List.append_assoc];exact List.perm_append_comm.append_right A')⟩
instance (priority:=850) RemL.left {A G H H':List Blk} [h:RemL H G H']:RemL (H ++ A) G (H' ++ A):=⟨by rw [← List.append_assoc];exact h.perm.append_right A⟩
class Split (A A1:List Blk) (F:outParam (List Blk)):Prop where
 perm:A.Perm (A1 ++ F)
instance Split.nil {A:List Blk}:Split A [] A:=⟨.refl _⟩
instance Split.cons {A A' A1 F:List Blk} {p:Blk} [h:Rem A p A'] [k:Split A' A1 F]:Split A (p :: A1) F:=⟨h.perm.trans (k.perm.cons p)⟩
instance (priority:=900) Split.app {A A' A1 G F:List Blk} [h:RemL A G A'] [k:Split A' A1 F]:Split A (G ++ A1) F :=
 ⟨h.perm.trans ((k.perm.append_left G).trans (by rw [List.append_assoc]))⟩
instance (priority:=800) Split.one {A A' G:List Blk} [h:RemL A G A']:Split A G A':=⟨h.perm⟩
class SetL (l:List Value) (i:Nat) (v:Value) (l':outParam (List Value)):Prop where
 eq:l' = l.set i v ∧ i < l.length
instance SetL.z {x v:Value} {l:List Value}:SetL (x :: l) 0 v (v :: l):=⟨rfl,by simp⟩
instance SetL.s {x v:Value} {l l':List Value} {i:Nat} [h:SetL l i v l']:SetL (x :: l) (i + 1) v (x :: l'):=⟨by rw [h.eq.1];rfl,by have:=h.eq.2;simp;omega⟩
class SetS (l:List Value) (i:Nat) (vs:List Value) (l':outParam (List Value)):Prop where
 eq:l' = l.take i ++ vs ++ l.drop (i + vs.length) ∧ i + vs.length ≤ l.length
instance SetS.nil {l:List Value}:SetS l 0 [] l:=⟨by simp,by simp⟩
instance SetS.z {x v:Value} {l l' vs:List Value} [h:SetS l 0 vs l']:SetS (x :: l) 0 (v :: vs) (v :: l') :=
 ⟨by rw [h.eq.1];simp,by have:=h.eq.2;simp at this ⊢;omega⟩
instance SetS.s {x:Value} {l l' vs:List Value} {i:Nat} [h:SetS l i vs l']:SetS (x :: l) (i + 1) vs (x :: l') :=
 ⟨by rw [h.eq.1,show i + 1 + vs.length = (i + vs.length) + 1 from by omega];simp,by have:=h.eq.2;simp;omega⟩
class GetS (l:List Value) (i n:Nat) (r:outParam (List Value)):Prop where
 eq:r = (l.drop i).take n ∧ i + n ≤ l.length
instance GetS.nil {l:List Value}:GetS l 0 0 []:=⟨by simp,by simp⟩
instance GetS.z {x:Value} {l r:List Value} {n:Nat} [h:GetS l 0 n r]:GetS (x :: l) 0 (n + 1) (x :: r) :=
 ⟨by rw [h.eq.1];simp,by have:=h.eq.2;simp at this ⊢;omega⟩
instance GetS.s {x:Value} {l r:List Value} {i n:Nat} [h:GetS l i n r]:GetS (x :: l) (i + 1) n r :=
 ⟨by rw [h.eq.1];simp,by have:=h.eq.2;simp;omega⟩
class Cells (v:Value) (l:outParam (List Value)):Prop where
 eq:v.cells = l.toArray
instance Cells.agg {l:List Value}:Cells (.agg l.toArray) l:=⟨rfl⟩
instance (priority:=500) Cells.int {k:IntKind} {n:Int}:Cells (.int k n) [.int k n]:=⟨rfl⟩
instance (priority:=500) Cells.bool {b:Bool}:Cells (.bool b) [.bool b]:=⟨rfl⟩
instance (priority:=500) Cells.string {b:ByteArray}:Cells (.string b) [.string b]:=⟨rfl⟩
instance (priority:=500) Cells.pointer {a:Option Addr}:Cells (.pointer a) [.pointer a]:=⟨rfl⟩
instance (priority:=500) Cells.slice {a:Option Addr} {n c:Nat}:Cells (.slice a n c) [.slice a n c]:=⟨rfl⟩
instance (priority:=500) Cells.map {a:Option Nat}:Cells (.map a) [.map a]:=⟨rfl⟩
instance (priority:=500) Cells.func {f:Fn} {x y:Array Value}:Cells (.func f x y) [.func f x y]:=⟨rfl⟩
class FOff (P:Program) (s:TypeId) (f:Nat) (off n:outParam Nat):Prop where
 has:∃ (fields:Array Field) (fd:Field),P.underlying s = some (.struct fields) ∧ fields[f]? = some fd ∧ (P.info? fd.type).map (·.size) = some n ∧ n ≠ 0 ∧ fd.offset = off
theorem FOff.run {P:Program} {s:TypeId} {f off n:Nat} (h:FOff P s f off n) (a:Addr) (w:World) :
  (Instr.fieldAt s (.pointer (some a)) f).run P w = .ok (.pointer (some (a.add off))) w:=by
 obtain ⟨fields,fd,hu,hf,hn,hn0,ho⟩:=h.has
 cases hi:P.info? fd.type with
 | none=>rw [hi] at hn;cases hn
 | some i =>
  rw [hi] at hn
  simp only [Option.map_some,Option.some.injEq] at hn
  simp [Instr.fieldAt,run_underlying hu,hf,Instr.sureAddr,fieldPlace,sizeOf,typeInfo,hi,hn,hn0,ho]
end Go.Sep
namespace Go.Sep
open Go
theorem add_none (b off i:Nat):(⟨b,off,none⟩:Addr).add i = ⟨b,off + i,none⟩:=by
 unfold Addr.add;split
 ·simp [*]
 ·rfl
theorem cell_of {w:World} {b:Nat} {l:List Value} {E:TypeId} (h:w.heap[b]? = some (cl l E)) (off:Nat):w.cell? ⟨b,off,none⟩ = l[off]?:=by
 simp [World.cell?,h,cl]
theorem frozen_of {w:World} {b:Nat} {l:List Value} {E:TypeId} (h:w.heap[b]? = some (cl l E)) (off:Nat):w.frozen? ⟨b,off,none⟩ = false:=by
 simp [World.frozen?,h,cl]
theorem Sat.has {B:Base} {A:List Blk} {w:World} (h:Sat B A w) {b:Nat} {o:Obj} [k:Has A b o]:w.heap[b]? = some o:=h.here _ k.mem
section
variable {P:Program}
theorem run_loadCellsFrom {w:World} {b off:Nat} (vs:List Value):∀ (i:Nat) (acc:Array Value),
  (∀ j u,vs[j]? = some u → w.cell? ⟨b,off + i + j,none⟩ = some u) → (loadCellsFrom ⟨b,off,none⟩ i vs.length acc).run P w = .ok (acc ++ vs.toArray) w:=by
 induction vs with
 | nil=>intro i acc _;simp [loadCellsFrom]
 | cons v vs ih =>
  intro i acc h
  have h0:=h 0 v rfl
  simp only [Nat.add_zero] at h0
  have ih':=ih (i + 1) (acc.push v) fun j u hu=>by
   have:=h (j + 1) u (by simpa using hu)
   rwa [show off + (i + 1) + j = off + i + (j + 1) from by omega]
  simp only [List.length_cons,loadCellsFrom,Sem.run_bind,add_none,run_load,h0,Result.andThen_ok]
  rw [ih']
  simp
theorem run_loadCells {w:World} {b off n:Nat} {vs:List Value} (hn:vs.length = n) (h:∀ j u,vs[j]? = some u → w.cell? ⟨b,off + j,none⟩ = some u) :
  (loadCells ⟨b,off,none⟩ n).run P w = .ok vs.toArray w:=by
 subst hn
 have:=run_loadCellsFrom (P:=P) (w:=w) (b:=b) (off:=off) vs 0 #[] (by simpa using h)
 simpa [loadCells] using this
theorem run_loadAt1 {w:World} {t:TypeId} {sz bs:Nat} {zc:List Value} (ht:Ty P t false sz bs zc) {a:Addr} {v:Value} (hc:w.cell? a = some v) :
  (Instr.loadAt t (.pointer (some a))).run P w = .ok v w:=by
 simp [Instr.loadAt,Instr.sureAddr,loadVar,ht.run_isAgg,hc]
theorem run_loadAtN {w:World} {t:TypeId} {sz bs:Nat} {zc:List Value} (ht:Ty P t true sz bs zc) {b off:Nat} {vs:List Value} (hn:vs.length = sz)
  (h:∀ j u,vs[j]? = some u → w.cell? ⟨b,off + j,none⟩ = some u) :
  (Instr.loadAt t (.pointer (some ⟨b,off,none⟩))).run P w = .ok (.agg vs.toArray) w:=by
 simp [Instr.loadAt,Instr.sureAddr,loadVar,ht.run_isAgg,ht.run_size,run_loadCells hn h]
def ins (l:List Value) (off:Nat) (vs:List Value):List Value:=l.take off ++ vs ++ l.drop (off + vs.length)
theorem ins_nil (l:List Value) (off:Nat):ins l off [] = l:=by simp [ins]
theorem ins_length {l:List Value} {off:Nat} {vs:List Value} (h:off + vs.length ≤ l.length):(ins l off vs).length = l.length:=by
 simp [ins];omega
theorem ins_cons {l:List Value} {off:Nat} {v:Value} {vs:List Value} (h:off < l.length):ins l off (v :: vs) = ins (l.set off v) (off + 1) vs:=by
 have e1:(l.set off v).take (off + 1) = l.take off ++ [v]:=by
  rw [List.set_eq_take_append_cons_drop,if_pos h,List.take_append,List.take_take,Nat.min_eq_right (by omega),List.length_take,
   show off + 1 - min off l.length = 1 from by omega]
  rfl
 have e2:(l.set off v).drop (off + 1 + vs.length) = l.drop (off + 1 + vs.length):=List.drop_set_of_lt (by omega)
 unfold ins
 rw [e1,e2,List.length_cons,show off + (vs.length + 1) = off + 1 + vs.length from by omega]
 simp
theorem Sat.store1 {B:Base} {A1 A2:List Blk} {b:Nat} {l:List Value} {E:TypeId} {w:World} (h:Sat B (A1 ++ (b,cl l E) :: A2) w) (off:Nat) (v:Value) :
  Sat B (A1 ++ (b,cl (l.set off v) E) :: A2) (w.setCell ⟨b,off,none⟩ v):=by
 have hb:=h.here (b,cl l E) (List.mem_append_right _ (List.mem_cons_self ..))
 refine h.put rfl rfl rfl ?_ fun n hn=>?_
 ·simp only [cl] at hb ⊢
  simp [World.setCell,Array.getElem?_modify,hb]
 ·simp [World.setCell,Array.getElem?_modify,Ne.symm hn]
theorem run_store1 {B:Base} {A1 A2:List Blk} {b:Nat} {l:List Value} {E:TypeId} {w:World} (h:Sat B (A1 ++ (b,cl l E) :: A2) w) {off:Nat} {v:Value} (hv:v.oneCell' = true)
  (hoff:off < l.length):(store ⟨b,off,none⟩ v).run P w = .ok () (w.setCell ⟨b,off,none⟩ v):=by
 have hb:=h.here (b,cl l E) (List.mem_append_right _ (List.mem_cons_self ..))
 rw [run_store P w _ v .plain hv,cell_of hb,frozen_of hb,List.getElem?_eq_getElem hoff]
 rfl
theorem run_storeCells {B:Base} {A1 A2:List Blk} {b:Nat} {E:TypeId} {off:Nat} (vs:List Value):∀ (i:Nat) (l:List Value) (w:World),Sat B (A1 ++ (b,cl l E) :: A2) w →
  (∀ u ∈ vs,u.oneCell' = true) → off + i + vs.length ≤ l.length →
  ∃ w',(storeCells ⟨b,off,none⟩ vs i).run P w = .ok () w' ∧ Sat B (A1 ++ (b,cl (ins l (off + i) vs) E) :: A2) w':=by
 induction vs with
 | nil=>intro i l w h _ _;exact ⟨w,by simp [storeCells],by rw [ins_nil];exact h⟩
 | cons v vs ih =>
  intro i l w h h1 hlen
  simp only [List.length_cons] at hlen
  obtain ⟨w',hr,hS⟩:=ih (i + 1) (l.set (off + i) v) _ (h.store1 (off + i) v) (fun u hu=>h1 u (List.mem_cons_of_mem _ hu)) (by simp;omega)
  refine ⟨w',?_,?_⟩
  ·simp only [storeCells,Sem.run_bind,add_none]
   rw [run_store1 h (h1 v (List.mem_cons_self ..)) (by omega)]
   simpa using hr
  ·rw [ins_cons (by omega)];exact hS
theorem run_storeAt {B:Base} {A1 A2:List Blk} {b:Nat} {l:List Value} {E:TypeId} {w:World} (h:Sat B (A1 ++ (b,cl l E) :: A2) w) {t:TypeId} {g:Bool} {sz bs:Nat} {zc:List Value}
  (ht:Ty P t g sz bs zc) {v:Value} {vs:List Value} (hv:v.cells = vs.toArray) (hn:vs.length = sz) {off:Nat} (h1:∀ u ∈ vs,u.oneCell' = true) (hlen:off + vs.length ≤ l.length) :
  ∃ w',(Instr.storeAt t (.pointer (some ⟨b,off,none⟩)) v).run P w = .ok () w' ∧ Sat B (A1 ++ (b,cl (ins l off vs) E) :: A2) w':=by
 obtain ⟨w',hr,hS⟩:=run_storeCells (P:=P) (off:=off) vs 0 l w h h1 (by simpa using hlen)
 refine ⟨w',?_,hS⟩
 simp [Instr.storeAt,Instr.sureAddr,storeVar,hv,hn,ht.run_size]
 exact hr
end
class BinRun (P:Program) (op:BinOp) (t:TypeId) (x y:Value) (v:outParam Value):Prop where
 run:∀ (xo yo:Operand) (w:World),(do eqGuard op t xo yo x y;binOp op t x y:Sem Value).run P w = .ok v w
section
variable {P:Program} {t:TypeId} {k:IntKind} {a b:Int}
instance (priority:=400) BinRun.add:BinRun P .add t (.int k a) (.int k b) (.int k (k.wrap (a + b))):=⟨fun _ _ w=>by simp [eqGuard,binOp,Op.intArith]⟩
instance (priority:=400) BinRun.mul:BinRun P .mul t (.int k a) (.int k b) (.int k (k.wrap (a * b))):=⟨fun _ _ w=>by simp [eqGuard,binOp,Op.intArith]⟩
instance BinRun.lss:BinRun P .lss t (.int k a) (.int k b) (.bool (decide (a < b))):=⟨fun _ _ w=>by simp [eqGuard,binOp,Op.intCmp]⟩
instance BinRun.leq:BinRun P .leq t (.int k a) (.int k b) (.bool (decide (a ≤ b))):=⟨fun _ _ w=>by simp [eqGuard,binOp,Op.intCmp]⟩
instance BinRun.gtr:BinRun P .gtr t (.int k a) (.int k b) (.bool (decide (b < a))):=⟨fun _ _ w=>by simp [eqGuard,binOp,Op.intCmp]⟩
instance BinRun.geq:BinRun P .geq t (.int k a) (.int k b) (.bool (decide (b ≤ a))):=⟨fun _ _ w=>by simp [eqGuard,binOp,Op.intCmp]⟩
instance BinRun.eqlI:BinRun P .eql t (.int k a) (.int k b) (.bool (decide (a = b))):=⟨fun _ _ w=>by simp [eqGuard,binOp,Op.intCmp];rfl⟩
instance BinRun.neqI:BinRun P .neq t (.int k a) (.int k b) (.bool (!decide (a = b))):=⟨fun _ _ w=>by simp [eqGuard,binOp,Op.intCmp];rfl⟩
theorem list_beq (s u:ByteArray):(s.toList == u.toList) = decide (s = u):=by
 rw [Bool.eq_iff_iff]
 simp only [beq_iff_eq,decide_eq_true_eq]
 constructor
 ·intro h
  rw [ByteArray.toList_eq,ByteArray.toList_eq] at h
  cases s;cases u
  simp only [ByteArray.mk.injEq]
  exact Array.toList_inj.1 h
 ·rintro rfl;rfl
instance BinRun.eqlS {s u:ByteArray}:BinRun P .eql t (.string s) (.string u) (.bool (decide (s = u))):=⟨fun _ _ w=>by simp [eqGuard,binOp,Op.stringOp,list_beq]⟩
instance (priority:=2000) BinRun.eqlSS {s:ByteArray}:BinRun P .eql t (.string s) (.string s) (.bool true):=⟨fun _ _ w=>by simp [eqGuard,binOp,Op.stringOp]⟩
instance (priority:=2000) BinRun.neqSS {s:ByteArray}:BinRun P .neq t (.string s) (.string s) (.bool false):=⟨fun _ _ w=>by simp [eqGuard,binOp,Op.stringOp]⟩
instance BinRun.neqS {s u:ByteArray}:BinRun P .neq t (.string s) (.string u) (.bool (!decide (s = u))):=⟨fun _ _ w=>by simp [eqGuard,binOp,Op.stringOp,list_beq]⟩
end
end Go.Sep
