import Derived.Test.YtkcmjgjfodipfaaGreatA25
namespace Go.Proofs.YtkcmjgjfodipfaaGreat
open Go Go.Sep Go.Proofs
set_option maxRecDepth 10000
set_option maxHeartbeats 40000000
set_option synthInstance.maxSize 2000
set_option linter.unusedSimpArgs false
set_option linter.unusedVariables false
/-! what a fleet shows at its beginning -/
theorem appseqL_nil (gf : FuncId) (lb : List Value) (Ok Done : List Ls.LE → Prop) (AI G : List Blk) [hfn : FnOk Tryz.prog gf] (hit : IterC Tryz.prog gf lb Ls.encL Ok Done AI G) (hno : ∀ pre, ¬ Ok pre) :
    Con Tryz.prog 210 #[.slice none 0 0, .func (.func gf) #[] lb.toArray] (AI ++ G) fun v A => v = .slice none 0 0 ∧ A = AI ++ G := by
  refine Con.intro (vs := [_, _]) Tryz.func210 rfl Tryz.ntmps210 rfl (fun B => ?_)
  refine Cd.seq ?_
  refine Cd.reg ?_
  refine Ops.box rfl rfl rfl rfl (noPd rfl) (fun b2 => ?_)
  repeat' (first | refine Cd.seq ?_ | refine Cd.reg ?_ | refine Ops.nil ?_ | refine Ops.mv rfl rfl rfl rfl ?_ | refine Ops.asg rfl rfl rfl rfl ?_ | refine Cd.block ?_)
  refine Cd.range (X := Ls.LE) (C0 := (b2, cl [.slice none 0 0] 86) :: G) hit rfl rfl (ps := [7]) rfl (fun _ => rfl)
    (fun _ C => C = (b2, cl [.slice none 0 0] 86) :: G)
    (fun _ _ _ => False)
    (fun _ _ _ _ => False)
    (fun w hw => (hw.split : Sat _ (AI ++ ((b2, cl [.slice none 0 0] 86) :: G)) w)) rfl (fun C hC => ⟨[(b2, cl [.slice none 0 0] 86)], by subst hC; exact List.perm_append_comm (l₁ := [_])⟩) ?_ ?_ ?_ ?_
  · rintro B2 pre x C hx hok hC
    exact (hno _ hok).elim
  · rintro lp r B2 pre x T C hro hlp hx hok h
    exact h.elim
  · rintro D xs C hD hdn rfl
    refine Cd.next (Q' := fun _ _ _ => True) ?_
    repeat' (first | refine Cd.seq ?_ | refine Cd.reg ?_ | refine Ops.nil ?_ | refine Ops.asg rfl rfl rfl rfl ?_ | refine Ops.ld1 rfl rfl rfl rfl rfl ?_)
    exact Cd.ret (unmark (mark1 hD) (ret1 (A' := AI ++ G) rfl (Res.tmp rfl) (fun w h => h.split) ⟨rfl, rfl⟩))
  · rintro D c pre C hD hZ
    exact hZ.elim
theorem collectL_nil (gf : FuncId) (lb : List Value) (Ok Done : List Ls.LE → Prop) (AI G : List Blk) [hfn : FnOk Tryz.prog gf] (hit : IterC Tryz.prog gf lb Ls.encL Ok Done AI G) (hno : ∀ pre, ¬ Ok pre) :
    Con Tryz.prog 135 #[.func (.func gf) #[] lb.toArray] (AI ++ G) fun v A => v = .slice none 0 0 ∧ A = AI ++ G := by
  refine Con.intro (vs := [_]) Tryz.func135 rfl Tryz.ntmps135 rfl (fun B => ?_)
  repeat' (first | refine Cd.seq ?_ | refine Cd.reg ?_ | refine Ops.mv rfl rfl rfl rfl ?_ | refine Ops.asg rfl rfl rfl rfl ?_)
  refine Ops.call (appseqL_nil gf lb Ok Done AI G hit hno) rfl (noPd rfl) rfl rfl rfl (fun v A' hR => ?_)
  obtain ⟨rfl, rfl⟩ := hR
  repeat' (first | refine Ops.nil ?_ | refine Ops.asg rfl rfl rfl rfl ?_)
  exact Cd.ret (ret1 (A' := AI ++ G) rfl (Res.tmp rfl) (fun w h => h.split) ⟨rfl, rfl⟩)
theorem cleases_spec (xb lb lm tb cb mb db wb sb : Nat) :
    Con Tryz.prog 69 #[ptr xb] (CoB xb lb tb cb mb db wb sb cfm (.slice none 0 0) false :: Ls.TB lb lm cfm.lease [] 0) fun v A => v = .slice none 0 0 ∧ A = CoB xb lb tb cb mb db wb sb cfm (.slice none 0 0) false :: Ls.TB lb lm cfm.lease [] 0 := by
  refine Con.intro (vs := [_]) Tryz.func69 rfl Tryz.ntmps69 rfl (fun B => ?_)
  repeat' (first | refine Cd.seq ?_ | refine Cd.reg ?_ | refine Ops.mv rfl rfl rfl rfl ?_ | refine Ops.asg rfl rfl rfl rfl ?_ | refine Ops.nilP rfl rfl rfl rfl ?_ | refine Ops.fa0 rfl rfl rfl rfl ?_ | refine Ops.ld1 rfl rfl rfl rfl rfl ?_)
  refine Ops.call (Ls.all_spec lb) rfl (noPd rfl) rfl rfl rfl (fun v A' hR => ?_)
  obtain ⟨bx, rfl, rfl⟩ := hR
  skip
  refine Ops.call (collectL_nil _ _ _ _ _ _ (Ls.all_iter lb bx lm cfm.lease [] [] 0 (Ls.TOk.new (by decide) (by decide))) (fun pre h => by obtain ⟨i, hi, _⟩ := h; exact absurd hi (Nat.not_lt_zero _))) rfl (noPd rfl) rfl rfl rfl (fun v A' hR => ?_)
  obtain ⟨rfl, rfl⟩ := hR
  skip
  refine Ops.call (Ls.clip_spec (.slice none 0 0) [] [] Own.none) rfl (noPd rfl) rfl rfl rfl (fun v A' hR => ?_)
  rcases hR with ⟨⟨_, ⟨rfl, _, _⟩ | ⟨g, c, sp, _, hG⟩⟩, rfl⟩
  case inr => cases hG
  repeat' (first | refine Ops.nil ?_ | refine Ops.asg rfl rfl rfl rfl ?_)
  exact Cd.ret (ret1 (A' := CoB xb lb tb cb mb db wb sb cfm (.slice none 0 0) false :: Ls.TB lb lm cfm.lease [] 0) rfl (Res.tmp rfl) (fun w h => h.split) ⟨rfl, rfl⟩)
theorem csessions_spec (xb lb tb cb mb db wb sb : Nat) (sv : Value) (G : List Blk) (hO : Se.OwnK sv (Se.fresh 1) G) :
    Con Tryz.prog 70 #[ptr xb] (CoB xb lb tb cb mb db wb sb cfm (.slice none 0 0) false :: Se.TabB tb sv G) fun v A => (∃ a c, v = .slice a 0 c) ∧ A = CoB xb lb tb cb mb db wb sb cfm (.slice none 0 0) false :: Se.TabB tb sv G := by
  refine Con.intro (vs := [_]) Tryz.func70 rfl Tryz.ntmps70 rfl (fun B => ?_)
  repeat' (first | refine Cd.seq ?_ | refine Cd.reg ?_ | refine Ops.mv rfl rfl rfl rfl ?_ | refine Ops.asg rfl rfl rfl rfl ?_ | refine Ops.nilP rfl rfl rfl rfl ?_ | refine Ops.fa0 rfl rfl rfl rfl ?_ | refine Ops.ld1 rfl rfl rfl rfl rfl ?_)
  refine Ops.call (Se.rows_spec tb sv (Se.fresh 1) G hO (by simp [Se.fresh])) rfl (noPd rfl) rfl rfl rfl (fun v A' hR => ?_)
  obtain ⟨G', rfl, hO1⟩ := hR
  rw [show (Se.fresh 1).filter Se.liveB = [] from rfl] at hO1
  obtain ⟨a, c, rfl⟩ := hO1.form
  repeat' (first | refine Ops.nil ?_ | refine Ops.asg rfl rfl rfl rfl ?_)
  exact Cd.ret (ret1 (A' := CoB xb lb tb cb mb db wb sb cfm (.slice none 0 0) false :: Se.TabB tb sv G) rfl (Res.tmp rfl) (fun w h => h.split) ⟨⟨a, c, rfl⟩, rfl⟩)
theorem cview_spec (B0 : Base) (xb lb tb cb mb db wb sb : Nat) (SD : List Blk) (hS : StA sb ⟨2, [], 0, [], []⟩ SD) :
    ConB Tryz.prog B0 68 #[ptr xb] (CoB xb lb tb cb mb db wb sb cfm (.slice none 0 0) false :: SD) fun v A => (∃ a, v = .agg #[.int .i64 0, .slice a 0 0]) ∧ A = CoB xb lb tb cb mb db wb sb cfm (.slice none 0 0) false :: SD := by
  refine ConB.intro (vs := [_]) Tryz.func68 rfl Tryz.ntmps68 rfl (fun B hB => ?_)
  repeat' (first | refine Cd.seq ?_ | refine Cd.reg ?_ | refine Ops.mv rfl rfl rfl rfl ?_ | refine Ops.nilP rfl rfl rfl rfl ?_ | refine Ops.fa0 rfl rfl rfl rfl ?_ | refine Ops.ld1 rfl rfl rfl rfl rfl ?_ | refine Ops.alloc rfl rfl rfl (noPd rfl) (fun b => ?_))
  refine Ops.callB (view_own B0 sb _ SD hS (stOk_new (by decide) (by decide))) hB rfl (noPd rfl) rfl rfl rfl (fun v A' hR => ?_)
  obtain ⟨VG, ⟨va, ps, JG, rfl, rfl, hJ, hT, hps⟩, rfl⟩ := hR
  dsimp only [List.length_nil]
  repeat' (first | refine Ops.nil ?_ | refine Ops.stN rfl rfl rfl rfl rfl rfl (noPd rfl) ?_)
  exact Cd.ret (ret1 (A' := CoB xb lb tb cb mb db wb sb cfm (.slice none 0 0) false :: SD) rfl (Res.cellN rfl) (fun w h => h.split) ⟨⟨va, rfl⟩, rfl⟩)
theorem fcoord_spec (fb db nb gn gl xb kb rb : Nat) :
    Con Tryz.prog 67 #[ptr fb] [ClB fb db nb gn gl, NdB gn xb kb rb] fun v A => v = .tuple #[.agg #[ptr xb], .bool true] ∧ A = [ClB fb db nb gn gl, NdB gn xb kb rb] := by
  refine Con.intro (vs := [_]) Tryz.func67 rfl Tryz.ntmps67 rfl (fun B => ?_)
  repeat' (first | refine Cd.seq ?_ | refine Cd.reg ?_ | refine Ops.mv rfl rfl rfl rfl ?_ | refine Ops.asg rfl rfl rfl rfl ?_ | refine Ops.nilP rfl rfl rfl rfl ?_ | refine Ops.fa0 rfl rfl rfl rfl ?_ | refine Ops.ld1 rfl rfl rfl rfl rfl ?_ | refine Ops.alloc rfl rfl rfl (noPd rfl) (fun b => ?_) | refine Ops.ixa0 rfl rfl rfl rfl (by omega) (by omega) rfl ?_)
  refine Ops.tAss rfl rfl rfl rfl ?_
  repeat' (first | refine Cd.seq ?_ | refine Cd.reg ?_ | refine Ops.nil ?_ | refine Ops.mv rfl rfl rfl rfl ?_ | refine Ops.asg rfl rfl rfl rfl ?_ | refine Ops.ldN rfl rfl rfl rfl ?_ | refine Ops.ext rfl rfl rfl rfl rfl ?_ | refine Ops.alloc rfl rfl rfl (noPd rfl) (fun b => ?_) | refine Ops.stN rfl rfl rfl rfl rfl rfl (noPd rfl) ?_)
  exact Cd.ret (ret2 (A' := [ClB fb db nb gn gl, NdB gn xb kb rb]) rfl (Res.cellN rfl) (Res.tmp rfl) (fun w h => h.split) ⟨rfl, rfl⟩)
theorem fview_spec (B0 : Base) (fb nb gn gl kb rb xb lb tb cb mb db wb sb : Nat) (SD : List Blk) (hS : StA sb ⟨2, [], 0, [], []⟩ SD) :
    ConB Tryz.prog B0 30 #[ptr fb] (ClB fb db nb gn gl :: NdB gn xb kb rb :: CoB xb lb tb cb mb db wb sb cfm (.slice none 0 0) false :: SD) fun v A => (∃ a, v = .tuple #[.agg #[.int .i64 0, .slice a 0 0], .bool true]) ∧ A = ClB fb db nb gn gl :: NdB gn xb kb rb :: CoB xb lb tb cb mb db wb sb cfm (.slice none 0 0) false :: SD := by
  refine ConB.intro (vs := [_]) Tryz.func30 rfl Tryz.ntmps30 rfl (fun B hB => ?_)
  repeat' (first | refine Cd.seq ?_ | refine Cd.reg ?_ | refine Ops.mv rfl rfl rfl rfl ?_ | refine Ops.asg rfl rfl rfl rfl ?_ | refine Ops.alloc rfl rfl rfl (noPd rfl) (fun b => ?_))
  refine Ops.call (fcoord_spec fb db nb gn gl xb kb rb) rfl (noPd rfl) rfl rfl rfl (fun v A' hR => ?_)
  obtain ⟨rfl, rfl⟩ := hR
  repeat' (first | refine Cd.seq ?_ | refine Cd.reg ?_ | refine Ops.nil ?_ | refine Ops.mv rfl rfl rfl rfl ?_ | refine Ops.asg rfl rfl rfl rfl ?_ | refine Ops.fa0 rfl rfl rfl rfl ?_ | refine Ops.ld1 rfl rfl rfl rfl rfl ?_ | refine Ops.un rfl rfl rfl rfl ?_ | refine Ops.ext rfl rfl rfl rfl rfl ?_ | refine Ops.alloc rfl rfl rfl (noPd rfl) (fun b => ?_) | refine Ops.stN rfl rfl rfl rfl rfl rfl (noPd rfl) ?_ | refine Cd.condF rfl rfl ?_ | refine Cd.skip (Cd.next ?_))
  refine Ops.callB (cview_spec B0 xb lb tb cb mb db wb sb SD hS) hB rfl (noPd rfl) rfl rfl rfl (fun v A' hR => ?_)
  obtain ⟨⟨a, rfl⟩, rfl⟩ := hR
  repeat' (first | refine Ops.nil ?_ | refine Ops.asg rfl rfl rfl rfl ?_ | refine Ops.stN rfl rfl rfl rfl rfl rfl (noPd rfl) ?_)
  exact Cd.ret (ret2 (A' := ClB fb db nb gn gl :: NdB gn xb kb rb :: CoB xb lb tb cb mb db wb sb cfm (.slice none 0 0) false :: SD) rfl (Res.cellN rfl) (Res.tmp rfl) (fun w h => h.split) ⟨⟨a, rfl⟩, rfl⟩)
theorem fleases_spec (fb nb gn gl kb rb xb lb lm tb cb mb db wb sb : Nat) :
    Con Tryz.prog 31 #[ptr fb] (ClB fb db nb gn gl :: NdB gn xb kb rb :: CoB xb lb tb cb mb db wb sb cfm (.slice none 0 0) false :: Ls.TB lb lm cfm.lease [] 0) fun v A => v = .tuple #[.slice none 0 0, .bool true] ∧ A = ClB fb db nb gn gl :: NdB gn xb kb rb :: CoB xb lb tb cb mb db wb sb cfm (.slice none 0 0) false :: Ls.TB lb lm cfm.lease [] 0 := by
  refine Con.intro (vs := [_]) Tryz.func31 rfl Tryz.ntmps31 rfl (fun B => ?_)
  repeat' (first | refine Cd.seq ?_ | refine Cd.reg ?_ | refine Ops.mv rfl rfl rfl rfl ?_ | refine Ops.asg rfl rfl rfl rfl ?_)
  refine Ops.call (fcoord_spec fb db nb gn gl xb kb rb) rfl (noPd rfl) rfl rfl rfl (fun v A' hR => ?_)
  obtain ⟨rfl, rfl⟩ := hR
  repeat' (first | refine Cd.seq ?_ | refine Cd.reg ?_ | refine Ops.nil ?_ | refine Ops.mv rfl rfl rfl rfl ?_ | refine Ops.asg rfl rfl rfl rfl ?_ | refine Ops.fa0 rfl rfl rfl rfl ?_ | refine Ops.ld1 rfl rfl rfl rfl rfl ?_ | refine Ops.un rfl rfl rfl rfl ?_ | refine Ops.ext rfl rfl rfl rfl rfl ?_ | refine Ops.alloc rfl rfl rfl (noPd rfl) (fun b => ?_) | refine Ops.stN rfl rfl rfl rfl rfl rfl (noPd rfl) ?_ | refine Cd.condF rfl rfl ?_ | refine Cd.skip (Cd.next ?_))
  refine Ops.call (cleases_spec xb lb lm tb cb mb db wb sb) rfl (noPd rfl) rfl rfl rfl (fun v A' hR => ?_)
  obtain ⟨rfl, rfl⟩ := hR
  repeat' (first | refine Ops.nil ?_ | refine Ops.asg rfl rfl rfl rfl ?_)
  exact Cd.ret (ret2 (A' := ClB fb db nb gn gl :: NdB gn xb kb rb :: CoB xb lb tb cb mb db wb sb cfm (.slice none 0 0) false :: Ls.TB lb lm cfm.lease [] 0) rfl (Res.tmp rfl) (Res.tmp rfl) (fun w h => h.split) ⟨rfl, rfl⟩)
theorem fsessions_spec (fb nb gn gl kb rb xb lb tb cb mb db wb sb : Nat) (sv : Value) (G : List Blk) (hO : Se.OwnK sv (Se.fresh 1) G) :
    Con Tryz.prog 32 #[ptr fb] (ClB fb db nb gn gl :: NdB gn xb kb rb :: CoB xb lb tb cb mb db wb sb cfm (.slice none 0 0) false :: Se.TabB tb sv G) fun v A => (∃ a c, v = .tuple #[.slice a 0 c, .bool true]) ∧ A = ClB fb db nb gn gl :: NdB gn xb kb rb :: CoB xb lb tb cb mb db wb sb cfm (.slice none 0 0) false :: Se.TabB tb sv G := by
  refine Con.intro (vs := [_]) Tryz.func32 rfl Tryz.ntmps32 rfl (fun B => ?_)
  repeat' (first | refine Cd.seq ?_ | refine Cd.reg ?_ | refine Ops.mv rfl rfl rfl rfl ?_ | refine Ops.asg rfl rfl rfl rfl ?_)
  refine Ops.call (fcoord_spec fb db nb gn gl xb kb rb) rfl (noPd rfl) rfl rfl rfl (fun v A' hR => ?_)
  obtain ⟨rfl, rfl⟩ := hR
  repeat' (first | refine Cd.seq ?_ | refine Cd.reg ?_ | refine Ops.nil ?_ | refine Ops.mv rfl rfl rfl rfl ?_ | refine Ops.asg rfl rfl rfl rfl ?_ | refine Ops.fa0 rfl rfl rfl rfl ?_ | refine Ops.ld1 rfl rfl rfl rfl rfl ?_ | refine Ops.un rfl rfl rfl rfl ?_ | refine Ops.ext rfl rfl rfl rfl rfl ?_ | refine Ops.alloc rfl rfl rfl (noPd rfl) (fun b => ?_) | refine Ops.stN rfl rfl rfl rfl rfl rfl (noPd rfl) ?_ | refine Cd.condF rfl rfl ?_ | refine Cd.skip (Cd.next ?_))
  refine Ops.call (csessions_spec xb lb tb cb mb db wb sb sv G hO) rfl (noPd rfl) rfl rfl rfl (fun v A' hR => ?_)
  obtain ⟨⟨a, c, rfl⟩, rfl⟩ := hR
  repeat' (first | refine Ops.nil ?_ | refine Ops.asg rfl rfl rfl rfl ?_)
  exact Cd.ret (ret2 (A' := ClB fb db nb gn gl :: NdB gn xb kb rb :: CoB xb lb tb cb mb db wb sb cfm (.slice none 0 0) false :: Se.TabB tb sv G) rfl (Res.tmp rfl) (Res.tmp rfl) (fun w h => h.split) ⟨⟨a, c, rfl⟩, rfl⟩)
theorem fconfig_spec (fb db nb gn gl : Nat) :
    Con Tryz.prog 24 #[ptr fb] [ClB fb db nb gn gl] fun v A => v = .agg cfv.toArray ∧ A = [ClB fb db nb gn gl] := by
  refine Con.intro (vs := [_]) Tryz.func24 rfl Tryz.ntmps24 rfl (fun B => ?_)
  repeat' (first | refine Cd.seq ?_ | refine Cd.reg ?_ | refine Ops.nil ?_ | refine Ops.mv rfl rfl rfl rfl ?_ | refine Ops.nilP rfl rfl rfl rfl ?_ | refine Ops.fa0 rfl rfl rfl rfl ?_ | refine Ops.ldN rfl rfl rfl rfl ?_ | refine Ops.alloc rfl rfl rfl (noPd rfl) (fun b => ?_) | refine Ops.stN rfl rfl rfl rfl rfl rfl (noPd rfl) ?_)
  exact Cd.ret (ret1 (A' := [ClB fb db nb gn gl]) rfl (Res.cellN rfl) (fun w h => h.split) ⟨rfl, rfl⟩)
theorem fis_spec (fb db nb gn gl : Nat) :
    Con Tryz.prog 138 #[ptr fb, .int .i64 2] [ClB fb db nb gn gl] fun v A => v = .bool true ∧ A = [ClB fb db nb gn gl] := by
  refine Con.intro (vs := [_, _]) Tryz.func138 rfl Tryz.ntmps138 rfl (fun B => ?_)
  repeat' (first | refine Cd.seq ?_ | refine Cd.reg ?_ | refine Ops.nil ?_ | refine Ops.mv rfl rfl rfl rfl ?_ | refine Ops.asg rfl rfl rfl rfl ?_ | refine Ops.nilP rfl rfl rfl rfl ?_ | refine Ops.fa0 rfl rfl rfl rfl ?_ | refine Ops.ld1 rfl rfl rfl rfl rfl ?_ | refine Ops.lenS rfl rfl rfl rfl ?_ | refine Ops.bin rfl rfl rfl rfl rfl ?_ | refine Ops.pickT rfl rfl rfl rfl rfl ?_)
  exact Cd.ret (ret1 (A' := [ClB fb db nb gn gl]) rfl (Res.tmp rfl) (fun w h => h.split) ⟨rfl, rfl⟩)
theorem fup_spec (fb db nb gn gl xb kb rb : Nat) :
    Con Tryz.prog 71 #[ptr fb, .int .i64 2] [ClB fb db nb gn gl, NdB gn xb kb rb] fun v A => v = .bool true ∧ A = [ClB fb db nb gn gl, NdB gn xb kb rb] := by
  refine Con.intro (vs := [_, _]) Tryz.func71 rfl Tryz.ntmps71 rfl (fun B => ?_)
  repeat' (first | refine Cd.seq ?_ | refine Cd.reg ?_ | refine Ops.mv rfl rfl rfl rfl ?_ | refine Ops.asg rfl rfl rfl rfl ?_)
  refine Ops.call (fis_spec fb db nb gn gl) rfl (noPd rfl) rfl rfl rfl (fun v A' hR => ?_)
  obtain ⟨rfl, rfl⟩ := hR
  repeat' (first | refine Ops.mv rfl rfl rfl rfl ?_ | refine Ops.nilP rfl rfl rfl rfl ?_ | refine Ops.fa0 rfl rfl rfl rfl ?_ | refine Ops.ld1 rfl rfl rfl rfl rfl ?_ | refine Ops.ixa0 rfl rfl rfl rfl (by omega) (by omega) rfl ?_)
  refine Ops.neqIfaceNil (h := ⟨Tryz.underlying51⟩) ⟨_, rfl⟩ rfl rfl rfl rfl ?_
  repeat' (first | refine Ops.nil ?_ | refine Ops.asg rfl rfl rfl rfl ?_ | refine Ops.pickT rfl rfl rfl rfl rfl ?_)
  exact Cd.ret (ret1 (A' := [ClB fb db nb gn gl, NdB gn xb kb rb]) rfl (Res.tmp rfl) (fun w h => h.split) ⟨rfl, rfl⟩)
theorem frunner_spec (fb db nb gn gl xb kb rb rc : Nat) :
    Con Tryz.prog 33 #[ptr fb, .int .i64 0] (ClB fb db nb gn gl :: NdB gn xb kb rb :: Run0 rb rc) fun v A => v = .tuple #[.agg look0.toArray, .bool true] ∧ A = ClB fb db nb gn gl :: NdB gn xb kb rb :: Run0 rb rc := by
  refine Con.intro (vs := [_, _]) Tryz.func33 rfl Tryz.ntmps33 rfl (fun B => ?_)
  repeat' (first | refine Cd.seq ?_ | refine Cd.reg ?_ | refine Ops.mv rfl rfl rfl rfl ?_ | refine Ops.asg rfl rfl rfl rfl ?_ | refine Ops.addI rfl rfl rfl rfl (by omega) (by omega) rfl ?_ | refine Ops.bin rfl rfl rfl rfl rfl ?_ | refine Ops.alloc rfl rfl rfl (noPd rfl) (fun b => ?_))
  refine Ops.call (fup_spec fb db nb gn gl xb kb rb) rfl (noPd rfl) rfl rfl rfl (fun v A' hR => ?_)
  obtain ⟨rfl, rfl⟩ := hR
  repeat' (first | refine Cd.seq ?_ | refine Cd.reg ?_ | refine Ops.nil ?_ | refine Ops.mv rfl rfl rfl rfl ?_ | refine Ops.nilP rfl rfl rfl rfl ?_ | refine Ops.fa0 rfl rfl rfl rfl ?_ | refine Ops.ld1 rfl rfl rfl rfl rfl ?_ | refine Ops.addI rfl rfl rfl rfl (by omega) (by omega) rfl ?_ | refine Ops.un rfl rfl rfl rfl ?_ | refine Ops.pickF rfl rfl rfl rfl rfl ?_ | refine Cd.condF rfl rfl ?_ | refine Cd.skip (Cd.next ?_) | refine Ops.ixa0 rfl rfl rfl rfl (by omega) (by omega) rfl ?_)
  refine Ops.tAss rfl rfl rfl rfl ?_
  repeat' (first | refine Cd.seq ?_ | refine Cd.reg ?_ | refine Ops.nil ?_ | refine Ops.mv rfl rfl rfl rfl ?_ | refine Ops.asg rfl rfl rfl rfl ?_ | refine Ops.fa0 rfl rfl rfl rfl ?_ | refine Ops.ld1 rfl rfl rfl rfl rfl ?_ | refine Ops.un rfl rfl rfl rfl ?_ | refine Ops.ext rfl rfl rfl rfl rfl ?_ | refine Ops.alloc rfl rfl rfl (noPd rfl) (fun b => ?_) | refine Ops.stN rfl rfl rfl rfl rfl rfl (noPd rfl) ?_ | refine Cd.condF rfl rfl ?_ | refine Cd.skip (Cd.next ?_))
  refine Ops.call (look_spec rb rc) rfl (noPd rfl) rfl rfl rfl (fun v A' hR => ?_)
  obtain ⟨rfl, rfl⟩ := hR
  repeat' (first | refine Ops.nil ?_ | refine Ops.asg rfl rfl rfl rfl ?_ | refine Ops.stN rfl rfl rfl rfl rfl rfl (noPd rfl) ?_)
  exact Cd.ret (ret2 (A' := ClB fb db nb gn gl :: NdB gn xb kb rb :: Run0 rb rc) rfl (Res.cellN rfl) (Res.tmp rfl) (fun w h => h.split) ⟨rfl, rfl⟩)
end Go.Proofs.YtkcmjgjfodipfaaGreat
namespace Go.Proofs.YtkcmjgjfodipfaaGreat
open Go Go.Sep Go.Proofs
set_option maxRecDepth 10000
set_option maxHeartbeats 40000000
set_option synthInstance.maxSize 2000
set_option linter.unusedSimpArgs false
set_option linter.unusedVariables false
/-! nothing is under way -/
theorem nall_spec (n : Nat) : Con Tryz.prog 73 #[ptr n] [] fun v A => ∃ b, v = .func (.func 150) #[] #[ptr b] ∧ A = [(b, cl [ptr n] 35)] := by
  refine Con.intro (vs := [_]) Tryz.func73 rfl Tryz.ntmps73 rfl (fun B => ?_)
  repeat' (first | refine Ops.mkF rfl rfl rfl rfl rfl ?_ | refine Cd.seq ?_ | refine Cd.reg ?_ | refine Ops.nil ?_ | refine Ops.asg rfl rfl rfl rfl ?_ | refine Ops.box rfl rfl rfl rfl (noPd rfl) (fun b => ?_))
  exact Cd.ret (ret1 rfl (Res.tmp rfl) (fun _ h => h) ⟨_, rfl, rfl⟩)
theorem dclone_nil : Con Tryz.prog 87 #[.slice none 0 0] [] fun v A => v = .slice none 0 0 ∧ A = [] := by
  refine Con.intro (vs := [_]) Tryz.func87 rfl Tryz.ntmps87 rfl (fun B => ?_)
  repeat' (first | refine Cd.seq ?_ | refine Cd.reg ?_ | refine Ops.nil ?_ | refine Ops.mv rfl rfl rfl rfl ?_ | refine Ops.asg rfl rfl rfl rfl ?_ | refine Ops.bin rfl rfl rfl rfl rfl ?_ | refine Cd.condT rfl rfl ?_)
  exact Cd.ret (ret1 rfl (Res.tmp rfl) (fun _ h => h) ⟨rfl, rfl⟩)
theorem dclip_nil : Con Tryz.prog 74 #[.slice none 0 0] [] fun v A => v = .slice none 0 0 ∧ A = [] := by
  refine Con.intro (vs := [_]) Tryz.func74 rfl Tryz.ntmps74 rfl (fun B => ?_)
  repeat' (first | refine Cd.seq ?_ | refine Cd.reg ?_ | refine Ops.mv rfl rfl rfl rfl ?_ | refine Ops.asg rfl rfl rfl rfl ?_ | refine Ops.lenS rfl rfl rfl rfl ?_)
  refine Ops.slHM rfl rfl rfl rfl rfl (by omega) (by omega) (by omega) rfl ?_
  repeat' (first | refine Ops.nil ?_ | refine Ops.asg rfl rfl rfl rfl ?_)
  exact Cd.ret (ret1 rfl (Res.tmp rfl) (fun w h => h) ⟨rfl, rfl⟩)
@[reducible] def encU (_ : Unit) : List Value := [.int .i64 0, .int .i64 0]
theorem nall_iter (n bx : Nat) :
    IterC Tryz.prog 150 [ptr bx] encU (fun _ => False) (fun xs => xs = []) [(bx, cl [ptr n] 35)] [Net0 n] := by
  intro B0 lp Y Z hG hY C hC
  obtain ⟨F, hp⟩ := hG C hC
  refine ConB.intro (vs := [.func (.yield lp) #[] #[], ptr bx]) Tryz.func150 rfl Tryz.ntmps150 rfl (fun B hx => ?_)
  refine Cd.blk (A' := (bx, cl [ptr n] 35) :: (Net0 n :: F)) ?_ (fun w hw => hw.perm (hp.cons _))
  repeat' (first | refine Cd.seq ?_ | refine Cd.reg ?_ | refine Ops.nilP rfl rfl rfl rfl ?_ | refine Ops.fa0 rfl rfl rfl rfl ?_ | refine Ops.ld1 rfl rfl rfl rfl rfl ?_)
  refine Ops.call dclone_nil rfl (noPd rfl) rfl rfl rfl (fun v A' hR => ?_)
  obtain ⟨rfl, rfl⟩ := hR
  repeat' (first | refine Ops.nil ?_ | refine Ops.mv rfl rfl rfl rfl ?_ | refine Ops.lenS rfl rfl rfl rfl ?_ | refine Cd.block ?_)
  refine Cd.loopK (fun _ : Unit => True) (fun _ => [(0, .func (.yield lp) #[] #[]), (9, .slice none 0 0), (10, .int .i64 0), (11, .int .i64 0)])
    (fun _ => (bx, cl [ptr n] 35) :: C) (fun _ => 0) () trivial ⟨rfl, rfl, rfl, rfl, trivial⟩
    (fun w hw => ((hw.split : Sat _ ((bx, cl [ptr n] 35) :: (Net0 n :: F)) w).perm ((hp.symm).cons _))) (fun _ _ => ?_)
  repeat' (first | refine Cd.seq ?_ | refine Cd.reg ?_ | refine Ops.bin rfl rfl rfl rfl rfl ?_ | refine Cd.condF rfl rfl ?_)
  exact Cd.exit (end0 (A' := [(bx, cl [ptr n] 35)] ++ C) rfl (fun w h => h.split) ⟨C, .inl ⟨_, rfl, hC⟩, rfl⟩)
theorem fbag_spec (fb db nb gn gl : Nat) :
    Con Tryz.prog 34 #[ptr fb] [ClB fb db nb gn gl, Net0 nb] fun v A => v = .slice none 0 0 ∧ A = [ClB fb db nb gn gl, Net0 nb] := by
  refine Con.intro (vs := [_]) Tryz.func34 rfl Tryz.ntmps34 rfl (fun B => ?_)
  repeat' (first | refine Cd.seq ?_ | refine Cd.reg ?_ | refine Ops.mv rfl rfl rfl rfl ?_ | refine Ops.asg rfl rfl rfl rfl ?_ | refine Ops.nilP rfl rfl rfl rfl ?_ | refine Ops.fa0 rfl rfl rfl rfl ?_ | refine Ops.ld1 rfl rfl rfl rfl rfl ?_ | refine Ops.alloc rfl rfl rfl (noPd rfl) (fun b => ?_))
  rename Nat => b3
  refine Ops.call (nall_spec nb) rfl (noPd rfl) rfl rfl rfl (fun v A' hR => ?_)
  obtain ⟨bA, rfl, rfl⟩ := hR
  repeat' (first | refine Ops.nil ?_ | refine Cd.block ?_)
  refine Cd.range (X := Unit) (C0 := [Net0 nb, (b3, cl [.slice none 0 0] 66), ClB fb db nb gn gl]) (nall_iter nb bA) rfl rfl (ps := [11, 12]) rfl (fun _ => rfl)
    (fun _ C => C = [Net0 nb, (b3, cl [.slice none 0 0] 66), ClB fb db nb gn gl])
    (fun _ _ _ => False)
    (fun _ _ _ _ => False)
    (fun w hw => (hw.split : Sat _ ([(bA, cl [ptr nb] 35)] ++ [Net0 nb, (b3, cl [.slice none 0 0] 66), ClB fb db nb gn gl]) w)) rfl (fun C hC => ⟨[(b3, cl [.slice none 0 0] 66), ClB fb db nb gn gl], by subst hC; exact List.Perm.refl _⟩) ?_ ?_ ?_ ?_
  · rintro B2 pre x C hx hok hC
    exact hok.elim
  · rintro lp r B2 pre x T C hro hlp hx hok h
    exact h.elim
  · rintro D xs C hD hdn rfl
    refine Cd.next (Q' := fun _ _ _ => True) ?_
    repeat' (first | refine Cd.seq ?_ | refine Cd.reg ?_ | refine Ops.ld1 rfl rfl rfl rfl rfl ?_)
    refine Ops.call dclip_nil rfl (noPd rfl) rfl rfl rfl (fun v A' hR => ?_)
    obtain ⟨rfl, rfl⟩ := hR
    repeat' (first | refine Ops.nil ?_ | refine Ops.asg rfl rfl rfl rfl ?_)
    exact Cd.ret (unmark (mark1 hD) (ret1 (A' := [ClB fb db nb gn gl, Net0 nb]) rfl (Res.tmp rfl) (fun w h => h.split) ⟨rfl, rfl⟩))
  · rintro D c pre C hD hZ
    exact hZ.elim
end Go.Proofs.YtkcmjgjfodipfaaGreat
