import Derived.Test.YtkcmjgjfodipfaaGreatA03
import Derived.Test.YtkcmjgjfodipfaaGreatA24
namespace Go.Proofs.YtkcmjgjfodipfaaGreat
open Go Go.Sep Go.Proofs
set_option maxRecDepth 10000
set_option maxHeartbeats 40000000
set_option synthInstance.maxSize 2000
set_option linter.unusedSimpArgs false
set_option linter.unusedVariables false
/-! a fleet at its beginning -/
instance : NoIf Tryz.prog 49 := ⟨⟨_, Tryz.underlying49, rfl⟩⟩
instance : NoIf Tryz.prog 55 := ⟨⟨_, Tryz.underlying55, rfl⟩⟩
instance : NoIf Tryz.prog 82 := ⟨⟨_, Tryz.underlying82, rfl⟩⟩
@[reducible] def ClB (kb db nb gn gl : Nat) : Blk := (kb, cl [.int .i64 1, .int .i64 40, .int .i64 2, .int .i64 2, .int .i64 2, .int .i64 8, .int .i64 4, .int .i64 4, .int .i64 160, ptr db, ptr nb, .slice (some ⟨gn, 0, none⟩) 3 3, .slice (some ⟨gl, 0, none⟩) 1 1, .slice none 0 0] 42)
@[reducible] def ClZ (kb nb gn gl : Nat) : Blk := (kb, cl [.int .i64 1, .int .i64 40, .int .i64 2, .int .i64 2, .int .i64 2, .int .i64 8, .int .i64 4, .int .i64 4, .int .i64 160, .pointer none, ptr nb, .slice (some ⟨gn, 0, none⟩) 3 3, .slice (some ⟨gl, 0, none⟩) 1 1, .slice none 0 0] 42)
@[reducible] def cnV (xb : Nat) : Value := .iface 49 (.agg #[ptr xb])
@[reducible] def snV (kb : Nat) : Value := .iface 55 (.agg #[ptr kb])
@[reducible] def rnV (rb : Nat) : Value := .iface 82 (.agg #[ptr rb, .int .i64 0, .int .i64 1])
@[reducible] def NdB (gn xb kb rb : Nat) : Blk := (gn, cl [cnV xb, snV kb, rnV rb] 51)
theorem starts_spec (fb db nb gn gl xb kb : Nat) :
    Con Tryz.prog 18 #[ptr fb, .int .i64 0] [ClB fb db nb gn gl, (gn, cl [cnV xb, snV kb, .nilIface] 51), (gl, cl [.int .i64 0] 3)] fun v A => ∃ rb cb, v = .int .i64 0 ∧ A = ClB fb db nb gn gl :: NdB gn xb kb rb :: (gl, cl [.int .i64 1] 3) :: Run0 rb cb := by
  refine Con.intro (vs := [_, _]) Tryz.func18 rfl Tryz.ntmps18 rfl (fun B => ?_)
  repeat' (first | refine Cd.seq ?_ | refine Cd.reg ?_ | refine Ops.asg rfl rfl rfl rfl ?_)
  refine Cd.draw [(0, 0, []), (1, 0, []), (2, 0, []), (3, 1, []), (4, 0, []), (5, 0, []), (6, 0, []), (7, 0, []), (8, 1, []), (9, 0, []), (10, 0, []), (11, 1, []), (12, 0, []), (13, 2, []), (14, 0, []), (15, 0, []), (16, 0, []), (17, 0, []), (18, 0, [])] (by kernel_rfl) (by kernel_rfl) (by simp only [picked, nth]; exact rfl) ?_
  repeat' (first | refine Ops.mv rfl rfl rfl rfl ?_ | refine Ops.nilP rfl rfl rfl rfl ?_ | refine Ops.fa0 rfl rfl rfl rfl ?_ | refine Ops.ld1 rfl rfl rfl rfl rfl ?_ | refine Ops.ldN rfl rfl rfl rfl ?_ | refine Ops.addI rfl rfl rfl rfl (by omega) (by omega) rfl ?_ | refine Ops.ixa0 rfl rfl rfl rfl (by omega) (by omega) rfl ?_)
  refine Ops.call rnew_spec rfl (by intro v A' hR i hi; obtain ⟨A2, hR, rfl⟩ := hR; obtain ⟨rb, cb, rfl, rfl⟩ := hR; (repeat (rcases List.mem_cons.1 hi with rfl | hi; · (first | exact Still.ld1 rfl rfl rfl rfl rfl | exact Still.ldN rfl rfl rfl rfl | exact Still.len rfl rfl rfl rfl rfl | exact Still.skip rfl rfl rfl | exact Still.ldRow1 rfl rfl rfl (by assumption) (by assumption) rfl rfl | exact Still.ldR rfl rfl rfl (by apply_assumption) rfl))); cases hi) rfl rfl rfl (fun v A' hR => ?_)
  obtain ⟨rb, cb, rfl, rfl⟩ := hR
  repeat' (first | refine Cd.seq ?_ | refine Cd.reg ?_ | refine Ops.nil ?_ | refine Ops.mv rfl rfl rfl rfl ?_ | refine Ops.asg rfl rfl rfl rfl ?_ | refine Ops.nilP rfl rfl rfl rfl ?_ | refine Ops.fa0 rfl rfl rfl rfl ?_ | refine Ops.ld1 rfl rfl rfl rfl rfl ?_ | refine Ops.addI rfl rfl rfl rfl (by omega) (by omega) rfl ?_ | refine Ops.bin rfl rfl rfl rfl rfl ?_ | refine Ops.ext rfl rfl rfl rfl rfl ?_ | refine Cd.condF rfl rfl ?_ | refine Cd.skip (Cd.next ?_) | refine Ops.ixa0 rfl rfl rfl rfl (by omega) (by omega) rfl ?_)
  rw [show Int.toNat 0 * 1 = 0 from rfl, show (0 : Int) + 1 = 1 from rfl]
  repeat' (first | refine Cd.seq ?_ | refine Ops.st1 rfl rfl rfl rfl rfl (noPd rfl) ?_)
  refine Cd.draw [(0, 0, []), (1, 0, []), (2, 0, []), (3, 1, []), (4, 0, []), (5, 0, []), (6, 0, []), (7, 0, []), (8, 0, []), (9, 0, []), (10, 0, []), (11, 1, []), (12, 0, []), (13, 0, []), (14, 1, []), (15, 0, []), (16, 0, []), (17, 0, []), (18, 2, [])] (by kernel_rfl) (by kernel_rfl) (by simp only [picked, nth]; exact rfl) ?_
  repeat' (first | refine Ops.mv rfl rfl rfl rfl ?_ | refine Ops.nilP rfl rfl rfl rfl ?_ | refine Ops.fa0 rfl rfl rfl rfl ?_ | refine Ops.ld1 rfl rfl rfl rfl rfl ?_ | refine Ops.addI rfl rfl rfl rfl (by omega) (by omega) rfl ?_ | refine Ops.bld rfl rfl rfl rfl ?_ | refine Ops.ixa0 rfl rfl rfl rfl (by omega) (by omega) rfl ?_)
  refine Ops.mkJ rfl rfl rfl rfl ?_
  repeat' (first | refine Ops.ixa0 rfl rfl rfl rfl (by omega) (by omega) rfl ?_)
  rw [show Int.toNat (2 + 0) * 1 = 2 from rfl]
  repeat' (first | refine Cd.seq ?_ | refine Cd.reg ?_ | refine Ops.nil ?_ | refine Ops.asg rfl rfl rfl rfl ?_ | refine Ops.st1 rfl rfl rfl rfl rfl (by first | exact noPd rfl | (intro v A' hR i hi; obtain rfl := hR; (repeat (rcases List.mem_cons.1 hi with rfl | hi; · (first | exact Still.ld1 rfl rfl rfl rfl rfl | exact Still.ldN rfl rfl rfl rfl | exact Still.len rfl rfl rfl rfl rfl | exact Still.skip rfl rfl rfl | exact Still.ldRow1 rfl rfl rfl (by assumption) (by assumption) rfl rfl | exact Still.ldR rfl rfl rfl (by apply_assumption) rfl))); cases hi)) ?_)
  exact Cd.ret (ret1 (A' := ClB fb db nb gn gl :: NdB gn xb kb rb :: (gl, cl [.int .i64 1] 3) :: Run0 rb cb) rfl (Res.tmp rfl) (fun _ h => h.split) ⟨rb, cb, rfl, rfl⟩)
/-- All that a fleet is made of. -/
@[reducible] def FlB (fb nb gn gl kb km rb rc xb lb lm tb cb mb db wb sb : Nat) (sv : Value) (G SD D : List Blk) : List Blk :=
  ClB fb db nb gn gl :: NdB gn xb kb rb :: (gl, cl [.int .i64 1] 3) :: Net0 nb :: (Sink0 kb km ++ (Run0 rb rc ++ CoN xb lb lm tb cb mb db wb sb cfm sv G SD D ⟨1, 0, 0, 0⟩))
def FlR (v : Value) (A : List Blk) : Prop := ∃ fb nb gn gl kb km rb rc xb lb lm tb cb mb db wb sb sv G SD D, v = .tuple #[ptr fb, .int .i64 0] ∧ A = FlB fb nb gn gl kb km rb rc xb lb lm tb cb mb db wb sb sv G SD D ∧ Se.OwnK sv (Se.fresh 1) G ∧ StA sb ⟨2, [], 0, [], []⟩ SD
theorem fnew_spec (B0 : Base) : ConB Tryz.prog B0 9 #[.agg cfv.toArray] [] FlR := by
  refine ConB.intro (vs := [_]) Tryz.func9 rfl Tryz.ntmps9 rfl (fun B hB => ?_)
  have hck : checkC cfm = 0 := if_pos cfm_ok
  repeat' (first | refine Cd.seq ?_ | refine Cd.reg ?_ | refine Ops.asg rfl rfl rfl rfl ?_ | refine Ops.ldN rfl rfl rfl rfl ?_ | refine Ops.box rfl rfl rfl rfl (noPd rfl) (fun b => ?_))
  rename Nat => bc
  refine Ops.call (ccheck_spec cfm) rfl (noPd rfl) rfl rfl rfl (fun v A' hR => ?_)
  rw [hck] at hR
  obtain ⟨rfl, rfl⟩ := hR
  generalize hc1 : Code.seq (Code.region 3 _ _) _ = c1
  repeat' (first | refine Ops.nil ?_ | refine Ops.bin rfl rfl rfl rfl rfl ?_ | refine Cd.condF rfl rfl ?_ | refine Cd.skip (Cd.next ?_))
  subst hc1
  refine Cd.cut (σ := Nat × Nat × Nat × Nat) (fun _ => True) (fun s => [(1, ptr bc), (4, ptr s.1)]) (fun s => [(bc, cl cfv 23), ClZ s.1 s.2.1 s.2.2.1 s.2.2.2, Net0 s.2.1, (s.2.2.1, cl [.nilIface, .nilIface, .nilIface] 51), (s.2.2.2, cl [.int .i64 0] 3)]) ?_ (fun s _ => ?_)
  · refine Cd.draw [(0, 1, []), (2, 0, []), (3, 1, []), (4, 0, []), (6, 0, []), (7, 1, []), (1, 4, [0, 3, 7]), (5, 4, [0, 7]), (8, 2, [0]), (9, 0, []), (10, 2, []), (11, 0, [])] (by kernel_rfl) (by kernel_rfl) (by simp only [picked, nth]; exact rfl) ?_
    repeat' (first | refine Ops.fa0 rfl rfl rfl rfl ?_ | refine Ops.ld1 rfl rfl rfl rfl rfl ?_ | refine Ops.ldN rfl rfl rfl rfl ?_ | refine Ops.addI rfl rfl rfl rfl (by omega) (by omega) rfl ?_)
    refine Ops.fork3 [(0, 1, []), (2, 0, []), (3, 1, []), (4, 0, []), (6, 0, []), (7, 1, []), (5, 4, [0, 7]), (1, 4, [0, 7]), (8, 2, [0]), (9, 0, []), (10, 2, []), (11, 0, [])] [(0, 1, []), (2, 0, []), (3, 1, []), (4, 0, []), (6, 0, []), (7, 1, []), (8, 4, [0, 3]), (1, 4, [0, 3]), (5, 2, [0]), (9, 0, []), (10, 2, []), (11, 0, [])] (by kernel_rfl) (by kernel_rfl) (by kernel_rfl) rfl (by simp only [picked, nth]; exact rfl) rfl (by simp only [picked, nth]; exact rfl) ?_ ?_ ?_
    · skip
      skip
      refine Ops.call nnew_spec rfl (by intro v A' hR i hi; obtain ⟨A2, hR, rfl⟩ := hR; obtain ⟨n, rfl, rfl⟩ := hR; (repeat (rcases List.mem_cons.1 hi with rfl | hi; · (first | exact Still.ld1 rfl rfl rfl rfl rfl | exact Still.ldN rfl rfl rfl rfl | exact Still.len rfl rfl rfl rfl rfl | exact Still.skip rfl rfl rfl | exact Still.ldRow1 rfl rfl rfl (by assumption) (by assumption) rfl rfl | exact Still.ldR rfl rfl rfl (by apply_assumption) rfl))); cases hi) rfl rfl rfl (fun v A' hR => ?_)
      obtain ⟨nb, rfl, rfl⟩ := hR
      skip
      refine Ops.fork' [(0, 1, []), (2, 0, []), (3, 1, []), (4, 0, []), (6, 0, []), (7, 1, []), (1, 4, [0, 3, 7]), (8, 4, [0, 3]), (5, 2, [0]), (9, 0, []), (10, 2, []), (11, 0, [])] (by kernel_rfl) rfl (by simp only [picked, nth]; exact rfl) ?_ ?_
      · skip
        skip
        refine Ops.mk1 rfl rfl rfl rfl (by decide) (by decide) (by decide) rfl (by first | exact noPd rfl | (intro v A' hR i hi; obtain ⟨b, rfl, rfl⟩ := hR; (repeat (rcases List.mem_cons.1 hi with rfl | hi; · (first | exact Still.ld1 rfl rfl rfl rfl rfl | exact Still.ldN rfl rfl rfl rfl | exact Still.len rfl rfl rfl rfl rfl | exact Still.skip rfl rfl rfl | exact Still.ldRow1 rfl rfl rfl (by assumption) (by assumption) rfl rfl | exact Still.ldR rfl rfl rfl (by apply_assumption) rfl))); cases hi)) (fun gn => ?_)
        skip
        refine Ops.mk1 rfl rfl rfl rfl (by decide) (by decide) (by decide) rfl (by first | exact noPd rfl | (intro v A' hR i hi; obtain ⟨b, rfl, rfl⟩ := hR; (repeat (rcases List.mem_cons.1 hi with rfl | hi; · (first | exact Still.ld1 rfl rfl rfl rfl rfl | exact Still.ldN rfl rfl rfl rfl | exact Still.len rfl rfl rfl rfl rfl | exact Still.skip rfl rfl rfl | exact Still.ldRow1 rfl rfl rfl (by assumption) (by assumption) rfl rfl | exact Still.ldR rfl rfl rfl (by apply_assumption) rfl))); cases hi)) (fun gl => ?_)
        repeat' (first | refine Ops.asg rfl rfl rfl rfl ?_ | refine Ops.bld rfl rfl rfl rfl ?_ | refine Ops.box rfl rfl rfl rfl (by first | exact noPd rfl | (intro v A' hR i hi; obtain ⟨b, rfl, rfl⟩ := hR; (repeat (rcases List.mem_cons.1 hi with rfl | hi; · (first | exact Still.ld1 rfl rfl rfl rfl rfl | exact Still.ldN rfl rfl rfl rfl | exact Still.len rfl rfl rfl rfl rfl | exact Still.skip rfl rfl rfl | exact Still.ldRow1 rfl rfl rfl (by assumption) (by assumption) rfl rfl | exact Still.ldR rfl rfl rfl (by apply_assumption) rfl))); cases hi)) (fun b => ?_))
        rename Nat => fb
        exact Ops.nilN (meet_end (Q := fun _ _ _ => True) (fb, nb, gn, gl) trivial ⟨rfl, rfl, trivial⟩ (fun w h => ((show Sat _ [ClZ fb nb gn gl, (gl, cl [.int .i64 0] 3), (gn, cl [.nilIface, .nilIface, .nilIface] 51), Net0 nb, (bc, cl cfv 23)] w from h).split : Sat _ [(bc, cl cfv 23), ClZ fb nb gn gl, Net0 nb, (gn, cl [.nilIface, .nilIface, .nilIface] 51), (gl, cl [.int .i64 0] 3)] w)))
      · skip
        skip
        refine Ops.mk1 rfl rfl rfl rfl (by decide) (by decide) (by decide) rfl (by first | exact noPd rfl | (intro v A' hR i hi; obtain ⟨b, rfl, rfl⟩ := hR; (repeat (rcases List.mem_cons.1 hi with rfl | hi; · (first | exact Still.ld1 rfl rfl rfl rfl rfl | exact Still.ldN rfl rfl rfl rfl | exact Still.len rfl rfl rfl rfl rfl | exact Still.skip rfl rfl rfl | exact Still.ldRow1 rfl rfl rfl (by assumption) (by assumption) rfl rfl | exact Still.ldR rfl rfl rfl (by apply_assumption) rfl))); cases hi)) (fun gl => ?_)
        skip
        refine Ops.mk1 rfl rfl rfl rfl (by decide) (by decide) (by decide) rfl (by first | exact noPd rfl | (intro v A' hR i hi; obtain ⟨b, rfl, rfl⟩ := hR; (repeat (rcases List.mem_cons.1 hi with rfl | hi; · (first | exact Still.ld1 rfl rfl rfl rfl rfl | exact Still.ldN rfl rfl rfl rfl | exact Still.len rfl rfl rfl rfl rfl | exact Still.skip rfl rfl rfl | exact Still.ldRow1 rfl rfl rfl (by assumption) (by assumption) rfl rfl | exact Still.ldR rfl rfl rfl (by apply_assumption) rfl))); cases hi)) (fun gn => ?_)
        repeat' (first | refine Ops.asg rfl rfl rfl rfl ?_ | refine Ops.bld rfl rfl rfl rfl ?_ | refine Ops.box rfl rfl rfl rfl (by first | exact noPd rfl | (intro v A' hR i hi; obtain ⟨b, rfl, rfl⟩ := hR; (repeat (rcases List.mem_cons.1 hi with rfl | hi; · (first | exact Still.ld1 rfl rfl rfl rfl rfl | exact Still.ldN rfl rfl rfl rfl | exact Still.len rfl rfl rfl rfl rfl | exact Still.skip rfl rfl rfl | exact Still.ldRow1 rfl rfl rfl (by assumption) (by assumption) rfl rfl | exact Still.ldR rfl rfl rfl (by apply_assumption) rfl))); cases hi)) (fun b => ?_))
        rename Nat => fb
        exact Ops.nilN (meet_end (Q := fun _ _ _ => True) (fb, nb, gn, gl) trivial ⟨rfl, rfl, trivial⟩ (fun w h => ((show Sat _ [ClZ fb nb gn gl, (gn, cl [.nilIface, .nilIface, .nilIface] 51), (gl, cl [.int .i64 0] 3), Net0 nb, (bc, cl cfv 23)] w from h).split : Sat _ [(bc, cl cfv 23), ClZ fb nb gn gl, Net0 nb, (gn, cl [.nilIface, .nilIface, .nilIface] 51), (gl, cl [.int .i64 0] 3)] w)))
    · skip
      skip
      refine Ops.mk1 rfl rfl rfl rfl (by decide) (by decide) (by decide) rfl (by first | exact noPd rfl | (intro v A' hR i hi; obtain ⟨b, rfl, rfl⟩ := hR; (repeat (rcases List.mem_cons.1 hi with rfl | hi; · (first | exact Still.ld1 rfl rfl rfl rfl rfl | exact Still.ldN rfl rfl rfl rfl | exact Still.len rfl rfl rfl rfl rfl | exact Still.skip rfl rfl rfl | exact Still.ldRow1 rfl rfl rfl (by assumption) (by assumption) rfl rfl | exact Still.ldR rfl rfl rfl (by apply_assumption) rfl))); cases hi)) (fun gn => ?_)
      skip
      refine Ops.fork' [(0, 1, []), (2, 0, []), (3, 1, []), (4, 0, []), (6, 0, []), (7, 1, []), (5, 4, [0, 7]), (8, 4, [0]), (1, 2, [0]), (9, 0, []), (10, 2, []), (11, 0, [])] (by kernel_rfl) rfl (by simp only [picked, nth]; exact rfl) ?_ ?_
      · skip
        skip
        refine Ops.call nnew_spec rfl (by intro v A' hR i hi; obtain ⟨A2, hR, rfl⟩ := hR; obtain ⟨n, rfl, rfl⟩ := hR; (repeat (rcases List.mem_cons.1 hi with rfl | hi; · (first | exact Still.ld1 rfl rfl rfl rfl rfl | exact Still.ldN rfl rfl rfl rfl | exact Still.len rfl rfl rfl rfl rfl | exact Still.skip rfl rfl rfl | exact Still.ldRow1 rfl rfl rfl (by assumption) (by assumption) rfl rfl | exact Still.ldR rfl rfl rfl (by apply_assumption) rfl))); cases hi) rfl rfl rfl (fun v A' hR => ?_)
        obtain ⟨nb, rfl, rfl⟩ := hR
        skip
        refine Ops.mk1 rfl rfl rfl rfl (by decide) (by decide) (by decide) rfl (by first | exact noPd rfl | (intro v A' hR i hi; obtain ⟨b, rfl, rfl⟩ := hR; (repeat (rcases List.mem_cons.1 hi with rfl | hi; · (first | exact Still.ld1 rfl rfl rfl rfl rfl | exact Still.ldN rfl rfl rfl rfl | exact Still.len rfl rfl rfl rfl rfl | exact Still.skip rfl rfl rfl | exact Still.ldRow1 rfl rfl rfl (by assumption) (by assumption) rfl rfl | exact Still.ldR rfl rfl rfl (by apply_assumption) rfl))); cases hi)) (fun gl => ?_)
        repeat' (first | refine Ops.asg rfl rfl rfl rfl ?_ | refine Ops.bld rfl rfl rfl rfl ?_ | refine Ops.box rfl rfl rfl rfl (by first | exact noPd rfl | (intro v A' hR i hi; obtain ⟨b, rfl, rfl⟩ := hR; (repeat (rcases List.mem_cons.1 hi with rfl | hi; · (first | exact Still.ld1 rfl rfl rfl rfl rfl | exact Still.ldN rfl rfl rfl rfl | exact Still.len rfl rfl rfl rfl rfl | exact Still.skip rfl rfl rfl | exact Still.ldRow1 rfl rfl rfl (by assumption) (by assumption) rfl rfl | exact Still.ldR rfl rfl rfl (by apply_assumption) rfl))); cases hi)) (fun b => ?_))
        rename Nat => fb
        exact Ops.nilN (meet_end (Q := fun _ _ _ => True) (fb, nb, gn, gl) trivial ⟨rfl, rfl, trivial⟩ (fun w h => ((show Sat _ [ClZ fb nb gn gl, (gl, cl [.int .i64 0] 3), Net0 nb, (gn, cl [.nilIface, .nilIface, .nilIface] 51), (bc, cl cfv 23)] w from h).split : Sat _ [(bc, cl cfv 23), ClZ fb nb gn gl, Net0 nb, (gn, cl [.nilIface, .nilIface, .nilIface] 51), (gl, cl [.int .i64 0] 3)] w)))
      · skip
        skip
        refine Ops.mk1 rfl rfl rfl rfl (by decide) (by decide) (by decide) rfl (by first | exact noPd rfl | (intro v A' hR i hi; obtain ⟨b, rfl, rfl⟩ := hR; (repeat (rcases List.mem_cons.1 hi with rfl | hi; · (first | exact Still.ld1 rfl rfl rfl rfl rfl | exact Still.ldN rfl rfl rfl rfl | exact Still.len rfl rfl rfl rfl rfl | exact Still.skip rfl rfl rfl | exact Still.ldRow1 rfl rfl rfl (by assumption) (by assumption) rfl rfl | exact Still.ldR rfl rfl rfl (by apply_assumption) rfl))); cases hi)) (fun gl => ?_)
        skip
        refine Ops.call nnew_spec rfl (by intro v A' hR i hi; obtain ⟨A2, hR, rfl⟩ := hR; obtain ⟨n, rfl, rfl⟩ := hR; (repeat (rcases List.mem_cons.1 hi with rfl | hi; · (first | exact Still.ld1 rfl rfl rfl rfl rfl | exact Still.ldN rfl rfl rfl rfl | exact Still.len rfl rfl rfl rfl rfl | exact Still.skip rfl rfl rfl | exact Still.ldRow1 rfl rfl rfl (by assumption) (by assumption) rfl rfl | exact Still.ldR rfl rfl rfl (by apply_assumption) rfl))); cases hi) rfl rfl rfl (fun v A' hR => ?_)
        obtain ⟨nb, rfl, rfl⟩ := hR
        repeat' (first | refine Ops.asg rfl rfl rfl rfl ?_ | refine Ops.bld rfl rfl rfl rfl ?_ | refine Ops.box rfl rfl rfl rfl (by first | exact noPd rfl | (intro v A' hR i hi; obtain ⟨b, rfl, rfl⟩ := hR; (repeat (rcases List.mem_cons.1 hi with rfl | hi; · (first | exact Still.ld1 rfl rfl rfl rfl rfl | exact Still.ldN rfl rfl rfl rfl | exact Still.len rfl rfl rfl rfl rfl | exact Still.skip rfl rfl rfl | exact Still.ldRow1 rfl rfl rfl (by assumption) (by assumption) rfl rfl | exact Still.ldR rfl rfl rfl (by apply_assumption) rfl))); cases hi)) (fun b => ?_))
        rename Nat => fb
        exact Ops.nilN (meet_end (Q := fun _ _ _ => True) (fb, nb, gn, gl) trivial ⟨rfl, rfl, trivial⟩ (fun w h => ((show Sat _ [ClZ fb nb gn gl, Net0 nb, (gl, cl [.int .i64 0] 3), (gn, cl [.nilIface, .nilIface, .nilIface] 51), (bc, cl cfv 23)] w from h).split : Sat _ [(bc, cl cfv 23), ClZ fb nb gn gl, Net0 nb, (gn, cl [.nilIface, .nilIface, .nilIface] 51), (gl, cl [.int .i64 0] 3)] w)))
    · skip
      skip
      refine Ops.mk1 rfl rfl rfl rfl (by decide) (by decide) (by decide) rfl (by first | exact noPd rfl | (intro v A' hR i hi; obtain ⟨b, rfl, rfl⟩ := hR; (repeat (rcases List.mem_cons.1 hi with rfl | hi; · (first | exact Still.ld1 rfl rfl rfl rfl rfl | exact Still.ldN rfl rfl rfl rfl | exact Still.len rfl rfl rfl rfl rfl | exact Still.skip rfl rfl rfl | exact Still.ldRow1 rfl rfl rfl (by assumption) (by assumption) rfl rfl | exact Still.ldR rfl rfl rfl (by apply_assumption) rfl))); cases hi)) (fun gl => ?_)
      skip
      refine Ops.fork' [(0, 1, []), (2, 0, []), (3, 1, []), (4, 0, []), (6, 0, []), (7, 1, []), (8, 4, [0, 3]), (5, 4, [0]), (1, 2, [0]), (9, 0, []), (10, 2, []), (11, 0, [])] (by kernel_rfl) rfl (by simp only [picked, nth]; exact rfl) ?_ ?_
      · skip
        skip
        refine Ops.call nnew_spec rfl (by intro v A' hR i hi; obtain ⟨A2, hR, rfl⟩ := hR; obtain ⟨n, rfl, rfl⟩ := hR; (repeat (rcases List.mem_cons.1 hi with rfl | hi; · (first | exact Still.ld1 rfl rfl rfl rfl rfl | exact Still.ldN rfl rfl rfl rfl | exact Still.len rfl rfl rfl rfl rfl | exact Still.skip rfl rfl rfl | exact Still.ldRow1 rfl rfl rfl (by assumption) (by assumption) rfl rfl | exact Still.ldR rfl rfl rfl (by apply_assumption) rfl))); cases hi) rfl rfl rfl (fun v A' hR => ?_)
        obtain ⟨nb, rfl, rfl⟩ := hR
        skip
        refine Ops.mk1 rfl rfl rfl rfl (by decide) (by decide) (by decide) rfl (by first | exact noPd rfl | (intro v A' hR i hi; obtain ⟨b, rfl, rfl⟩ := hR; (repeat (rcases List.mem_cons.1 hi with rfl | hi; · (first | exact Still.ld1 rfl rfl rfl rfl rfl | exact Still.ldN rfl rfl rfl rfl | exact Still.len rfl rfl rfl rfl rfl | exact Still.skip rfl rfl rfl | exact Still.ldRow1 rfl rfl rfl (by assumption) (by assumption) rfl rfl | exact Still.ldR rfl rfl rfl (by apply_assumption) rfl))); cases hi)) (fun gn => ?_)
        repeat' (first | refine Ops.asg rfl rfl rfl rfl ?_ | refine Ops.bld rfl rfl rfl rfl ?_ | refine Ops.box rfl rfl rfl rfl (by first | exact noPd rfl | (intro v A' hR i hi; obtain ⟨b, rfl, rfl⟩ := hR; (repeat (rcases List.mem_cons.1 hi with rfl | hi; · (first | exact Still.ld1 rfl rfl rfl rfl rfl | exact Still.ldN rfl rfl rfl rfl | exact Still.len rfl rfl rfl rfl rfl | exact Still.skip rfl rfl rfl | exact Still.ldRow1 rfl rfl rfl (by assumption) (by assumption) rfl rfl | exact Still.ldR rfl rfl rfl (by apply_assumption) rfl))); cases hi)) (fun b => ?_))
        rename Nat => fb
        exact Ops.nilN (meet_end (Q := fun _ _ _ => True) (fb, nb, gn, gl) trivial ⟨rfl, rfl, trivial⟩ (fun w h => ((show Sat _ [ClZ fb nb gn gl, (gn, cl [.nilIface, .nilIface, .nilIface] 51), Net0 nb, (gl, cl [.int .i64 0] 3), (bc, cl cfv 23)] w from h).split : Sat _ [(bc, cl cfv 23), ClZ fb nb gn gl, Net0 nb, (gn, cl [.nilIface, .nilIface, .nilIface] 51), (gl, cl [.int .i64 0] 3)] w)))
      · skip
        skip
        refine Ops.mk1 rfl rfl rfl rfl (by decide) (by decide) (by decide) rfl (by first | exact noPd rfl | (intro v A' hR i hi; obtain ⟨b, rfl, rfl⟩ := hR; (repeat (rcases List.mem_cons.1 hi with rfl | hi; · (first | exact Still.ld1 rfl rfl rfl rfl rfl | exact Still.ldN rfl rfl rfl rfl | exact Still.len rfl rfl rfl rfl rfl | exact Still.skip rfl rfl rfl | exact Still.ldRow1 rfl rfl rfl (by assumption) (by assumption) rfl rfl | exact Still.ldR rfl rfl rfl (by apply_assumption) rfl))); cases hi)) (fun gn => ?_)
        skip
        refine Ops.call nnew_spec rfl (by intro v A' hR i hi; obtain ⟨A2, hR, rfl⟩ := hR; obtain ⟨n, rfl, rfl⟩ := hR; (repeat (rcases List.mem_cons.1 hi with rfl | hi; · (first | exact Still.ld1 rfl rfl rfl rfl rfl | exact Still.ldN rfl rfl rfl rfl | exact Still.len rfl rfl rfl rfl rfl | exact Still.skip rfl rfl rfl | exact Still.ldRow1 rfl rfl rfl (by assumption) (by assumption) rfl rfl | exact Still.ldR rfl rfl rfl (by apply_assumption) rfl))); cases hi) rfl rfl rfl (fun v A' hR => ?_)
        obtain ⟨nb, rfl, rfl⟩ := hR
        repeat' (first | refine Ops.asg rfl rfl rfl rfl ?_ | refine Ops.bld rfl rfl rfl rfl ?_ | refine Ops.box rfl rfl rfl rfl (by first | exact noPd rfl | (intro v A' hR i hi; obtain ⟨b, rfl, rfl⟩ := hR; (repeat (rcases List.mem_cons.1 hi with rfl | hi; · (first | exact Still.ld1 rfl rfl rfl rfl rfl | exact Still.ldN rfl rfl rfl rfl | exact Still.len rfl rfl rfl rfl rfl | exact Still.skip rfl rfl rfl | exact Still.ldRow1 rfl rfl rfl (by assumption) (by assumption) rfl rfl | exact Still.ldR rfl rfl rfl (by apply_assumption) rfl))); cases hi)) (fun b => ?_))
        rename Nat => fb
        exact Ops.nilN (meet_end (Q := fun _ _ _ => True) (fb, nb, gn, gl) trivial ⟨rfl, rfl, trivial⟩ (fun w h => ((show Sat _ [ClZ fb nb gn gl, Net0 nb, (gn, cl [.nilIface, .nilIface, .nilIface] 51), (gl, cl [.int .i64 0] 3), (bc, cl cfv 23)] w from h).split : Sat _ [(bc, cl cfv 23), ClZ fb nb gn gl, Net0 nb, (gn, cl [.nilIface, .nilIface, .nilIface] 51), (gl, cl [.int .i64 0] 3)] w)))
  · obtain ⟨fb, nb, gn, gl⟩ := s
    dsimp only
    repeat' (first | refine Cd.seq ?_ | refine Cd.reg ?_ | refine Ops.mv rfl rfl rfl rfl ?_ | refine Ops.fa0 rfl rfl rfl rfl ?_ | refine Ops.ld1 rfl rfl rfl rfl rfl ?_ | refine Ops.addI rfl rfl rfl rfl (by omega) (by omega) rfl ?_ | refine Ops.mulI rfl rfl rfl rfl (by omega) (by omega) rfl ?_)
    refine Ops.call (dnew_spec 322 (by decide) (by decide)) rfl (noPd rfl) rfl rfl rfl (fun v A' hR => ?_)
    obtain ⟨db, rfl, hD⟩ := hR
    rename List Blk => D
    have hD0 : DkA db dk0 0 D := ⟨hD, by show (List.replicate 322 zs).length ≤ 1026; simp, by decide, by decide, by decide, by decide, by decide⟩
    clear hD
    repeat' (first | refine Cd.seq ?_ | refine Ops.mv rfl rfl rfl rfl ?_ | refine Ops.nilP rfl rfl rfl rfl ?_ | refine Ops.fa0 rfl rfl rfl rfl ?_ | refine Ops.ext rfl rfl rfl rfl rfl ?_ | refine Ops.st1 rfl rfl rfl rfl rfl (noPd rfl) ?_)
    refine Cd.draw [(0, 1, []), (1, 0, []), (2, 0, []), (3, 0, []), (4, 1, []), (5, 2, []), (6, 0, []), (7, 0, []), (8, 0, []), (9, 0, []), (10, 0, [])] (by kernel_rfl) (by kernel_rfl) (by simp only [picked, nth]; exact rfl) ?_
    repeat' (first | refine Ops.mv rfl rfl rfl rfl ?_ | refine Ops.nilP rfl rfl rfl rfl ?_ | refine Ops.fa0 rfl rfl rfl rfl ?_ | refine Ops.ld1 rfl rfl rfl rfl rfl ?_ | refine Ops.ldN rfl rfl rfl rfl ?_ | fail)
    refine Ops.callB (new_new B0 cfm cfm_ok db dk0 dk1 0 D hD0 (by decide) (by rw [dk0_calm.len]; decide) format0 (by rw [dk1_calm.1.len]; decide) ⟨1, 0, 0, 0⟩ open1) hB rfl (noPd rfl) rfl rfl rfl (fun v A' hR => ?_)
    obtain ⟨D1, hD1, xb, lb, lm, tb, cb, mb, wb, sb, sv, G, SD, rfl, rfl, hO, hS⟩ := hR
    clear hD0
    repeat' (first | refine Cd.seq ?_ | refine Cd.reg ?_ | refine Ops.nil ?_ | refine Ops.mv rfl rfl rfl rfl ?_ | refine Ops.asg rfl rfl rfl rfl ?_ | refine Ops.nilP rfl rfl rfl rfl ?_ | refine Ops.fa0 rfl rfl rfl rfl ?_ | refine Ops.ld1 rfl rfl rfl rfl rfl ?_ | refine Ops.ext rfl rfl rfl rfl rfl ?_ | refine Ops.bld rfl rfl rfl rfl ?_ | fail)
    refine Ops.mkJ rfl rfl rfl rfl ?_
    repeat' (first | refine Ops.ixa0 rfl rfl rfl rfl (by omega) (by omega) rfl ?_)
    rw [show Int.toNat 0 * 1 = 0 from rfl]
    repeat' (first | refine Cd.seq ?_ | refine Ops.st1 rfl rfl rfl rfl rfl (noPd rfl) ?_)
    refine Cd.draw [(0, 0, []), (1, 0, []), (2, 0, []), (3, 1, []), (4, 2, [3]), (5, 0, []), (6, 0, []), (7, 0, []), (8, 2, [])] (by kernel_rfl) (by kernel_rfl) (by simp only [picked, nth]; exact rfl) ?_
    repeat' (first | refine Ops.mv rfl rfl rfl rfl ?_ | refine Ops.nilP rfl rfl rfl rfl ?_ | refine Ops.fa0 rfl rfl rfl rfl ?_ | refine Ops.ld1 rfl rfl rfl rfl rfl ?_)
    refine Ops.call knew_spec rfl (by intro v A' hR i hi; obtain ⟨A2, hR, rfl⟩ := hR; obtain ⟨n, m, rfl, rfl⟩ := hR; (repeat (rcases List.mem_cons.1 hi with rfl | hi; · (first | exact Still.ld1 rfl rfl rfl rfl rfl | exact Still.ldN rfl rfl rfl rfl | exact Still.len rfl rfl rfl rfl rfl | exact Still.skip rfl rfl rfl | exact Still.ldRow1 rfl rfl rfl (by assumption) (by assumption) rfl rfl | exact Still.ldR rfl rfl rfl (by apply_assumption) rfl))); cases hi) rfl rfl rfl (fun v A' hR => ?_)
    obtain ⟨kb, km, rfl, rfl⟩ := hR
    repeat' (first | refine Ops.bld rfl rfl rfl rfl ?_ | fail)
    refine Ops.mkJ rfl rfl rfl rfl ?_
    repeat' (first | refine Ops.ixa0 rfl rfl rfl rfl (by omega) (by omega) rfl ?_)
    rw [show Int.toNat 1 * 1 = 1 from rfl]
    repeat' (first | refine Cd.seq ?_ | refine Cd.reg ?_ | refine Ops.nil ?_ | refine Ops.mv rfl rfl rfl rfl ?_ | refine Ops.fa0 rfl rfl rfl rfl ?_ | refine Ops.ld1 rfl rfl rfl rfl rfl ?_ | refine Ops.st1 rfl rfl rfl rfl rfl (by first | exact noPd rfl | (intro v A' hR i hi; obtain rfl := hR; (repeat (rcases List.mem_cons.1 hi with rfl | hi; · (first | exact Still.ld1 rfl rfl rfl rfl rfl | exact Still.ldN rfl rfl rfl rfl | exact Still.len rfl rfl rfl rfl rfl | exact Still.skip rfl rfl rfl | exact Still.ldRow1 rfl rfl rfl (by assumption) (by assumption) rfl rfl | exact Still.ldR rfl rfl rfl (by apply_assumption) rfl))); cases hi)) ?_ | refine Cd.block ?_)
    refine Cd.loopK (σ := Option (Nat × Nat)) (fun _ => True) (fun s => match s with | none => [(4, ptr fb), (59, .int .i64 1), (60, .int .i64 0)] | some _ => [(4, ptr fb), (59, .int .i64 1), (60, .int .i64 (0 + 1))])
      (fun s => match s with | none => ClB fb db nb gn gl :: (gn, cl [cnV xb, snV kb, .nilIface] 51) :: (gl, cl [.int .i64 0] 3) :: Net0 nb :: (Sink0 kb km ++ CoN xb lb lm tb cb mb db wb sb cfm sv G SD D1 ⟨1, 0, 0, 0⟩) | some (rb, rc) => FlB fb nb gn gl kb km rb rc xb lb lm tb cb mb db wb sb sv G SD D1)
      (fun s => match s with | none => 1 | some _ => 0) none trivial ⟨rfl, rfl, rfl, trivial⟩ (fun w h => h.split) (fun s _ => ?_)
    rcases s with _ | ⟨rb, rc⟩
    · dsimp only
      repeat' (first | refine Cd.seq ?_ | refine Cd.reg ?_ | refine Ops.mv rfl rfl rfl rfl ?_ | refine Ops.asg rfl rfl rfl rfl ?_ | refine Ops.bin rfl rfl rfl rfl rfl ?_ | refine Cd.condT rfl rfl ?_ | refine Cd.block ?_ | refine Cd.skip (Cd.next ?_))
      refine Ops.call (starts_spec fb db nb gn gl xb kb) rfl (noPd rfl) rfl rfl rfl (fun v A' hR => ?_)
      obtain ⟨rb, rc, rfl, rfl⟩ := hR
      repeat' (first | refine Ops.nilN (inB (Cd.next ?_)) | refine Cd.reg ?_ | refine Ops.mv rfl rfl rfl rfl ?_ | refine Ops.addI rfl rfl rfl rfl (by omega) (by omega) rfl ?_)
      exact Ops.nilN (round_end (some (rb, rc)) trivial Nat.zero_lt_one ⟨rfl, rfl, rfl, trivial⟩ (fun w h => h.split))
    · dsimp only
      repeat' (first | refine Cd.seq ?_ | refine Cd.reg ?_ | refine Ops.mv rfl rfl rfl rfl ?_ | refine Ops.nilP rfl rfl rfl rfl ?_ | refine Ops.fa0 rfl rfl rfl rfl ?_ | refine Ops.ld1 rfl rfl rfl rfl rfl ?_ | refine Ops.bin rfl rfl rfl rfl rfl ?_ | refine Cd.condF rfl rfl ?_ | refine Cd.exit (Cd.next (Q' := fun _ _ _ => True) ?_))
      refine Ops.call (dforget_spec db dk1 (0 + 1) D1 hD1) rfl (noPd rfl) rfl rfl rfl (fun v A' hR => ?_)
      repeat' (first | refine Cd.seq ?_ | refine Cd.reg ?_ | refine Ops.nil ?_ | refine Ops.mv rfl rfl rfl rfl ?_ | refine Ops.asg rfl rfl rfl rfl ?_)
      exact Cd.ret (ret2 (A' := FlB fb nb gn gl kb km rb rc xb lb lm tb cb mb db wb sb sv G SD A') rfl (Res.tmp rfl) (Res.tmp rfl) (fun _ h => h.split) ⟨fb, nb, gn, gl, kb, km, rb, rc, xb, lb, lm, tb, cb, mb, db, wb, sb, sv, G, SD, A', rfl, rfl, hO, hS⟩)
end Go.Proofs.YtkcmjgjfodipfaaGreat
