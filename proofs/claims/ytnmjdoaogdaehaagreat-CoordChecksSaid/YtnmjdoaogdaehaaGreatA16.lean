import Derived.Test.YtnmjdoaogdaehaaGreatA15
namespace Go.Proofs.YtnmjdoaogdaehaaGreat
open Go Go.Sep Go.Proofs
set_option maxRecDepth 10000
set_option maxHeartbeats 4000000
set_option synthInstance.maxSize 2000
set_option linter.unusedSimpArgs false
set_option linter.unusedVariables false
/-! noughts -/
theorem mul64_spec : Con Tryz.prog 225 #[.int .u64 1, .int .u64 103] [] fun v A => v = .tuple #[.int .u64 0, .int .u64 103] ∧ A = [] := by
  refine Con.intro (vs := [_, _]) Tryz.func225 rfl Tryz.ntmps225 rfl (fun B => ?_)
  repeat' (first | refine Cd.seq ?_ | refine Cd.reg ?_ | refine Ops.mv rfl rfl rfl rfl ?_ | refine Ops.asg rfl rfl rfl rfl ?_ | refine Ops.bin rfl rfl rfl rfl rfl ?_ | fail)
  refine Ops.shrI rfl rfl rfl rfl (by decide) rfl ?_
  repeat' (first | refine Cd.seq ?_ | refine Cd.reg ?_ | refine Ops.mv rfl rfl rfl rfl ?_ | refine Ops.asg rfl rfl rfl rfl ?_ | refine Ops.bin rfl rfl rfl rfl rfl ?_ | fail)
  refine Ops.shrI rfl rfl rfl rfl (by decide) rfl ?_
  repeat' (first | refine Cd.seq ?_ | refine Cd.reg ?_ | refine Ops.mv rfl rfl rfl rfl ?_ | refine Ops.asg rfl rfl rfl rfl ?_ | refine Ops.bin rfl rfl rfl rfl rfl ?_ | fail)
  refine Ops.shrI rfl rfl rfl rfl (by decide) rfl ?_
  repeat' (first | refine Cd.seq ?_ | refine Cd.reg ?_ | refine Ops.mv rfl rfl rfl rfl ?_ | refine Ops.asg rfl rfl rfl rfl ?_ | refine Ops.bin rfl rfl rfl rfl rfl ?_ | fail)
  refine Ops.shrI rfl rfl rfl rfl (by decide) rfl ?_
  repeat' (first | refine Cd.seq ?_ | refine Cd.reg ?_ | refine Ops.mv rfl rfl rfl rfl ?_ | refine Ops.asg rfl rfl rfl rfl ?_ | refine Ops.bin rfl rfl rfl rfl rfl ?_ | fail)
  refine Ops.shrI rfl rfl rfl rfl (by decide) rfl ?_
  repeat' (first | refine Cd.seq ?_ | refine Cd.reg ?_ | refine Ops.nil ?_ | refine Ops.mv rfl rfl rfl rfl ?_ | refine Ops.asg rfl rfl rfl rfl ?_ | refine Ops.bin rfl rfl rfl rfl rfl ?_ | fail)
  exact Cd.ret (ret2 (A' := []) rfl (Res.tmp rfl) (Res.tmp rfl) (fun _ h => h.split) ⟨by rfl, rfl⟩)
theorem mul_spec : Con Tryz.prog 192 #[.int .u64 1, .int .u64 103] [] fun v A => v = .tuple #[.int .u64 0, .int .u64 103] ∧ A = [] := by
  refine Con.intro (vs := [_, _]) Tryz.func192 rfl Tryz.ntmps192 rfl (fun B => ?_)
  repeat' (first | refine Cd.seq ?_ | refine Cd.reg ?_ | refine Ops.mv rfl rfl rfl rfl ?_ | refine Ops.asg rfl rfl rfl rfl ?_ | refine Cd.condF rfl rfl ?_ | refine Cd.skip (Cd.next ?_))
  refine Ops.call mul64_spec rfl (noPd rfl) rfl rfl rfl (fun v A' hR => ?_)
  obtain ⟨rfl, rfl⟩ := hR
  repeat' (first | refine Cd.seq ?_ | refine Cd.reg ?_ | refine Ops.nil ?_ | refine Ops.mv rfl rfl rfl rfl ?_ | refine Ops.asg rfl rfl rfl rfl ?_ | refine Ops.ext rfl rfl rfl rfl rfl ?_)
  exact Cd.ret (ret2 (A' := []) rfl (Res.tmp rfl) (Res.tmp rfl) (fun _ h => h.split) ⟨rfl, rfl⟩)
def zB (n : Nat) : ByteArray := ⟨Array.replicate n 0⟩
theorem zB_size (n : Nat) : (zB n).size = n := by show (Array.replicate n 0).size = n; simp
theorem zB_cut {n k : Nat} (h : k ≤ n) : (zB n).extract 0 k = zB k := by
  apply ByteArray.ext
  rw [ByteArray.data_extract]
  simp [zB, Nat.min_eq_left h]
theorem zB_app (n k : Nat) : zB n ++ zB k = zB (n + k) := by
  apply ByteArray.ext
  rw [ByteArray.data_append]
  simp [zB]
structure RpS where
  m : Nat
  D : List Blk
theorem repeat_spec (s : ByteArray) (hs : s = zB 1) : Con Tryz.prog 131 #[.string s, .int .i64 103] [] fun v A => v = .string (zB 103) ∧ A = [] := by
  have hsz : s.size = 1 := by rw [hs, zB_size]
  have hg : s[(0 : Int).toNat]? = some 0 := by subst hs; decide
  refine Con.intro (vs := [_, _]) Tryz.func131 rfl Tryz.ntmps131 rfl (fun B => ?_)
  repeat' (first | refine Cd.seq ?_ | refine Cd.reg ?_ | refine Ops.nil ?_ | refine Ops.mv rfl rfl rfl rfl ?_ | refine Ops.asg rfl rfl rfl rfl ?_ | refine Ops.lenStr rfl rfl rfl rfl ?_ | refine Ops.bin rfl rfl rfl rfl rfl ?_ | refine Cd.condF rfl rfl ?_ | refine Cd.block ?_ | refine Cd.skip (Cd.next ?_) | refine Cd.skip (Cd.next (Q' := fun _ _ _ => True) ?_))
  refine Ops.cvI rfl rfl rfl rfl ?_
  rw [hsz, show IntKind.wrap .u64 ((1 : Nat) : Int) = 1 from by decide]
  repeat' (first | refine Ops.mv rfl rfl rfl rfl ?_)
  refine Ops.cvI rfl rfl rfl rfl ?_
  rw [show IntKind.wrap .u64 (103 : Int) = 103 from by decide]
  refine Ops.call mul_spec rfl (noPd rfl) rfl rfl rfl (fun v A' hR => ?_)
  obtain ⟨rfl, rfl⟩ := hR
  repeat' (first | refine Cd.seq ?_ | refine Cd.reg ?_ | refine Ops.nil ?_ | refine Ops.mv rfl rfl rfl rfl ?_ | refine Ops.asg rfl rfl rfl rfl ?_ | refine Ops.bin rfl rfl rfl rfl rfl ?_ | refine Ops.pickF rfl rfl rfl rfl rfl ?_ | refine Ops.ext rfl rfl rfl rfl rfl ?_ | refine Cd.condF rfl rfl ?_ | refine Cd.skip (Cd.next ?_))
  refine Ops.cvI rfl rfl rfl rfl ?_
  rw [show IntKind.wrap .i64 (103 : Int) = 103 from by decide]
  repeat' (first | refine Cd.seq ?_ | refine Cd.reg ?_ | refine Ops.nil ?_ | refine Ops.mv rfl rfl rfl rfl ?_ | refine Ops.asg rfl rfl rfl rfl ?_ | refine Ops.lenStr rfl rfl rfl rfl ?_ | refine Ops.bin rfl rfl rfl rfl rfl ?_ | refine Cd.skip (Cd.next ?_) | refine Cd.condF rfl (by first | rfl | assumption | (simp only [decide_eq_true_eq, decide_eq_false_iff_not, Bool.not_eq_true', Bool.not_eq_false', Bool.not_eq_eq_eq_not, Bool.not_true, Bool.not_false, beq_iff_eq, beq_eq_false_iff_ne, ne_eq, decide_eq_decide, eq_self, true_iff, iff_true, not_true_eq_false, not_false_eq_true]; first | done | omega)) ?_)
  rw [hsz]
  skip
  refine Ops.ixS rfl rfl rfl rfl (by decide) hg rfl ?_
  rw [show ((0 : UInt8).toNat : Int) = 0 from rfl]
  repeat' (first | refine Cd.seq ?_ | refine Cd.reg ?_ | refine Ops.nil ?_ | refine Ops.mv rfl rfl rfl rfl ?_ | refine Ops.asg rfl rfl rfl rfl ?_ | refine Ops.bin rfl rfl rfl rfl rfl ?_ | refine Ops.alloc rfl rfl rfl (noPd rfl) (fun b => ?_) | refine Cd.condF rfl rfl ?_ | refine Cd.block ?_ | refine Cd.skip (Cd.next ?_) | refine Cd.skip (Cd.next (Q' := fun _ _ _ => True) ?_))
  rename Nat => bb
  refine Ops.call (bgrow_spec bb 103 (by decide) (by decide)) rfl (noPd rfl) rfl rfl rfl (fun v A' hR => ?_)
  repeat' (first | refine Cd.seq ?_ | refine Cd.reg ?_ | refine Ops.mv rfl rfl rfl rfl ?_)
  refine Ops.call (bwrite_spec bb .empty s _ hR (by rw [hsz]; decide)) rfl (noPd rfl) rfl rfl rfl (fun v A' hR => ?_)
  rw [ByteArray.empty_append, hs] at hR
  repeat' (first | refine Cd.seq ?_ | refine Cd.block ?_)
  refine Cd.loopK (σ := RpS) (fun t => 1 ≤ t.m ∧ t.m ≤ 103 ∧ BuA bb (zB t.m) t.D) (fun t => [(7, .int .i64 103), (8, .int .i64 103), (9, ptr bb)]) (fun t => t.D) (fun t => 103 - t.m) ⟨1, _⟩ ⟨Nat.le_refl _, (by decide : (1 : Nat) ≤ 103), hR⟩ ⟨rfl, rfl, rfl, trivial⟩ (fun w h => h.split) (fun t ht => ?_)
  obtain ⟨k, D⟩ := t
  obtain ⟨h1, h2, hD⟩ := ht
  dsimp only at h1 h2 hD ⊢
  have hk := zB_size k
  by_cases hlt : k < 103
  · have hlt' : (((zB k).size : Nat) : Int) < 103 := by omega
    repeat' (first | refine Cd.seq ?_ | refine Cd.reg ?_)
    refine Ops.call (blen_spec bb (zB k) _ hD) rfl (noPd rfl) rfl rfl rfl (fun v A' hR => ?_)
    obtain ⟨rfl, rfl⟩ := hR
    repeat' (first | refine Cd.seq ?_ | refine Cd.reg ?_ | refine Ops.nil ?_ | refine Ops.mv rfl rfl rfl rfl ?_ | refine Ops.bin rfl rfl rfl rfl rfl ?_ | refine Cd.block ?_ | refine Cd.skip (Cd.next ?_) | refine Cd.condT rfl (by first | rfl | assumption | (simp only [decide_eq_true_eq, decide_eq_false_iff_not, Bool.not_eq_true', Bool.not_eq_false', Bool.not_eq_eq_eq_not, Bool.not_true, Bool.not_false, beq_iff_eq, beq_eq_false_iff_ne, ne_eq, decide_eq_decide, eq_self, true_iff, iff_true, not_true_eq_false, not_false_eq_true]; first | done | omega)) ?_)
    refine Ops.call (blen_spec bb (zB k) _ hD) rfl (noPd rfl) rfl rfl rfl (fun v A' hR => ?_)
    obtain ⟨rfl, rfl⟩ := hR
    repeat' (first | refine Ops.subI rfl rfl rfl rfl (by omega) (by omega) rfl ?_)
    refine Ops.call (blen_spec bb (zB k) _ hD) rfl (noPd rfl) rfl rfl rfl (fun v A' hR => ?_)
    obtain ⟨rfl, rfl⟩ := hR
    repeat' (first | refine Ops.mv rfl rfl rfl rfl ?_)
    refine Ops.min3 rfl rfl rfl rfl rfl rfl ?_
    repeat' (first | refine Cd.reg ?_ | refine Ops.asg rfl rfl rfl rfl ?_)
    refine Ops.call (bstring_spec bb (zB k) _ hD (by omega)) rfl (noPd rfl) rfl rfl rfl (fun v A' hR => ?_)
    obtain ⟨rfl, hD2⟩ := hR
    have hcut : ((min (min ((103 : Int) - (((zB k).size : Nat) : Int)) (((zB k).size : Nat) : Int)) 103).toNat) = min (103 - k) k := by rw [hk]; omega
    repeat' (first | refine Ops.mv rfl rfl rfl rfl ?_)
    refine Ops.slSHi rfl rfl rfl rfl (by omega) (by omega) rfl ?_
    rw [hcut, zB_cut (by omega)]
    refine Ops.call (bwrite_spec bb (zB k) (zB (min (103 - k) k)) _ hD2 (by rw [zB_size, zB_size]; omega)) rfl (noPd rfl) rfl rfl rfl (fun v A' hR => ?_)
    rw [zB_app] at hR
    exact Ops.nilN (inB (round_end (⟨k + min (103 - k) k, _⟩ : RpS) ⟨by show 1 ≤ k + _; omega, by show k + min (103 - k) k ≤ 103; omega, hR⟩ (by show 103 - (k + min (103 - k) k) < 103 - k; omega) ⟨rfl, rfl, rfl, trivial⟩ (fun w h => h.split)))
  · have hke : k = 103 := by omega
    have hlt' : ¬ (((zB k).size : Nat) : Int) < 103 := by omega
    repeat' (first | refine Cd.seq ?_ | refine Cd.reg ?_)
    refine Ops.call (blen_spec bb (zB k) _ hD) rfl (noPd rfl) rfl rfl rfl (fun v A' hR => ?_)
    obtain ⟨rfl, rfl⟩ := hR
    repeat' (first | refine Cd.seq ?_ | refine Cd.reg ?_ | refine Ops.nil ?_ | refine Ops.mv rfl rfl rfl rfl ?_ | refine Ops.bin rfl rfl rfl rfl rfl ?_ | refine Cd.exit (Cd.next (Q' := fun _ _ _ => True) ?_) | refine Cd.condF rfl (by first | rfl | assumption | (simp only [decide_eq_true_eq, decide_eq_false_iff_not, Bool.not_eq_true', Bool.not_eq_false', Bool.not_eq_eq_eq_not, Bool.not_true, Bool.not_false, beq_iff_eq, beq_eq_false_iff_ne, ne_eq, decide_eq_decide, eq_self, true_iff, iff_true, not_true_eq_false, not_false_eq_true]; first | done | omega)) ?_)
    refine Ops.call (bstring_spec bb (zB k) _ hD (by omega)) rfl (noPd rfl) rfl rfl rfl (fun v A' hR => ?_)
    obtain ⟨rfl, hD2⟩ := hR
    repeat' (first | refine Ops.nil ?_ | refine Ops.asg rfl rfl rfl rfl ?_)
    exact Cd.ret (ret1 (A' := []) rfl (Res.tmp rfl) (fun _ h => h.split) ⟨by rw [hke], rfl⟩)
theorem noughts_spec : Con Tryz.prog 66 #[.int .i64 103] [] fun v A => v = .string (zB 103) ∧ A = [] := by
  refine Con.intro (vs := [_]) Tryz.func66 rfl Tryz.ntmps66 rfl (fun B => ?_)
  repeat' (first | refine Cd.seq ?_ | refine Cd.reg ?_ | refine Ops.mv rfl rfl rfl rfl ?_ | refine Ops.asg rfl rfl rfl rfl ?_)
  refine Ops.call (repeat_spec _ (by rfl)) rfl (noPd rfl) rfl rfl rfl (fun v A' hR => ?_)
  obtain ⟨rfl, rfl⟩ := hR
  repeat' (first | refine Ops.nil ?_ | refine Ops.asg rfl rfl rfl rfl ?_)
  exact Cd.ret (ret1 (A' := []) rfl (Res.tmp rfl) (fun _ h => h.split) ⟨rfl, rfl⟩)
end Go.Proofs.YtnmjdoaogdaehaaGreat
namespace Go.Proofs.YtnmjdoaogdaehaaGreat
open Go Go.Sep Go.Proofs
set_option maxRecDepth 10000
set_option maxHeartbeats 4000000
set_option synthInstance.maxSize 2000
set_option linter.unusedSimpArgs false
set_option linter.unusedVariables false
/-! texts that are read -/
theorem slclone_spec (s : ByteArray) (hs : s.size ≤ 1000000) : Con Tryz.prog 229 #[.string s] [] fun v A => v = .string s ∧ A = [] := by
  refine Con.intro (vs := [_]) Tryz.func229 rfl Tryz.ntmps229 rfl (fun B => ?_)
  by_cases h0 : s.size = 0
  · have h0' : (s.size : Int) = 0 := by omega
    have he : s = .empty := ByteArray.size_eq_zero_iff.1 h0
    repeat' (first | refine Cd.seq ?_ | refine Cd.reg ?_ | refine Ops.nil ?_ | refine Ops.mv rfl rfl rfl rfl ?_ | refine Ops.asg rfl rfl rfl rfl ?_ | refine Ops.lenStr rfl rfl rfl rfl ?_ | refine Ops.bin rfl rfl rfl rfl rfl ?_ | refine Cd.condT rfl (by first | rfl | assumption | (simp only [decide_eq_true_eq, decide_eq_false_iff_not, Bool.not_eq_true', Bool.not_eq_false', Bool.not_eq_eq_eq_not, Bool.not_true, Bool.not_false, beq_iff_eq, beq_eq_false_iff_ne, ne_eq, decide_eq_decide, eq_self, true_iff, iff_true, not_true_eq_false, not_false_eq_true]; first | done | omega)) ?_)
    exact Cd.ret (ret1 (A' := []) rfl (Res.tmp rfl) (fun _ h => h.split) ⟨by rw [he]; rfl, rfl⟩)
  · have h0' : ¬ (s.size : Int) = 0 := by omega
    repeat' (first | refine Cd.seq ?_ | refine Cd.reg ?_ | refine Ops.nil ?_ | refine Ops.mv rfl rfl rfl rfl ?_ | refine Ops.asg rfl rfl rfl rfl ?_ | refine Ops.lenStr rfl rfl rfl rfl ?_ | refine Ops.bin rfl rfl rfl rfl rfl ?_ | refine Cd.skip (Cd.next ?_) | refine Cd.condF rfl (by first | rfl | assumption | (simp only [decide_eq_true_eq, decide_eq_false_iff_not, Bool.not_eq_true', Bool.not_eq_false', Bool.not_eq_eq_eq_not, Bool.not_true, Bool.not_false, beq_iff_eq, beq_eq_false_iff_ne, ne_eq, decide_eq_decide, eq_self, true_iff, iff_true, not_true_eq_false, not_false_eq_true]; first | done | omega)) ?_)
    refine Ops.mk1 rfl rfl rfl rfl (by omega) (by omega) (by decide) rfl (noPd rfl) (fun g => ?_)
    rw [show ((s.size : Nat) : Int).toNat = s.size from by omega]
    repeat' (first | refine Cd.seq ?_ | refine Cd.reg ?_ | refine Ops.mv rfl rfl rfl rfl ?_ | refine Ops.asg rfl rfl rfl rfl ?_)
    refine Ops.cpS (L' := bv s) rfl rfl rfl rfl (by simp) (by simp [ins, bv_len]) rfl (noPd rfl) ?_
    repeat' (first | refine Cd.seq ?_ | refine Cd.reg ?_ | refine Ops.mv rfl rfl rfl rfl ?_ | refine Ops.lenS rfl rfl rfl rfl ?_ | refine Ops.ixa0 rfl rfl rfl rfl (by omega) (by omega) rfl ?_)
    refine Ops.us (s := s) (G := [(g, cl (bv s) 5)]) (.inr ⟨g, s.size, [], 0, rfl, by rw [List.append_nil]; rfl, Nat.zero_le _, by simp, by omega⟩) rfl rfl cells_u8 rfl rfl (by omega) rfl (noPd rfl) (fun G' hG' => ?_)
    repeat' (first | refine Ops.nil ?_ | refine Ops.asg rfl rfl rfl rfl ?_)
    exact Cd.ret (ret1 (A' := []) rfl (Res.tmp rfl) (fun _ h => h.split) ⟨rfl, rfl⟩)
theorem sclone_spec (s : ByteArray) (hs : s.size ≤ 1000000) : Con Tryz.prog 199 #[.string s] [] fun v A => v = .string s ∧ A = [] := by
  refine Con.intro (vs := [_]) Tryz.func199 rfl Tryz.ntmps199 rfl (fun B => ?_)
  repeat' (first | refine Cd.seq ?_ | refine Cd.reg ?_ | refine Ops.mv rfl rfl rfl rfl ?_ | refine Ops.asg rfl rfl rfl rfl ?_)
  refine Ops.call (slclone_spec s hs) rfl (noPd rfl) rfl rfl rfl (fun v A' hR => ?_)
  obtain ⟨rfl, rfl⟩ := hR
  repeat' (first | refine Ops.nil ?_ | refine Ops.asg rfl rfl rfl rfl ?_)
  exact Cd.ret (ret1 (A' := []) rfl (Res.tmp rfl) (fun _ h => h.split) ⟨rfl, rfl⟩)
/-- A text that is read: it and the place behind it, or what is wrong. -/
def txR (b : ByteArray) (most p : Nat) : Int ⊕ (ByteArray × Nat) := match numR b most 23 p with
  | .bad er => .inl er
  | .good n q => if q + n ≤ b.size then .inr (b.extract q (q + n), q + n) else .inl 20
theorem text1_spec (B0 : Base) (rb xr mb : Nat) (bs : ByteArray) (p most : Nat) (hp : p ≤ bs.size) (hb : bs.size ≤ 1000000) (hm : most ≤ 1000000) :
    ConX Tryz.prog B0 198 #[ptr xr, ptr mb] (RdB rb bs p 0 :: [(xr, cl [ptr rb] 108), (mb, cl [.int .i64 most] 3)])
      (fun v A => ∃ u q, txR bs most p = .inr (u, q) ∧ v = .string u ∧ A = RdB rb bs (q : Nat) 0 :: [(xr, cl [ptr rb] 108), (mb, cl [.int .i64 most] 3)])
      (fun c A => ∃ er, txR bs most p = .inl er ∧ c = [gave er] ∧ ∃ q : Nat, A = RdB rb bs q 0 :: [(xr, cl [ptr rb] 108), (mb, cl [.int .i64 most] 3)]) := by
  refine ConX.intro (vs := [_, _]) Tryz.func198 rfl Tryz.ntmps198 rfl (fun B hB => ?_)
  repeat' (first | refine Cd.seq ?_ | refine Cd.reg ?_ | refine Ops.asg rfl rfl rfl rfl ?_)
  refine Cd.draw [(0, 1, []), (1, 1, []), (2, 1, []), (3, 2, [0]), (4, 2, []), (5, 2, []), (6, 0, [])] (by kernel_rfl) (by kernel_rfl) (by simp only [picked, nth]; exact rfl) ?_
  repeat' (first | refine Ops.ld1 rfl rfl rfl rfl rfl ?_)
  refine Ops.callXD (list_spec B0 rb bs p most hp hb (by omega)) hB rfl (by intro v A' hR i hi; obtain ⟨A2, hR, rfl⟩ := hR; obtain ⟨u, q, _, _, rfl⟩ := hR; (repeat (rcases List.mem_cons.1 hi with rfl | hi; · (first | exact Still.ld1 rfl rfl rfl rfl rfl | exact Still.ldN rfl rfl rfl rfl | exact Still.len rfl rfl rfl rfl rfl | exact Still.skip rfl rfl rfl | exact Still.ldRow1 rfl rfl rfl (by assumption) (by assumption) rfl rfl | exact Still.ldR rfl rfl rfl (by apply_assumption) rfl))); cases hi) rfl rfl rfl (fun c A' hX => ?_) (fun v A' hR => ?_)
  · obtain ⟨er, hr, rfl, q, rfl⟩ := hX
    have htx : txR bs most p = .inl er := by
      unfold txR
      cases hn : numR bs most 23 p with
      | bad e2 => rw [hn] at hr; injection hr with hr; rw [hr]
      | good n2 q2 => rw [hn] at hr; cases hr
    exact panX (A' := RdB rb bs q 0 :: [(xr, cl [ptr rb] 108), (mb, cl [.int .i64 most] 3)]) (fun _ h => h.split) ⟨er, htx, rfl, q, rfl⟩
  · obtain ⟨n, q, hr, rfl, rfl⟩ := hR
    have hn : numR bs most 23 p = .good n q := by
      cases hn : numR bs most 23 p with
      | bad e2 => rw [hn] at hr; cases hr
      | good n2 q2 => rw [hn] at hr; injection hr with hr; injection hr with h1 h2; rw [h1, h2]
    have hle : n ≤ most := numGo_le _ _ _ _ hn
    have hq : q ≤ bs.size := numGo_at _ _ _ _ hn hp
    skip
    refine Ops.callXD (take_spec B0 rb bs q 0 n hq hb (by omega)) hB rfl (noPd rfl) rfl rfl rfl (fun c A' hX => ?_) (fun v A' hR => ?_)
    · obtain ⟨hlt, rfl, rfl⟩ := hX
      exact panX (A' := RdB rb bs q 0 :: [(xr, cl [ptr rb] 108), (mb, cl [.int .i64 most] 3)]) (fun _ h => h.split) ⟨20, by unfold txR; rw [hn]; exact if_neg hlt, rfl, q, rfl⟩
    · obtain ⟨hlt, rfl, rfl⟩ := hR
      refine Ops.call (sclone_spec (bs.extract q (q + n)) (by rw [ByteArray.size_extract]; omega)) rfl (noPd rfl) rfl rfl rfl (fun v A' hR => ?_)
      obtain ⟨rfl, rfl⟩ := hR
      repeat' (first | refine Ops.nil ?_ | refine Ops.asg rfl rfl rfl rfl ?_)
      exact Cd.ret (retX (ret1 (A' := RdB rb bs ((q + n : Nat) : Int) 0 :: [(xr, cl [ptr rb] 108), (mb, cl [.int .i64 most] 3)]) rfl (Res.tmp rfl) (fun _ h => h.split) ⟨_, q + n, by unfold txR; rw [hn]; exact if_pos hlt, rfl, rfl⟩))
def rdText (b : ByteArray) (most : Nat) (p : Nat) (e : Int) : ByteArray × Nat × Int := if e ≠ 0 then (.empty, p, e) else match txR b most p with
  | .inl er => (.empty, p, er)
  | .inr (u, q) => (u, q, 0)
theorem rtext_spec (B0 : Base) (rb : Nat) (bs : ByteArray) (p most : Nat) (e : Int) (hp : p ≤ bs.size) (hb : bs.size ≤ 1000000) (hm : most ≤ 1000000) :
    ConB Tryz.prog B0 134 #[ptr rb, .int .i64 most] [RdB rb bs p e] fun v A => v = .string (rdText bs most p e).1 ∧ A = [RdB rb bs (((rdText bs most p e).2.1 : Nat) : Int) (rdText bs most p e).2.2] := by
  refine ConB.intro (vs := [_, _]) Tryz.func134 rfl Tryz.ntmps134 rfl (fun B hB => ?_)
  repeat' (first | refine Ops.mkF rfl rfl rfl rfl rfl ?_ | refine Cd.seq ?_ | refine Cd.reg ?_ | refine Ops.asg rfl rfl rfl rfl ?_ | refine Ops.ld1 rfl rfl rfl rfl rfl ?_ | refine Ops.box rfl rfl rfl rfl (noPd rfl) (fun b => ?_))
  rename_i xr
  rename Nat => mb
  by_cases he : e = 0
  · subst he
    refine Ops.callB (facestring_new B0 rb bs p 198 [ptr xr, ptr mb] [(xr, cl [ptr rb] 108), (mb, cl [.int .i64 most] 3)] _ (text1_spec B0 rb xr mb bs p most hp hb hm)) hB rfl (noPd rfl) rfl rfl rfl (fun v A' hR => ?_)
    have hu : rdText bs most p 0 = match txR bs most p with
      | .inl er => (.empty, p, er)
      | .inr (u, q) => (u, q, 0) := if_neg (by simp)
    rcases hR with ⟨u, q, hr, rfl, rfl⟩ | ⟨er, hr, rfl, rfl⟩
    · rw [hr] at hu
      rw [hu]
      repeat' (first | refine Ops.nil ?_ | refine Ops.asg rfl rfl rfl rfl ?_)
      exact Cd.ret (ret1 (A' := [RdB rb bs q 0]) rfl (Res.tmp rfl) (fun _ h => h.split) ⟨rfl, rfl⟩)
    · rw [hr] at hu
      rw [hu]
      repeat' (first | refine Ops.nil ?_ | refine Ops.asg rfl rfl rfl rfl ?_)
      exact Cd.ret (ret1 (A' := [RdB rb bs p er]) rfl (Res.tmp rfl) (fun _ h => h.split) ⟨rfl, rfl⟩)
  · refine Ops.callB (facestring_old B0 rb bs p e 198 [ptr xr, ptr mb] he) hB rfl (noPd rfl) rfl rfl rfl (fun v A' hR => ?_)
    obtain ⟨rfl, rfl⟩ := hR
    rw [show rdText bs most p e = (.empty, p, e) from if_pos he]
    repeat' (first | refine Ops.nil ?_ | refine Ops.asg rfl rfl rfl rfl ?_)
    exact Cd.ret (ret1 (A' := [RdB rb bs p e]) rfl (Res.tmp rfl) (fun _ h => h.split) ⟨rfl, rfl⟩)
end Go.Proofs.YtnmjdoaogdaehaaGreat
namespace Go.Proofs.YtnmjdoaogdaehaaGreat
open Go Go.Sep Go.Proofs
set_option maxRecDepth 10000
set_option maxHeartbeats 4000000
set_option synthInstance.maxSize 2000
set_option linter.unusedSimpArgs false
set_option linter.unusedVariables false
/-! the log, plainly: a head, its sector -/
structure Hd where
  number : Nat
  half : Nat
  snap : Nat
  log : Nat
def hiL (n : Nat) : Nat → List Int
  | 0 => []
  | k + 1 => ((n / 256 ^ k % 256 : Nat) : Int) :: hiL n k
def hiB (n k : Nat) : ByteArray := bytesOf (hiL n k)
theorem hiL_len (n k : Nat) : (hiL n k).length = k := by induction k with | zero => rfl | succ k ih => simp [hiL, ih]
theorem hiB_size (n k : Nat) : (hiB n k).size = k := by rw [hiB, bytesOf_size, hiL_len]
def sectorF (h : Hd) : ByteArray := hiB h.number 8 ++ bytesOf [(h.half : Int)] ++ hiB h.snap 4 ++ hiB h.log 4 ++ zB 103 ++ hiB h.number 8
theorem sectorF_size (h : Hd) : (sectorF h).size = 128 := by simp [sectorF, hiB_size, zB_size, bytesOf_size]
def bat (s : ByteArray) (i : Nat) : Nat := match s[i]? with | some b => b.toNat | none => 0
theorem bat_lt (s : ByteArray) (i : Nat) : bat s i < 256 := by
  unfold bat; split
  · rename_i b _; exact UInt8.toNat_lt b
  · decide
theorem bat_some {s : ByteArray} {i : Nat} {b : UInt8} (h : s[i]? = some b) : bat s i = b.toNat := by simp [bat, h]
def ofG (s : ByteArray) : Nat → Int
  | 0 => 0
  | i + 1 => orI .i64 (IntKind.wrap .i64 (ofG s i * 2 ^ 8)) (bat s i)
def ofF (s : ByteArray) : Int := ofG s s.size
theorem orI_i64 {a b : Nat} (ha : a < 9223372036854775808) (hb : b < 9223372036854775808) : orI .i64 (a : Int) (b : Int) = ((a ||| b : Nat) : Int) := by
  have h1 : a ||| b < 2 ^ 63 := Nat.or_lt_two_pow (n := 63) ha hb
  unfold orI
  show IntKind.wrap .i64 ((BitVec.ofInt 64 a ||| BitVec.ofInt 64 b).toNat : Int) = _
  rw [BitVec.toNat_or, BitVec.ofInt_natCast, BitVec.ofInt_natCast, BitVec.toNat_ofNat, BitVec.toNat_ofNat, Nat.mod_eq_of_lt (by omega), Nat.mod_eq_of_lt (by omega)]
  simp [IntKind.wrap, IntKind.bits, IntKind.signed]
  omega
theorem ofG_step {a b : Nat} (ha : a < 36028797018963968) (hb : b < 256) : orI .i64 (IntKind.wrap .i64 ((a : Int) * 2 ^ 8)) (b : Int) = ((a * 256 + b : Nat) : Int) := by
  have e : IntKind.wrap .i64 ((a : Int) * 2 ^ 8) = ((a <<< 8 : Nat) : Int) := by
    rw [Nat.shiftLeft_eq]
    simp [IntKind.wrap, IntKind.bits, IntKind.signed]
    omega
  rw [e, orI_i64 (by rw [Nat.shiftLeft_eq]; omega) (by omega), ← Nat.shiftLeft_add_eq_or_of_lt (by simpa using hb), Nat.shiftLeft_eq]
theorem hiL_at {n k i : Nat} (hi : i < k) : (hiL n k).getD i 0 = ((n / 256 ^ (k - 1 - i) % 256 : Nat) : Int) := by
  induction k generalizing i with
  | zero => omega
  | succ k ih =>
    cases i with
    | zero => rfl
    | succ i => rw [hiL, List.getD_cons_succ, ih (by omega)]; congr 4; omega
def ofn (s : ByteArray) : Nat → Nat
  | 0 => 0
  | i + 1 => ofn s i * 256 + bat s i
theorem ofn_lt (s : ByteArray) : ∀ i, ofn s i < 256 ^ i
  | 0 => by show 0 < 1; decide
  | i + 1 => by
    have h1 := ofn_lt s i
    have h2 := bat_lt s i
    rw [ofn, Nat.pow_succ]
    have : (ofn s i + 1) * 256 ≤ 256 ^ i * 256 := Nat.mul_le_mul_right _ h1
    omega
theorem ofG_ofn (s : ByteArray) : ∀ i, i ≤ 7 → ofG s i = (ofn s i : Nat)
  | 0, _ => rfl
  | i + 1, h => by
    rw [ofG, ofG_ofn s i (by omega), ofG_step _ (bat_lt s i), ofn]
    have h1 := ofn_lt s i
    have h2 : 256 ^ i ≤ 256 ^ 6 := Nat.pow_le_pow_right (by decide) (by omega)
    omega
def rdN (s : ByteArray) (i j : Nat) : Nat := ofn (s.extract i j) (j - i)
theorem of_four {s : ByteArray} (h : s.size ≤ 7) : ofF s = (ofn s s.size : Nat) := ofG_ofn s _ h
/-! what a disk's log is -/
structure Dk where
  S : List ByteArray
  ar : Int
  bd : Int
  de : Bool
def roomF (n : Nat) : Nat := if n < 4 ∨ n % 2 = 1 ∨ 1026 < n then 0 else (n - 2) / 2 * 128
def catS (S : List ByteArray) (first : Nat) : Nat → ByteArray
  | 0 => .empty
  | i + 1 => catS S first i ++ S.getD (first + i) .empty
theorem catS_size {S : List ByteArray} (hs : ∀ s ∈ S, s.size = 128) {first : Nat} : ∀ i, first + i ≤ S.length → (catS S first i).size = i * 128
  | 0, _ => rfl
  | i + 1, h => by
    have h1 : (S.getD (first + i) .empty).size = 128 := by
      rw [List.getD_eq_getElem?_getD, List.getElem?_eq_getElem (by omega)]
      exact hs _ (List.getElem_mem _)
    rw [catS, ByteArray.size_append, catS_size hs i (by omega), h1]
    omega
def bytesF (S : List ByteArray) (half n : Nat) : ByteArray := (catS S (2 + half * roomF S.length / 128) ((n + 127) / 128)).extract 0 n
theorem rdText_at {b : ByteArray} {most p : Nat} {e : Int} (hp : p ≤ b.size) : (rdText b most p e).2.1 ≤ b.size := by
  unfold rdText
  split
  · exact hp
  · split
    · exact hp
    · rename_i u q h
      unfold txR at h
      split at h
      · cases h
      · split at h
        · injection h with h; injection h with h1 h2; dsimp only; omega
        · cases h
def framesG (s : ByteArray) (p : Nat) : Option (List ByteArray) :=
  if h : p < s.size then
    if (rdText s 2048 p 0).2.2 ≠ 0 ∨ (rdText s 2048 p 0).1.size = 0 then none
    else if h2 : p < (rdText s 2048 p 0).2.1 then (framesG s (rdText s 2048 p 0).2.1).map ((rdText s 2048 p 0).1 :: ·) else none
  else some []
termination_by s.size - p
decreasing_by omega
/-- The head that stands there, the snapshot, the records behind it. -/
def foundF (S : List ByteArray) (at_ : Nat) : Option (Hd × ByteArray × List ByteArray) :=
  let s := S.getD at_ .empty
  let nm := ofF (s.extract 0 8)
  let sn := rdN s 9 13
  let lg := rdN s 13 17
  if nm < 1 ∨ 1099511627776 < nm ∨ nm % 2 ≠ (at_ : Int) ∨ 1 < bat s 8 then none
  else if sectorF ⟨nm.toNat, bat s 8, sn, lg⟩ ≠ s ∨ 17000 < sn ∨ roomF S.length < sn + lg then none
  else (framesG ((bytesF S (bat s 8) (sn + lg)).extract sn (sn + lg)) 0).map fun l => (⟨nm.toNat, bat s 8, sn, lg⟩, (bytesF S (bat s 8) (sn + lg)).extract 0 sn, l)
def countsF (S : List ByteArray) : Option (Hd × ByteArray × List ByteArray) :=
  match foundF S 0, foundF S 1 with
  | none, y => y
  | some x, none => some x
  | some x, some y => if x.1.number < y.1.number then some y else some x
def Dk.put (x : Dk) (r : (List ByteArray × Int × Bool) × Int) : Dk := { x with S := r.1.1, ar := r.1.2.1, de := r.1.2.2 }
def Dk.write (x : Dk) (i : Int) (s : ByteArray) : Dk × Int := (x.put (writeD x.S x.ar x.bd x.de i s), (writeD x.S x.ar x.bd x.de i s).2)
def formatF (x : Dk) : Dk × Int :=
  if x.de then (x, 2) else if roomF x.S.length = 0 then (x, 91) else if (countsF x.S).isSome then (x, 95)
  else x.write 1 (sectorF ⟨1, 0, 0, 0⟩)
/-- A page, of which bytes are written from a place on. -/
def pageF (old s : ByteArray) (a : Nat) : ByteArray := old.extract 0 a ++ (s.extract 0 (min (128 - a) s.size) ++ zB (128 - a - min (128 - a) s.size))
def pagesF (half at_ : Nat) (s : ByteArray) (x : Dk) : Dk × Bool :=
  if h : s.size = 0 then (x, true)
  else if x.de ∨ ¬ 2 + half * roomF x.S.length / 128 + at_ / 128 < x.S.length then (x, false)
  else
    let r := x.write ((2 + half * roomF x.S.length / 128 + at_ / 128 : Nat) : Int) (pageF (x.S.getD (2 + half * roomF x.S.length / 128 + at_ / 128) .empty) s (at_ % 128))
    if r.2 ≠ 0 then (r.1, false) else pagesF half (at_ + min (128 - at_ % 128) s.size) (s.extract (min (128 - at_ % 128) s.size) s.size) r.1
termination_by s.size
decreasing_by
  have : at_ % 128 < 128 := Nat.mod_lt _ (by decide)
  rw [ByteArray.size_extract]
  omega
def headF (h : Hd) (r : Dk × Bool) : Dk × Bool := if r.2 then ((r.1.write ((h.number % 2 : Nat) : Int) (sectorF h)).1, decide ((r.1.write ((h.number % 2 : Nat) : Int) (sectorF h)).2 = 0)) else (r.1, false)
structure Wl where
  h : Hd
  recs : Int
  dead : Bool
def frameF (r : ByteArray) : ByteArray := numB r.size ++ r
/-- The log, behind what was written: right, or not. -/
def Wl.done (w : Wl) (h : Hd) (recs : Int) (r : Dk × Bool) : (Wl × Dk) × Int := if r.2 then ((⟨h, recs, w.dead⟩, r.1), 0) else (({ w with dead := true }, r.1), 2)
def appendF (w : Wl) (x : Dk) (r : ByteArray) : (Wl × Dk) × Int :=
  if (w.dead || x.de) then (({ w with dead := true }, x), 2)
  else if r.size = 0 ∨ 2048 < r.size then ((w, x), 92)
  else if roomF x.S.length < w.h.snap + w.h.log + (frameF r).size then ((w, x), 93)
  else if 1099511627776 ≤ w.h.number then ((w, x), 94)
  else w.done ⟨w.h.number + 1, w.h.half, w.h.snap, w.h.log + (frameF r).size⟩ (w.recs + 1)
    (headF ⟨w.h.number + 1, w.h.half, w.h.snap, w.h.log + (frameF r).size⟩ (pagesF w.h.half (w.h.snap + w.h.log) (frameF r) x))
/-- How long a record may be. -/
def fitN (left : Nat) : Nat → Nat
  | 0 => 0
  | n + 1 => if left < (numB (n + 1)).size + (n + 1) then fitN left n else n + 1
def roomW (w : Wl) (len : Nat) : Nat := fitN (roomF len - w.h.snap - w.h.log) (min 2048 (roomF len - w.h.snap - w.h.log))
end Go.Proofs.YtnmjdoaogdaehaaGreat
namespace Go.Proofs.YtnmjdoaogdaehaaGreat
open Go Go.Sep Go.Proofs
set_option maxRecDepth 10000
set_option maxHeartbeats 4000000
set_option synthInstance.maxSize 2000
set_option linter.unusedSimpArgs false
set_option linter.unusedVariables false
/-! a head's sector -/
def hiC (n k i : Nat) : List Value := List.replicate (k - i) (.int .u8 0) ++ (hiL n i).map (Value.int .u8)
theorem hiC_len {n k i : Nat} (h : i ≤ k) : (hiC n k i).length = k := by simp [hiC, hiL_len]; omega
theorem hiC_set {n k i : Nat} (h : i < k) : (hiC n k i).set (k - 1 - i) (.int .u8 ((n / 256 ^ i % 256 : Nat) : Int)) = hiC n k (i + 1) := by
  have e : k - i = (k - 1 - i) + 1 := by omega
  unfold hiC
  rw [e, List.replicate_succ', List.append_assoc, List.set_append_right _ _ (by simp), List.length_replicate, Nat.sub_self, show k - (i + 1) = k - 1 - i from by omega, hiL, List.map_cons]
  rfl
theorem hiL_byte (n : Nat) : ∀ k, ∀ x ∈ hiL n k, 0 ≤ x ∧ x < 256
  | 0, x, h => by cases h
  | k + 1, x, h => by
    rw [hiL] at h
    rcases List.mem_cons.1 h with rfl | h
    · have := Nat.mod_lt (n / 256 ^ k) (by decide : 256 > 0)
      omega
    · exact hiL_byte n k x h
theorem bv_bytes : ∀ {xs : List Int}, (∀ x ∈ xs, 0 ≤ x ∧ x < 256) → bv (bytesOf xs) = xs.map (Value.int .u8) := by
  intro xs hx
  have key : ∀ (xs : List Int) (s : ByteArray), (xs.foldl (fun r n => r.push (UInt8.ofNat n.toNat)) s).data.toList = s.data.toList ++ xs.map fun n => UInt8.ofNat n.toNat := by
    intro xs
    induction xs with
    | nil => intro s; simp
    | cons x xs ih => intro s; rw [List.foldl_cons, ih]; simp [ByteArray.push]
  have hk := key xs .empty
  have hk : (bytesOf xs).data.toList = xs.map fun n => UInt8.ofNat n.toNat := by simpa [bytesOf] using hk
  unfold bv
  rw [hk, List.map_map]
  apply List.map_congr_left
  intro x h
  have := hx x h
  simp only [Function.comp, UInt8.toNat_ofNat']
  congr 1
  omega
theorem bv_hi (n k : Nat) : bv (hiB n k) = (hiL n k).map (Value.int .u8) := bv_bytes (hiL_byte n k)
theorem shr8 (n i : Nat) (hi : i ≤ 7) : IntKind.wrap .u8 ((n : Int).fdiv (2 ^ (min (Int.toNat (8 * (i : Int))) (IntKind.bits .i64)))) = ((n / 256 ^ i % 256 : Nat) : Int) := by
  have e1 : min (Int.toNat (8 * (i : Int))) (IntKind.bits .i64) = 8 * i := by show min _ 64 = _; omega
  have e2 : (2 : Int) ^ (8 * i) = ((256 ^ i : Nat) : Int) := by
    rw [show (256 : Nat) = 2 ^ 8 from rfl, ← Nat.pow_mul]; push_cast; rfl
  rw [e1, e2, Int.fdiv_eq_ediv_of_nonneg _ (Int.natCast_nonneg _)]
  simp only [IntKind.wrap, IntKind.bits, IntKind.signed, Bool.false_and, Bool.false_eq_true, if_false]
  push_cast
  rfl
theorem high_spec (n k : Nat) (hk1 : 1 ≤ k) (hk : k ≤ 8) (hn : n < 9223372036854775808) : Con Tryz.prog 65 #[.int .i64 n, .int .i64 k] [] fun v A => v = .string (hiB n k) ∧ A = [] := by
  refine Con.intro (vs := [_, _]) Tryz.func65 rfl Tryz.ntmps65 rfl (fun B => ?_)
  repeat' (first | refine Cd.seq ?_ | refine Cd.reg ?_ | refine Ops.mv rfl rfl rfl rfl ?_ | refine Ops.asg rfl rfl rfl rfl ?_)
  refine Ops.mk1 rfl rfl rfl rfl (by omega) (by omega) (by decide) rfl (noPd rfl) (fun g => ?_)
  rw [show ((k : Nat) : Int).toNat = k from by omega]
  repeat' (first | refine Cd.seq ?_ | refine Cd.reg ?_ | refine Ops.nil ?_ | refine Ops.mv rfl rfl rfl rfl ?_ | refine Ops.asg rfl rfl rfl rfl ?_ | refine Ops.lenS rfl rfl rfl rfl ?_ | refine Cd.block ?_)
  refine Cd.loopK (σ := Nat) (fun i => i ≤ k) (fun i => [(0, .int .i64 n), (1, .int .i64 k), (5, .slice (some ⟨g, 0, none⟩) k k), (10, .int .i64 k), (11, .int .i64 i)]) (fun i => [(g, cl (hiC n k i) 5)]) (fun i => k - i) 0 (Nat.zero_le _) ⟨rfl, rfl, rfl, rfl, rfl, trivial⟩ (fun w h => by simpa [hiC, hiL] using h) (fun i hi => ?_)
  have hlen := hiC_len (n := n) hi
  by_cases hlt : i < k
  · have hlt' : (i : Int) < k := by omega
    repeat' (first | refine Cd.seq ?_ | refine Cd.reg ?_ | refine Ops.mv rfl rfl rfl rfl ?_ | refine Ops.asg rfl rfl rfl rfl ?_ | refine Ops.subI rfl rfl rfl rfl (by omega) (by omega) rfl ?_ | refine Ops.mulI rfl rfl rfl rfl (by omega) (by omega) rfl ?_ | refine Ops.bin rfl rfl rfl rfl rfl ?_ | refine Cd.block ?_ | refine Cd.skip (Cd.next ?_) | refine Cd.condT rfl (by first | rfl | assumption | (simp only [decide_eq_true_eq, decide_eq_false_iff_not, Bool.not_eq_true', Bool.not_eq_false', Bool.not_eq_eq_eq_not, Bool.not_true, Bool.not_false, beq_iff_eq, beq_eq_false_iff_ne, ne_eq, decide_eq_decide, eq_self, true_iff, iff_true, not_true_eq_false, not_false_eq_true]; first | done | omega)) ?_)
    refine Ops.shrI rfl rfl rfl rfl (by omega) rfl ?_
    refine Ops.cvI rfl rfl rfl rfl ?_
    rw [shr8 n i (by omega)]
    repeat' (first | refine Ops.ixa0 rfl rfl rfl rfl (by omega) (by omega) rfl ?_)
    rw [show ((k : Int) - 1 - i).toNat = k - 1 - i from by omega]
    refine Ops.st1 (L' := hiC n k (i + 1)) rfl rfl rfl rfl rfl (hs := ⟨by rw [Nat.mul_one, hiC_set hlt], by rw [Nat.mul_one]; omega⟩) (noPd rfl) ?_
    repeat' (first | refine Ops.nilN (inB (Cd.next ?_)) | refine Cd.reg ?_ | refine Ops.mv rfl rfl rfl rfl ?_ | refine Ops.addI rfl rfl rfl rfl (by omega) (by omega) rfl ?_)
    exact Ops.nilN (round_end (i + 1 : Nat) (by show i + 1 ≤ k; omega) (by show k - (i + 1) < k - i; omega) ⟨rfl, rfl, rfl, rfl, rfl, trivial⟩ (fun w h => h.split))
  · have hlt' : ¬ (i : Int) < k := by omega
    have he : i = k := by omega
    subst he
    repeat' (first | refine Cd.seq ?_ | refine Cd.reg ?_ | refine Ops.mv rfl rfl rfl rfl ?_ | refine Ops.bin rfl rfl rfl rfl rfl ?_ | refine Cd.exit (Cd.next (Q' := fun _ _ _ => True) ?_) | refine Cd.condF rfl (by first | rfl | assumption | (simp only [decide_eq_true_eq, decide_eq_false_iff_not, Bool.not_eq_true', Bool.not_eq_false', Bool.not_eq_eq_eq_not, Bool.not_true, Bool.not_false, beq_iff_eq, beq_eq_false_iff_ne, ne_eq, decide_eq_decide, eq_self, true_iff, iff_true, not_true_eq_false, not_false_eq_true]; first | done | omega)) ?_)
    refine Ops.cvSp (bs := hiB n i) rfl rfl rfl (hiB_size n i) ?_ rfl ?_
    · intro j u hu
      rw [bv_hi] at hu
      simpa [hiC] using hu
    repeat' (first | refine Ops.nil ?_ | refine Ops.asg rfl rfl rfl rfl ?_)
    exact Cd.ret (ret1 (A' := []) rfl (Res.tmp rfl) (fun _ h => h.split) ⟨rfl, rfl⟩)
theorem of_spec (s : ByteArray) (hs : s.size ≤ 1000) : Con Tryz.prog 128 #[.string s] [] fun v A => v = .int .i64 (ofF s) ∧ A = [] := by
  refine Con.intro (vs := [_]) Tryz.func128 rfl Tryz.ntmps128 rfl (fun B => ?_)
  repeat' (first | refine Cd.seq ?_ | refine Cd.reg ?_ | refine Ops.nil ?_ | refine Ops.mv rfl rfl rfl rfl ?_ | refine Ops.asg rfl rfl rfl rfl ?_ | refine Ops.lenStr rfl rfl rfl rfl ?_ | refine Cd.block ?_)
  refine Cd.loopK (σ := Nat) (fun i => i ≤ s.size) (fun i => [(0, .string s), (3, .int .i64 (ofG s i)), (6, .int .i64 s.size), (7, .int .i64 i)]) (fun i => []) (fun i => s.size - i) 0 (Nat.zero_le _) ⟨rfl, rfl, rfl, rfl, trivial⟩ (fun w h => h) (fun i hi => ?_)
  by_cases hlt : i < s.size
  · have hlt' : (i : Int) < s.size := by omega
    have hb : s[((i : Nat) : Int).toNat]? = some (s[i]'hlt) := by
      rw [show ((i : Nat) : Int).toNat = i from by omega]; exact getElem?_pos s i hlt
    have hb2 : bat s i = (s[i]'hlt).toNat := bat_some (getElem?_pos s i hlt)
    have hb3 := UInt8.toNat_lt (s[i]'hlt)
    repeat' (first | refine Cd.seq ?_ | refine Cd.reg ?_ | refine Ops.mv rfl rfl rfl rfl ?_ | refine Ops.asg rfl rfl rfl rfl ?_ | refine Ops.bin rfl rfl rfl rfl rfl ?_ | refine Cd.block ?_ | refine Cd.skip (Cd.next ?_) | refine Cd.condT rfl (by first | rfl | assumption | (simp only [decide_eq_true_eq, decide_eq_false_iff_not, Bool.not_eq_true', Bool.not_eq_false', Bool.not_eq_eq_eq_not, Bool.not_true, Bool.not_false, beq_iff_eq, beq_eq_false_iff_ne, ne_eq, decide_eq_decide, eq_self, true_iff, iff_true, not_true_eq_false, not_false_eq_true]; first | done | omega)) ?_)
    refine Ops.shlI rfl rfl rfl rfl (by decide) rfl ?_
    repeat' (first | refine Ops.mv rfl rfl rfl rfl ?_)
    refine Ops.ixS rfl rfl rfl rfl (by omega) hb rfl ?_
    refine Ops.cvI rfl rfl rfl rfl ?_
    rw [show IntKind.wrap .i64 (((s[i]'hlt).toNat : Nat) : Int) = ((bat s i : Nat) : Int) from by rw [hb2]; simp [IntKind.wrap, IntKind.bits, IntKind.signed]; omega]
    rw [show (2 : Int) ^ min (Int.toNat 8) (IntKind.bits .i64) = 2 ^ 8 from rfl]
    repeat' (first | refine Ops.nilN (inB (Cd.next ?_)) | refine Cd.reg ?_ | refine Ops.mv rfl rfl rfl rfl ?_ | refine Ops.asg rfl rfl rfl rfl ?_ | refine Ops.addI rfl rfl rfl rfl (by omega) (by omega) rfl ?_ | refine Ops.bin rfl rfl rfl rfl rfl ?_ | fail)
    exact Ops.nilN (round_end (i + 1 : Nat) (by show i + 1 ≤ s.size; omega) (by show s.size - (i + 1) < s.size - i; omega) ⟨rfl, rfl, rfl, rfl, trivial⟩ (fun w h => h))
  · have hlt' : ¬ (i : Int) < s.size := by omega
    have he : i = s.size := by omega
    repeat' (first | refine Cd.seq ?_ | refine Cd.reg ?_ | refine Ops.nil ?_ | refine Ops.mv rfl rfl rfl rfl ?_ | refine Ops.asg rfl rfl rfl rfl ?_ | refine Ops.bin rfl rfl rfl rfl rfl ?_ | refine Cd.exit (Cd.next (Q' := fun _ _ _ => True) ?_) | refine Cd.condF rfl (by first | rfl | assumption | (simp only [decide_eq_true_eq, decide_eq_false_iff_not, Bool.not_eq_true', Bool.not_eq_false', Bool.not_eq_eq_eq_not, Bool.not_true, Bool.not_false, beq_iff_eq, beq_eq_false_iff_ne, ne_eq, decide_eq_decide, eq_self, true_iff, iff_true, not_true_eq_false, not_false_eq_true]; first | done | omega)) ?_)
    exact Cd.ret (ret1 (A' := []) rfl (Res.tmp rfl) (fun _ h => h.split) ⟨by rw [he]; rfl, rfl⟩)
end Go.Proofs.YtnmjdoaogdaehaaGreat
