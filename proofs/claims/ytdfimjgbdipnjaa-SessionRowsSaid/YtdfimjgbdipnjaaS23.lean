import Derived.Test.YtdfimjgbdipnjaaS22
namespace Go.Proofs.Ytdfimjgbdipnjaa
open Go Go.Sep Go.Proofs
set_option maxRecDepth 10000
set_option maxHeartbeats 4000000
set_option synthInstance.maxSize 2000
set_option linter.unusedSimpArgs false
set_option linter.unusedVariables false

/-- A table and the document's, side by side. -/
structure Ti where
  n : Nat
  sv : Value
  G : List Blk
  m : Nat
  rv : Value
  H : List Blk
  rs : List Dk
def Ti.blk (i : Ti) : List Blk := TabB i.n i.sv i.G ++ TabR i.m i.rv i.H
theorem Ti.blk_eq (i : Ti) : Ti.blk i = TabB i.n i.sv i.G ++ TabR i.m i.rv i.H := rfl
@[reducible] def Ti.pn (i : Ti) : List Value := [.pointer (some ⟨i.n, 0, none⟩)]
@[reducible] def Ti.pm (i : Ti) : List Value := [.pointer (some ⟨i.m, 0, none⟩)]
theorem pn_ok (its : List Ti) : RowsOk 1 (its.map Ti.pn) := rows_map (f := Ti.pn) (fun _ => ⟨rfl, rfl⟩) its
theorem pm_ok (its : List Ti) : RowsOk 1 (its.map Ti.pm) := rows_map (f := Ti.pm) (fun _ => ⟨rfl, rfl⟩) its
def TiOk (i : Ti) : Prop := OwnK i.sv i.rs i.G ∧ OwnK i.rv i.rs i.H ∧ TI i.rs
structure NC where
  k : Nat
  its : List Ti
  lv : Value
  LG : List Blk
  qv : Value
  QG : List Blk
def NCI (len : Nat) (s : NC) : Prop := s.k ≤ len ∧ 0 < s.its.length ∧ s.its.length ≤ s.k + 1 ∧ Own 58 1 s.lv (s.its.map Ti.pn) s.LG ∧ Own 80 1 s.qv (s.its.map Ti.pm) s.QG ∧ ∀ i ∈ s.its, TiOk i
@[reducible] def NCB (s : NC) : List Blk := s.its.flatMap Ti.blk ++ (s.LG ++ s.QG)

theorem nc_out {its : List Ti} {LG QG : List Blk} {j : Nat} {i : Ti} (hj : its[j]? = some i) : (its.flatMap Ti.blk ++ (LG ++ QG)).Perm (TabB i.n i.sv i.G ++ (TabR i.m i.rv i.H ++ (LG ++ (QG ++ (its.eraseIdx j).flatMap Ti.blk)))) := by
  refine perm_of fun c g ha hc hp' h0 => ?_
  have h1 := hp' _ _ (flat_out (f := Ti.blk) hj)
  have h3 := congrArg c (Ti.blk_eq i)
  simp only [ha, hc, h0] at h1 h3 ⊢
  omega
theorem nc_in {its : List Ti} {LG QG : List Blk} {j : Nat} {i : Ti} (hj : j < its.length) : (TabB i.n i.sv i.G ++ (TabR i.m i.rv i.H ++ (LG ++ (QG ++ (its.eraseIdx j).flatMap Ti.blk)))).Perm ((its.set j i).flatMap Ti.blk ++ (LG ++ QG)) := by
  refine perm_of fun c g ha hc hp' h0 => ?_
  have h1 := hp' _ _ (flat_set (f := Ti.blk) (x := i) hj)
  have h3 := congrArg c (Ti.blk_eq i)
  simp only [ha, hc, h0] at h1 h3 ⊢
  omega
theorem nc_more {its : List Ti} {LG QG : List Blk} {j : Nat} {i i2 : Ti} (hj : its[j]? = some i) : (TabB i.n i.sv i.G ++ (TabR i.m i.rv i.H ++ (TabB i2.n i2.sv i2.G ++ (TabR i2.m i2.rv i2.H ++ (LG ++ (QG ++ (its.eraseIdx j).flatMap Ti.blk)))))).Perm ((its ++ [i2]).flatMap Ti.blk ++ (LG ++ QG)) := by
  refine perm_of fun c g ha hc hp' h0 => ?_
  have h1 := hp' _ _ (flat_out (f := Ti.blk) hj)
  have h3 := congrArg c (Ti.blk_eq i)
  have h4 := congrArg c (Ti.blk_eq i2)
  simp only [ha, hc, List.flatMap_append, List.flatMap_cons, List.flatMap_nil, h0] at h1 h3 h4 ⊢
  omega

def RScriptN (B : Base) (a : Option Addr) (len : Nat) (ops : List ROp) : Prop :=
  RScript B a len ops ∧ ∀ (i : Nat) (o : ROp), ops[i]? = some o → -9223372036854775808 ≤ o.number ∧ o.number ≤ 9223372036854775807

theorem session_rows (w : World) (slots : Int) (sa : Option Addr) (len cap : Nat) (ops : List ROp) (hsn : RScriptN (baseOf w) sa len ops) (hlen : len ≤ 9000000000000) :
    Calls Try.prog 7 #[.int .i64 slots, .slice sa len cap] w fun e w' => e = .returned (.bool true) ∧ RowKit.Below w.heap.size w w' := by
  obtain ⟨hs, hnum⟩ := hsn
  refine calls_base (vs := [_, _]) Try.func7 rfl Try.ntmps7 rfl ?_
  by_cases hsl : slots < 1 ∨ 8 < slots
  · repeat' (first | refine Cd.seq ?_ | refine Cd.reg ?_ | refine Ops.mv rfl rfl rfl rfl ?_ | refine Ops.asg rfl rfl rfl rfl ?_)
    refine Ops.call (newt_no slots hsl) rfl (noPd rfl) rfl rfl rfl (fun v A' hR => ?_)
    obtain ⟨rfl, rfl⟩ := hR
    repeat' (first | refine Cd.seq ?_ | refine Cd.reg ?_ | refine Ops.mv rfl rfl rfl rfl ?_ | refine Ops.asg rfl rfl rfl rfl ?_ | refine Ops.ext rfl rfl rfl rfl rfl ?_)
    refine Ops.call (rnewt_no slots hsl) rfl (noPd rfl) rfl rfl rfl (fun v A' hR => ?_)
    obtain ⟨rfl, rfl⟩ := hR
    repeat' (first | refine Cd.seq ?_ | refine Cd.reg ?_ | refine Ops.mv rfl rfl rfl rfl ?_ | refine Ops.asg rfl rfl rfl rfl ?_ | refine Ops.ext rfl rfl rfl rfl rfl ?_)
    refine Ops.call awake_spec rfl (noPd rfl) rfl rfl rfl (fun v A' hR => ?_)
    obtain ⟨rfl, rfl⟩ := hR
    repeat' (first | refine Cd.seq ?_ | refine Cd.reg ?_ | refine Ops.nil ?_ | refine Ops.mv rfl rfl rfl rfl ?_ | refine Ops.asg rfl rfl rfl rfl ?_ | refine Ops.bin rfl rfl rfl rfl rfl ?_ | refine Ops.un rfl rfl rfl rfl ?_ | refine Ops.pickF rfl rfl rfl rfl rfl ?_ | refine Cd.condT rfl rfl ?_ | refine Cd.condF rfl rfl ?_ | refine Cd.skip (Cd.next ?_))
    exact Cd.ret (ret1 rfl (Res.tmp rfl) (fun _ h => h) rfl)
  obtain ⟨r, rfl⟩ : ∃ r : Nat, slots = r := ⟨slots.toNat, by omega⟩
  repeat' (first | refine Cd.seq ?_ | refine Cd.reg ?_ | refine Ops.mv rfl rfl rfl rfl ?_ | refine Ops.asg rfl rfl rfl rfl ?_)
  refine Ops.call (newt_yes r (by omega) (by omega)) rfl (noPd rfl) rfl rfl rfl (fun v A' hR => ?_)
  obtain ⟨n, sv, G, rfl, rfl, hO⟩ := hR
  repeat' (first | refine Cd.seq ?_ | refine Cd.reg ?_ | refine Ops.mv rfl rfl rfl rfl ?_ | refine Ops.asg rfl rfl rfl rfl ?_ | refine Ops.ext rfl rfl rfl rfl rfl ?_)
  refine Ops.call (rnewt_yes r (by omega) (by omega)) rfl (noPd rfl) rfl rfl rfl (fun v A' hR => ?_)
  obtain ⟨m, rv, H, rfl, rfl, hP⟩ := hR
  repeat' (first | refine Cd.seq ?_ | refine Cd.reg ?_ | refine Ops.mv rfl rfl rfl rfl ?_ | refine Ops.asg rfl rfl rfl rfl ?_ | refine Ops.ext rfl rfl rfl rfl rfl ?_)
  refine Ops.call awake_spec rfl (noPd rfl) rfl rfl rfl (fun v A' hR => ?_)
  obtain ⟨rfl, rfl⟩ := hR
  repeat' (first | refine Cd.seq ?_ | refine Cd.reg ?_ | refine Ops.nil ?_ | refine Ops.mv rfl rfl rfl rfl ?_ | refine Ops.asg rfl rfl rfl rfl ?_ | refine Ops.bin rfl rfl rfl rfl rfl ?_ | refine Ops.un rfl rfl rfl rfl ?_ | refine Ops.pickF rfl rfl rfl rfl rfl ?_ | refine Ops.bs1 rfl rfl rfl rfl rfl rfl rfl (noPd rfl) (fun b => ?_) | refine Cd.condF rfl rfl ?_ | refine Cd.block ?_ | refine Cd.skip (Cd.next ?_))
  rename_i b1
  rename Nat => b2
  refine Cd.loopK (NCI len) (fun s => [(1, .slice sa len cap), (9, s.lv), (10, s.qv), (11, .int .i64 s.k)])
    NCB (fun s => len - s.k) ⟨0, [⟨n, sv, G, m, rv, H, fresh r⟩], .slice (some ⟨b1, 0, none⟩) 1 1, [(b1, cl [ptr n] 58)], .slice (some ⟨b2, 0, none⟩) 1 1, [(b2, cl [ptr m] 80)]⟩
    ⟨Nat.zero_le _, Nat.succ_pos _, Nat.le_refl _, ⟨RowsOk.one rfl rfl, .inr ⟨b1, 1, [], rfl, rfl, rfl, Nat.le_refl _⟩⟩, ⟨RowsOk.one rfl rfl, .inr ⟨b2, 1, [], rfl, rfl, rfl, Nat.le_refl _⟩⟩, fun i hi => by
      obtain rfl := List.mem_singleton.1 hi
      exact ⟨hO, hP, TI.fresh (by omega)⟩⟩ ⟨rfl, rfl, rfl, rfl, trivial⟩
    (fun w h => by
      have h2 := (h.split : Sat _ (TabB n sv G ++ (TabR m rv H ++ [(b1, cl [ptr n] 58), (b2, cl [ptr m] 80)])) w)
      simpa [NCB, Ti.blk] using h2) (fun s hI => ?_)
  clear hO hP
  clear n m b1 b2
  obtain ⟨k, its, lv, LG, qv, QG⟩ := s
  obtain ⟨hk, hi0, hik, hl, hq, hall⟩ := hI
  dsimp only at hk hi0 hik hl hq hall ⊢
  obtain ⟨g1, c1, sp1, rfl, rfl, hsp1, hle1⟩ := hl.some_ (by rw [List.length_map]; exact hi0)
  obtain ⟨g2, c2, sp2, rfl, rfl, hsp2, hle2⟩ := hq.some_ (by rw [List.length_map]; exact hi0)
  rw [List.length_map] at hle1 hl hle2 hq
  have hokN := pn_ok its
  have hokM := pm_ok its
  rw [List.length_map, List.length_map]
  by_cases hkl : k < len
  · have hkl' : (k : Int) < len := by omega
    obtain ⟨o, ho⟩ : ∃ o, ops[k]? = some o := ⟨_, List.getElem?_eq_getElem (by rw [hs.1]; exact hkl)⟩
    obtain ⟨hn0, hn1⟩ := hnum k o ho
    obtain ⟨b0, off, rfl, hrd⟩ := hs.2 k o ho
    have hr0 : ∀ A, Rd (baseOf w) A b0 (off + (k : Int).toNat * 7 + 0) (.int .i64 o.kind) := fun A => by rw [Int.toNat_natCast]; exact hrd _ 0 _ rfl
    have hr1 : ∀ A, Rd (baseOf w) A b0 (off + (k : Int).toNat * 7 + 1) (.int .i64 o.on) := fun A => by rw [Int.toNat_natCast]; exact hrd _ 1 _ rfl
    have hrw : ∀ A j u, o.row[j]? = some u → Rd (baseOf w) A b0 (off + (k : Int).toNat * 7 + j) u := fun A j u hu => by rw [Int.toNat_natCast]; exact hrd _ j u hu
    clear hrd
    obtain ⟨j, hj, hjr⟩ := round_in o.on hi0
    obtain ⟨it, hit⟩ : ∃ it, its[j]? = some it := ⟨_, List.getElem?_eq_getElem hj⟩
    have hinv := hall it (List.mem_of_getElem? hit)
    have hxN : (its.map Ti.pn)[(j : Int).toNat]? = some [ptr it.n] := map_at hit
    have hxM : (its.map Ti.pm)[(j : Int).toNat]? = some [ptr it.m] := map_at hit
    have hout := nc_out (LG := [(g1, cl ((its.map Ti.pn).flatten ++ sp1) 58)]) (QG := [(g2, cl ((its.map Ti.pm).flatten ++ sp2) 80)]) hit
    have hin := fun (i' : Ti) => nc_in (i := i') (LG := [(g1, cl ((its.map Ti.pn).flatten ++ sp1) 58)]) (QG := [(g2, cl ((its.map Ti.pm).flatten ++ sp2) 80)]) hj
    have hmore := fun (i2 : Ti) (LG QG : List Blk) => nc_more (i2 := i2) (LG := LG) (QG := QG) hit
    generalize hF : (its.eraseIdx j).flatMap Ti.blk = F at hout hin hmore
    obtain ⟨n, sv, G, m, rv, H, rs⟩ := it
    obtain ⟨hO, hP, hT⟩ := hinv
    have hfew := hT.few
    dsimp only at hO hP hT hxN hxM hout hmore hfew
    refine Cd.blk (A' := TabB n sv G ++ (TabR m rv H ++ ((g1, cl ((its.map Ti.pn).flatten ++ sp1) 58) :: ((g2, cl ((its.map Ti.pm).flatten ++ sp2) 80) :: F)))) ?_ (fun w h => h.perm hout)
    generalize hc13 : Code.seq (Code.seq (Code.region 13 _ _) _) _ = c13
    repeat' (first | refine Cd.seq ?_ | refine Cd.reg ?_ | refine Ops.nil ?_ | refine Ops.mv rfl rfl rfl rfl ?_ | refine Ops.fa rfl rfl rfl rfl ?_ | refine Ops.lenS rfl rfl rfl rfl ?_ | refine Ops.bin rfl rfl rfl rfl rfl ?_ | refine Cd.block ?_ | refine Cd.skip (Cd.next ?_) | refine Ops.ixa rfl rfl rfl rfl (by omega) (by omega) rfl ?_ | refine Cd.condT rfl (by first | rfl | assumption | (simp only [decide_eq_true_eq, decide_eq_false_iff_not, Bool.not_eq_true', Bool.not_eq_false', Bool.not_eq_eq_eq_not, Bool.not_true, Bool.not_false, beq_iff_eq, beq_eq_false_iff_ne, ne_eq, decide_eq_decide, eq_self, true_iff, iff_true, not_true_eq_false, not_false_eq_true]; first | done | omega)) ?_)
    refine Ops.ldR rfl rfl rfl (hr1 _) rfl ?_
    repeat' (first | refine Ops.mv rfl rfl rfl rfl ?_ | refine Ops.lenS rfl rfl rfl rfl ?_)
    refine Ops.remI rfl rfl rfl rfl (by omega) rfl ?_
    repeat' (first | refine Ops.nil ?_ | refine Ops.asg rfl rfl rfl rfl ?_)
    subst hc13
    refine Cd.cut (σ := Unit) (fun _ => True) (fun _ => [(1, .slice (some ⟨b0, off, none⟩) len cap), (9, .slice (some ⟨g1, 0, none⟩) its.length c1), (10, .slice (some ⟨g2, 0, none⟩) its.length c2), (11, .int .i64 k), (12, .int .i64 j)])
      (fun _ => TabB n sv G ++ (TabR m rv H ++ ((g1, cl ((its.map Ti.pn).flatten ++ sp1) 58) :: ((g2, cl ((its.map Ti.pm).flatten ++ sp2) 80) :: F)))) ?_ (fun _ _ => ?_)
    · rcases hjr with ⟨hneg, hj2⟩ | ⟨hpos, hj2⟩
      · repeat' (first | refine Cd.seq ?_ | refine Cd.reg ?_ | refine Ops.nil ?_ | refine Ops.mv rfl rfl rfl rfl ?_ | refine Ops.asg rfl rfl rfl rfl ?_ | refine Ops.lenS rfl rfl rfl rfl ?_ | refine Ops.addI rfl rfl rfl rfl (by omega) (by omega) rfl ?_ | refine Ops.bin rfl rfl rfl rfl rfl ?_ | refine Cd.condT rfl (by first | rfl | assumption | (simp only [decide_eq_true_eq, decide_eq_false_iff_not, Bool.not_eq_true', Bool.not_eq_false', Bool.not_eq_eq_eq_not, Bool.not_true, Bool.not_false, beq_iff_eq, beq_eq_false_iff_ne, ne_eq, decide_eq_decide, eq_self, true_iff, iff_true, not_true_eq_false, not_false_eq_true]; first | done | omega)) ?_)
        exact Ops.nilN (meet_end (Q := fun _ _ _ => True) () trivial ⟨rfl, rfl, rfl, rfl, congrArg (fun x => some (Value.int .i64 x)) hj2, trivial⟩ (fun w h => h))
      · repeat' (first | refine Cd.seq ?_ | refine Cd.reg ?_ | refine Ops.nil ?_ | refine Ops.mv rfl rfl rfl rfl ?_ | refine Ops.bin rfl rfl rfl rfl rfl ?_ | refine Cd.condF rfl (by first | rfl | assumption | (simp only [decide_eq_true_eq, decide_eq_false_iff_not, Bool.not_eq_true', Bool.not_eq_false', Bool.not_eq_eq_eq_not, Bool.not_true, Bool.not_false, beq_iff_eq, beq_eq_false_iff_ne, ne_eq, decide_eq_decide, eq_self, true_iff, iff_true, not_true_eq_false, not_false_eq_true]; first | done | omega)) ?_)
        exact Cd.skip (meet_end (Q := fun _ _ _ => True) () trivial ⟨rfl, rfl, rfl, rfl, congrArg (fun x => some (Value.int .i64 x)) hj2, trivial⟩ (fun w h => h))
    repeat' (first | refine Cd.seq ?_ | refine Cd.reg ?_ | refine Ops.mv rfl rfl rfl rfl ?_ | refine Ops.fa rfl rfl rfl rfl ?_ | refine Ops.ixa rfl rfl rfl rfl (by omega) (by omega) rfl ?_)
    refine Ops.ldR rfl rfl rfl (hr0 _) rfl ?_
    by_cases hk5 : o.kind = 5
    · repeat' (first | refine Cd.seq ?_ | refine Cd.reg ?_ | refine Ops.nil ?_ | refine Ops.mv rfl rfl rfl rfl ?_ | refine Ops.bin rfl rfl rfl rfl rfl ?_ | refine Ops.ixa0 rfl rfl rfl rfl (by omega) (by omega) rfl ?_ | refine Ops.ldCell rfl rfl rfl (by assumption) (by assumption) rfl ?_ | refine Cd.condT rfl (by first | rfl | assumption | (simp only [decide_eq_true_eq, decide_eq_false_iff_not, Bool.not_eq_true', Bool.not_eq_false', Bool.not_eq_eq_eq_not, Bool.not_true, Bool.not_false, beq_iff_eq, beq_eq_false_iff_ne, ne_eq, decide_eq_decide, eq_self, true_iff, iff_true, not_true_eq_false, not_false_eq_true]; first | done | omega)) ?_)
      refine Ops.call (tclone_spec n sv rs G hO (by omega)) rfl (noPd rfl) rfl rfl rfl (fun v A' hR => ?_)
      obtain ⟨n', sv', G', rfl, rfl, hO'⟩ := hR
      repeat' (first | refine Ops.bs1 rfl rfl rfl rfl rfl rfl rfl (noPd rfl) (fun b => ?_))
      refine Ops.app1 (rows := its.map Ti.pn) hl (by rw [List.length_map]; omega) (by rw [List.length_map]; omega) rfl rfl rfl rfl (by rfl) (by rfl) rfl (noPd rfl) rfl (fun v4 G4 h4 => ?_)
      obtain ⟨g4, c4, sp4, rfl, rfl, hsp4, hle4⟩ := h4.some_ (by simp)
      have hl4 : (its.map Ti.pn ++ [[ptr n']]).length = its.length + 1 := by simp
      rw [hl4] at h4 ⊢
      repeat' (first | refine Cd.seq ?_ | refine Cd.reg ?_ | refine Ops.mv rfl rfl rfl rfl ?_ | refine Ops.asg rfl rfl rfl rfl ?_ | refine Ops.ixa0 rfl rfl rfl rfl (by omega) (by omega) rfl ?_ | refine Ops.ldCell rfl rfl rfl (by assumption) (by assumption) rfl ?_)
      refine Ops.call (rclone_spec m rv rs H hP (by omega)) rfl (noPd rfl) rfl rfl rfl (fun v A' hR => ?_)
      obtain ⟨m', rv', H', rfl, rfl, hP'⟩ := hR
      repeat' (first | refine Ops.bs1 rfl rfl rfl rfl rfl rfl rfl (noPd rfl) (fun b => ?_))
      refine Ops.app1 (rows := its.map Ti.pm) hq (by rw [List.length_map]; omega) (by rw [List.length_map]; omega) rfl rfl rfl rfl (by rfl) (by rfl) rfl (noPd rfl) rfl (fun v5 G5 h5 => ?_)
      obtain ⟨g5, c5, sp5, rfl, rfl, hsp5, hle5⟩ := h5.some_ (by simp)
      have hl5 : (its.map Ti.pm ++ [[ptr m']]).length = its.length + 1 := by simp
      rw [hl5] at h5 ⊢
      have hok4 : RowsOk 1 (its.map Ti.pn ++ [[ptr n']]) := hokN.app (RowsOk.one rfl rfl)
      have hlast : (its.map Ti.pn ++ [[ptr n']])[(((its.length + 1 : Nat) : Int) - 1).toNat]? = some [ptr n'] := by
        rw [show (((its.length + 1 : Nat) : Int) - 1).toNat = its.length from by omega, List.getElem?_append_right (by rw [List.length_map]; exact Nat.le_refl _), List.length_map, Nat.sub_self]
        rfl
      repeat' (first | refine Cd.seq ?_ | refine Cd.reg ?_ | refine Ops.nil ?_ | refine Ops.mv rfl rfl rfl rfl ?_ | refine Ops.asg rfl rfl rfl rfl ?_ | refine Ops.lenS rfl rfl rfl rfl ?_ | refine Ops.addI rfl rfl rfl rfl (by omega) (by omega) rfl ?_ | refine Ops.subI rfl rfl rfl rfl (by omega) (by omega) rfl ?_ | refine Ops.bin rfl rfl rfl rfl rfl ?_ | refine Cd.condF rfl rfl ?_ | refine Cd.skip (Cd.next ?_) | refine Cd.exit (Cd.next (Q' := fun _ _ _ => True) ?_) | refine Ops.ixa0 rfl rfl rfl rfl (by omega) (by omega) rfl ?_ | refine Ops.ldCell rfl rfl rfl (by assumption) (by assumption) rfl ?_)
      have e4 : (its ++ [(⟨n', sv', G', m', rv', H', rs⟩ : Ti)]).map Ti.pn = its.map Ti.pn ++ [[ptr n']] := by simp
      have e5 : (its ++ [(⟨n', sv', G', m', rv', H', rs⟩ : Ti)]).map Ti.pm = its.map Ti.pm ++ [[ptr m']] := by simp
      exact Ops.nilN (round_end (NC.mk (k + 1) (its ++ [(⟨n', sv', G', m', rv', H', rs⟩ : Ti)]) (.slice (some ⟨g4, 0, none⟩) (its.length + 1) c4) [(g4, cl ((its.map Ti.pn ++ [[ptr n']]).flatten ++ sp4) 58)] (.slice (some ⟨g5, 0, none⟩) (its.length + 1) c5) [(g5, cl ((its.map Ti.pm ++ [[ptr m']]).flatten ++ sp5) 80)])
        ⟨by show k + 1 ≤ len; omega, by show 0 < (its ++ [_]).length; simp, by show (its ++ [_]).length ≤ k + 1 + 1; simp; omega, by show Own _ 1 _ ((its ++ [_]).map Ti.pn) _; rw [e4]; exact h4, by show Own _ 1 _ ((its ++ [_]).map Ti.pm) _; rw [e5]; exact h5, fun x hx => by
          rcases List.mem_append.1 hx with hx | hx
          · exact hall x hx
          · obtain rfl := List.mem_singleton.1 hx
            exact ⟨hO', hP', hT⟩⟩ (by show len - (k + 1) < len - k; omega) ⟨rfl, rfl, rfl, rfl, trivial⟩
        (fun w h => (h.split : Sat _ ((n, cl [sv] 96) :: (G ++ ((m, cl [rv] 105) :: (H ++ ((n', cl [sv'] 96) :: (G' ++ ((m', cl [rv'] 105) :: (H' ++ ((g4, cl ((its.map Ti.pn ++ [[ptr n']]).flatten ++ sp4) 58) :: ((g5, cl ((its.map Ti.pm ++ [[ptr m']]).flatten ++ sp5) 80) :: F)))))))))) w).perm (hmore ⟨n', sv', G', m', rv', H', rs⟩ [(g4, cl ((its.map Ti.pn ++ [[ptr n']]).flatten ++ sp4) 58)] [(g5, cl ((its.map Ti.pm ++ [[ptr m']]).flatten ++ sp5) 80)])))
    · repeat' (first | refine Cd.seq ?_ | refine Ops.nil ?_ | refine Ops.bin rfl rfl rfl rfl rfl ?_ | refine Cd.skip (Cd.next ?_) | refine Cd.condF rfl (by first | rfl | assumption | (simp only [decide_eq_true_eq, decide_eq_false_iff_not, Bool.not_eq_true', Bool.not_eq_false', Bool.not_eq_eq_eq_not, Bool.not_true, Bool.not_false, beq_iff_eq, beq_eq_false_iff_ne, ne_eq, decide_eq_decide, eq_self, true_iff, iff_true, not_true_eq_false, not_false_eq_true]; first | done | omega)) ?_)
      refine Cd.draw [(0, 0, []), (1, 0, []), (2, 0, []), (3, 1, []), (4, 0, []), (5, 0, []), (6, 0, []), (7, 1, []), (8, 0, []), (9, 0, []), (10, 0, []), (11, 1, []), (12, 2, []), (13, 0, [])] (by kernel_rfl) (by kernel_rfl) (by simp only [picked, nth]; exact rfl) ?_
      repeat' (first | refine Ops.mv rfl rfl rfl rfl ?_ | refine Ops.ixa0 rfl rfl rfl rfl (by omega) (by omega) rfl ?_ | refine Ops.ixa rfl rfl rfl rfl (by omega) (by omega) rfl ?_ | refine Ops.ldCell rfl rfl rfl (by assumption) (by assumption) rfl ?_)
      refine Ops.ldRN (r := o.row) rfl rfl rfl rfl (hrw _) rfl ?_
      skip
      refine Ops.call (tells_spec n m sv rv rs G H o hO hP hT hn0 hn1) rfl (noPd rfl) rfl rfl rfl (fun v A' hR => ?_)
      obtain ⟨rfl, rs', G', H', rfl, hO', hP', hT'⟩ := hR
      repeat' (first | refine Cd.reg ?_ | refine Ops.nil ?_ | refine Ops.mv rfl rfl rfl rfl ?_ | refine Ops.asg rfl rfl rfl rfl ?_ | refine Ops.addI rfl rfl rfl rfl (by omega) (by omega) rfl ?_ | refine Ops.un rfl rfl rfl rfl ?_ | refine Cd.condF rfl rfl ?_ | refine Cd.skip (Cd.next (Q' := fun _ _ _ => True) ?_))
      have e4 : (its.set j (⟨n, sv, G', m, rv, H', rs'⟩ : Ti)).map Ti.pn = its.map Ti.pn := map_set_same hit rfl
      have e5 : (its.set j (⟨n, sv, G', m, rv, H', rs'⟩ : Ti)).map Ti.pm = its.map Ti.pm := map_set_same hit rfl
      exact Ops.nilN (round_end (⟨k + 1, its.set j ⟨n, sv, G', m, rv, H', rs'⟩, _, [(g1, cl ((its.map Ti.pn).flatten ++ sp1) 58)], _, [(g2, cl ((its.map Ti.pm).flatten ++ sp2) 80)]⟩ : NC)
        ⟨by show k + 1 ≤ len; omega, by show 0 < (its.set j _).length; rw [List.length_set]; exact hi0, by show (its.set j _).length ≤ k + 1 + 1; rw [List.length_set]; omega, by show Own _ 1 _ ((its.set j _).map Ti.pn) _; rw [e4]; exact hl, by show Own _ 1 _ ((its.set j _).map Ti.pm) _; rw [e5]; exact hq, all_set_of (fun x hx => hall x hx) ⟨hO', hP', hT'⟩⟩ (by show len - (k + 1) < len - k; omega) ⟨rfl, rfl, rfl, rfl, trivial⟩
        (fun w h => (h.split : Sat _ (TabB n sv G' ++ (TabR m rv H' ++ ((g1, cl ((its.map Ti.pn).flatten ++ sp1) 58) :: ((g2, cl ((its.map Ti.pm).flatten ++ sp2) 80) :: F)))) w).perm (hin ⟨n, sv, G', m, rv, H', rs'⟩)))
  · have hkl' : ¬ (k : Int) < len := by omega
    repeat' (first | refine Cd.seq ?_ | refine Cd.reg ?_ | refine Ops.nil ?_ | refine Ops.mv rfl rfl rfl rfl ?_ | refine Ops.asg rfl rfl rfl rfl ?_ | refine Ops.lenS rfl rfl rfl rfl ?_ | refine Ops.bin rfl rfl rfl rfl rfl ?_ | refine Cd.block ?_ | refine Cd.exit (Cd.next (Q' := fun _ _ _ => True) ?_) | refine Cd.condF rfl (by first | rfl | assumption | (simp only [decide_eq_true_eq, decide_eq_false_iff_not, Bool.not_eq_true', Bool.not_eq_false', Bool.not_eq_eq_eq_not, Bool.not_true, Bool.not_false, beq_iff_eq, beq_eq_false_iff_ne, ne_eq, decide_eq_decide, eq_self, true_iff, iff_true, not_true_eq_false, not_false_eq_true]; first | done | omega)) ?_)
    refine Cd.loopK (fun i : Nat => i ≤ its.length) (fun i => [(9, .slice (some ⟨g1, 0, none⟩) its.length c1), (10, .slice (some ⟨g2, 0, none⟩) its.length c2), (13, .int .i64 i)])
      (fun _ => its.flatMap Ti.blk ++ ([(g1, cl ((its.map Ti.pn).flatten ++ sp1) 58)] ++ [(g2, cl ((its.map Ti.pm).flatten ++ sp2) 80)])) (fun i => its.length - i) 0 (Nat.zero_le _) ⟨rfl, rfl, rfl, trivial⟩ (fun w h => h) (fun i hi => ?_)
    by_cases hil : i < its.length
    · obtain ⟨it, hit⟩ : ∃ it, its[i]? = some it := ⟨_, List.getElem?_eq_getElem (by omega)⟩
      have hinv := hall it (List.mem_of_getElem? hit)
      have hxN : (its.map Ti.pn)[(i : Int).toNat]? = some [ptr it.n] := map_at hit
      have hxM : (its.map Ti.pm)[(i : Int).toNat]? = some [ptr it.m] := map_at hit
      have hout := nc_out (LG := [(g1, cl ((its.map Ti.pn).flatten ++ sp1) 58)]) (QG := [(g2, cl ((its.map Ti.pm).flatten ++ sp2) 80)]) hit
      generalize hF : (its.eraseIdx i).flatMap Ti.blk = F at hout
      obtain ⟨n, sv, G, m, rv, H, rs⟩ := it
      obtain ⟨hO, hP, hT⟩ := hinv
      dsimp only at hO hP hT hxN hxM hout
      refine Cd.blk (A' := TabB n sv G ++ (TabR m rv H ++ ((g1, cl ((its.map Ti.pn).flatten ++ sp1) 58) :: ((g2, cl ((its.map Ti.pm).flatten ++ sp2) 80) :: F)))) ?_ (fun w h => h.perm hout)
      repeat' (first | refine Cd.seq ?_ | refine Cd.reg ?_ | refine Ops.nil ?_ | refine Ops.mv rfl rfl rfl rfl ?_ | refine Ops.lenS rfl rfl rfl rfl ?_ | refine Ops.bin rfl rfl rfl rfl rfl ?_ | refine Cd.block ?_ | refine Cd.skip (Cd.next ?_) | refine Cd.condT rfl (by first | rfl | assumption | (simp only [decide_eq_true_eq, decide_eq_false_iff_not, Bool.not_eq_true', Bool.not_eq_false', Bool.not_eq_eq_eq_not, Bool.not_true, Bool.not_false, beq_iff_eq, beq_eq_false_iff_ne, ne_eq, decide_eq_decide, eq_self, true_iff, iff_true, not_true_eq_false, not_false_eq_true]; first | done | omega)) ?_)
      refine Cd.draw [(0, 0, []), (1, 0, []), (2, 0, []), (3, 1, []), (4, 0, []), (5, 0, []), (6, 0, []), (7, 1, []), (8, 2, []), (9, 0, [])] (by kernel_rfl) (by kernel_rfl) (by simp only [picked, nth]; exact rfl) ?_
      repeat' (first | refine Ops.mv rfl rfl rfl rfl ?_ | refine Ops.ixa0 rfl rfl rfl rfl (by omega) (by omega) rfl ?_ | refine Ops.ldCell rfl rfl rfl (by assumption) (by assumption) rfl ?_)
      refine Ops.call (lrows_spec n m sv rv rs G H hO hP hT) rfl (noPd rfl) rfl rfl rfl (fun v A' hR => ?_)
      obtain ⟨rfl, rfl⟩ := hR
      repeat' (first | refine Cd.reg ?_ | refine Ops.nil ?_ | refine Ops.mv rfl rfl rfl rfl ?_ | refine Ops.asg rfl rfl rfl rfl ?_ | refine Ops.addI rfl rfl rfl rfl (by omega) (by omega) rfl ?_ | refine Ops.un rfl rfl rfl rfl ?_ | refine Cd.condF rfl rfl ?_ | refine Cd.skip (Cd.next (Q' := fun _ _ _ => True) ?_))
      exact Ops.nilN (round_end (i + 1) (by show i + 1 ≤ its.length; omega) (by show its.length - (i + 1) < its.length - i; omega) ⟨rfl, rfl, rfl, trivial⟩ (fun w h =>
        (h.split : Sat _ (TabB n sv G ++ (TabR m rv H ++ ((g1, cl ((its.map Ti.pn).flatten ++ sp1) 58) :: ((g2, cl ((its.map Ti.pm).flatten ++ sp2) 80) :: F)))) w).perm hout.symm))
    · repeat' (first | refine Cd.seq ?_ | refine Cd.reg ?_ | refine Ops.nil ?_ | refine Ops.mv rfl rfl rfl rfl ?_ | refine Ops.asg rfl rfl rfl rfl ?_ | refine Ops.lenS rfl rfl rfl rfl ?_ | refine Ops.bin rfl rfl rfl rfl rfl ?_ | refine Cd.exit (Cd.next (Q' := fun _ _ _ => True) ?_) | refine Cd.condF rfl (by first | rfl | assumption | (simp only [decide_eq_true_eq, decide_eq_false_iff_not, Bool.not_eq_true', Bool.not_eq_false', Bool.not_eq_eq_eq_not, Bool.not_true, Bool.not_false, beq_iff_eq, beq_eq_false_iff_ne, ne_eq, decide_eq_decide, eq_self, true_iff, iff_true, not_true_eq_false, not_false_eq_true]; first | done | omega)) ?_)
      exact Cd.ret (ret1 rfl (Res.tmp rfl) (fun _ h => h) rfl)
end Go.Proofs.Ytdfimjgbdipnjaa
