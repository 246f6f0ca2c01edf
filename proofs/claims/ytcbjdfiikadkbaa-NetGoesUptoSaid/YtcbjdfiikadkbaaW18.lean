import Derived.Test.YtcbjdfiikadkbaaW17
import Derived.Test.YtcbjdfiikadkbaaW4
import Derived.Test.YtcbjdfiikadkbaaW5
namespace Go.Proofs.Ytcbjdfiikadkbaa
open Go Go.Sep Go.Proofs
set_option maxRecDepth 10000
set_option maxHeartbeats 4000000
set_option synthInstance.maxSize 2000
set_option linter.unusedSimpArgs false
set_option linter.unusedVariables false

@[reducible] def gd (i : Nat) (s : ByteArray) : Dg := ⟨(i : Int) + 1, i, 0, 0, 0, s⟩
def gds (ds : List ByteArray) : List Dg := ds.zipIdx.map fun p => gd p.2 p.1
theorem gds_len (ds : List ByteArray) : (gds ds).length = ds.length := by simp [gds]
theorem gds_at (ds : List ByteArray) (k : Nat) (s : ByteArray) (h : ds[k]? = some s) : (gds ds)[k]? = some (gd k s) := by simp [gds, h]
theorem gds_take (ds : List ByteArray) (k : Nat) (s : ByteArray) (h : ds[k]? = some s) : gds (ds.take (k + 1)) = gds (ds.take k) ++ [gd k s] := by
  have hk := (List.getElem?_eq_some_iff.1 h).1
  rw [List.take_add_one, h]
  simp [gds, List.zipIdx_append, Nat.min_eq_left (Nat.le_of_lt hk)]
def Strs (B : Base) (a : Option Addr) (len : Nat) (ds : List ByteArray) : Prop :=
  ds.length = len ∧ ∀ (i : Nat) (s : ByteArray), ds[i]? = some s → ∃ b off, a = some ⟨b, off, none⟩ ∧ ∀ (A : List Blk), Rd B A b (off + i * 1) (.string s)
structure LS where
  k : Nat
  sv : Value
  G : List Blk
structure NS where
  bag : List Dg
  sv : Value
  sent : Int
  G : List Blk
def NOk (m : Nat) (s : NS) : Prop := OwnD s.sv s.bag s.G ∧ s.bag.length ≤ m ∧ 0 ≤ s.sent ∧ s.sent ≤ m
theorem NOk.more {m m' : Nat} {s : NS} (h : NOk m s) (hm : m ≤ m') : NOk m' s := ⟨h.1, by have := h.2.1; omega, h.2.2.1, by have := h.2.2.2; omega⟩

@[reducible] def GB (b3 b4 b5 b6 b7 b9 b10 bA n : Nat) (sa : Option Addr) (len cap : Nat) (leave : Int) (ca : Option Addr) (clen ccap : Nat) (k : Nat) (sv : Value) (sent : Int) (G : List Blk) : List Blk :=
  (b10, cl [.int .i64 k] 3) :: (b9, cl [.func (.func 24) #[] #[ptr bA]] 46) :: (b3, cl [.slice sa len cap] 43) :: (b4, cl [.int .i64 leave] 3) :: (b5, cl [.slice ca clen ccap] 22) :: (b6, cl [.bool false] 4) :: (b7, cl [ptr n] 23) :: (bA, cl [ptr n] 23) :: NetB n sv sent G
@[reducible] def GT (b3 b4 b5 b6 b7 b9 b10 : Nat) : Tm := [(3, ptr b3), (4, ptr b4), (5, ptr b5), (6, ptr b6), (7, ptr b7), (9, ptr b9), (10, ptr b10)]

theorem goes_spec (w : World) (sa : Option Addr) (len cap : Nat) (ds : List ByteArray) (leave : Int) (ca : Option Addr) (clen ccap : Nat) (ops : List SOp) (hs : Strs (baseOf w) sa len ds) (hc : Script (baseOf w) ca clen ops) (hlen : len ≤ 1048576) :
    Calls Try.prog 5 #[.slice sa len cap, .int .i64 leave, .slice ca clen ccap] w fun e w' => e = .returned (.bool true) ∧ RowKit.Below w.heap.size w w' := by
  refine calls_base (vs := [_, _, _]) Try.func5 rfl Try.ntmps5 rfl ?_
  refine Cd.seq ?_
  refine Cd.reg ?_
  refine Ops.box rfl rfl rfl rfl (noPd rfl) (fun b3 => ?_)
  refine Ops.box rfl rfl rfl rfl (noPd rfl) (fun b4 => ?_)
  refine Ops.box rfl rfl rfl rfl (noPd rfl) (fun b5 => ?_)
  refine Ops.alloc rfl rfl rfl (noPd rfl) (fun b6 => ?_)
  repeat' (first | refine Cd.seq ?_ | refine Cd.reg ?_)
  refine Ops.call new_spec rfl (noPd rfl) rfl rfl rfl (fun v A' hR => ?_)
  obtain ⟨n, rfl, rfl⟩ := hR
  repeat' (first | refine Cd.seq ?_ | refine Cd.reg ?_ | refine Ops.alloc rfl rfl rfl (noPd rfl) (fun b => ?_) | refine Ops.st1 rfl rfl rfl rfl rfl (noPd rfl) ?_)
  rename Nat => b7
  refine Ops.call awake_spec rfl (noPd rfl) rfl rfl rfl (fun v A' hR => ?_)
  obtain ⟨rfl, rfl⟩ := hR
  repeat' (first | refine Cd.seq ?_ | refine Cd.reg ?_ | refine Ops.nil ?_ | refine Ops.mv rfl rfl rfl rfl ?_ | refine Ops.asg rfl rfl rfl rfl ?_ | refine Ops.ld1 rfl rfl rfl rfl rfl ?_ | refine Ops.bin rfl rfl rfl rfl rfl ?_ | refine Ops.un rfl rfl rfl rfl ?_ | refine Ops.pickF rfl rfl rfl rfl rfl ?_ | refine Cd.condF rfl rfl ?_ | refine Cd.block ?_ | refine Cd.skip (Cd.next ?_))
  refine Cd.loopK (fun s : LS => s.k ≤ len ∧ OwnD s.sv (gds (ds.take s.k)) s.G) (fun s => [(3, ptr b3), (4, ptr b4), (5, ptr b5), (6, ptr b6), (7, ptr b7), (8, .int .i64 s.k)])
    (fun s => (b3, cl [.slice sa len cap] 43) :: (b4, cl [.int .i64 leave] 3) :: (b5, cl [.slice ca clen ccap] 22) :: (b6, cl [.bool false] 4) :: (b7, cl [ptr n] 23) :: NetB n s.sv s.k s.G) (fun s => len - s.k) ⟨0, .slice none 0 0, []⟩
    ⟨Nat.zero_le _, Own.none⟩ ⟨rfl, rfl, rfl, rfl, rfl, rfl, trivial⟩ (fun w h => (h.split : Sat _ ((b3, cl [.slice sa len cap] 43) :: (b4, cl [.int .i64 leave] 3) :: (b5, cl [.slice ca clen ccap] 22) :: (b6, cl [.bool false] 4) :: (b7, cl [ptr n] 23) :: [(n, cl [.slice none 0 0, .int .i64 0] 58)]) w)) (fun s hI => ?_)
  obtain ⟨k, sv, G⟩ := s
  obtain ⟨hk, hO⟩ := hI
  dsimp only at hk hO ⊢
  have hbl : (gds (ds.take k)).length = k := by rw [gds_len, List.length_take, hs.1]; omega
  by_cases hkl : k < len
  · have hkl' : (k : Int) < len := by omega
    obtain ⟨s, hds⟩ : ∃ s, ds[k]? = some s := ⟨_, List.getElem?_eq_getElem (by rw [hs.1]; exact hkl)⟩
    obtain ⟨b0, off, rfl, hrd⟩ := hs.2 k s hds
    repeat' (first | refine Cd.seq ?_ | refine Cd.reg ?_ | refine Ops.nil ?_ | refine Ops.mv rfl rfl rfl rfl ?_ | refine Ops.ld1 rfl rfl rfl rfl rfl ?_ | refine Ops.lenS rfl rfl rfl rfl ?_ | refine Ops.bin rfl rfl rfl rfl rfl ?_ | refine Cd.block ?_ | refine Cd.skip (Cd.next ?_) | refine Cd.condT rfl (by first | rfl | assumption | (simp only [decide_eq_true_eq, decide_eq_false_iff_not, Bool.not_eq_true', Bool.not_eq_false', Bool.not_eq_eq_eq_not, Bool.not_true, Bool.not_false, beq_iff_eq, beq_eq_false_iff_ne, ne_eq, decide_eq_decide, eq_self, true_iff, iff_true, not_true_eq_false, not_false_eq_true]; first | done | omega)) ?_)
    refine Cd.draw [(0, 1, []), (1, 0, []), (2, 0, []), (3, 0, []), (4, 1, []), (5, 0, []), (6, 0, []), (7, 1, []), (8, 2, [])] (by kernel_rfl) (by kernel_rfl) (by simp only [picked, nth]; exact rfl) ?_
    repeat' (first | refine Ops.mv rfl rfl rfl rfl ?_ | refine Ops.ld1 rfl rfl rfl rfl rfl ?_ | refine Ops.bld rfl rfl rfl rfl ?_ | refine Ops.ixa rfl rfl rfl rfl (by omega) (by omega) rfl ?_)
    refine Ops.ldR (v := .string s) rfl rfl rfl (by rw [Int.toNat_natCast]; exact hrd _) rfl ?_
    skip
    refine Ops.call (send_spec n sv (gds (ds.take k)) k k 0 0 0 s G hO (by omega) (by omega) (by omega)) rfl (noPd rfl) rfl rfl rfl (fun v A' hR => ?_)
    obtain ⟨rfl, sv', G', rfl, hG'⟩ := hR
    repeat' (first | refine Ops.nilN (inB (Cd.next ?_)) | refine Cd.reg ?_ | refine Ops.mv rfl rfl rfl rfl ?_ | refine Ops.asg rfl rfl rfl rfl ?_ | refine Ops.addI rfl rfl rfl rfl (by omega) (by omega) rfl ?_)
    exact Ops.nilN (round_end (⟨k + 1, sv', G'⟩ : LS) ⟨by show k + 1 ≤ len; omega, by show OwnD sv' (gds (ds.take (k + 1))) G'; rw [gds_take ds k s hds]; exact hG'⟩ (by show len - (k + 1) < len - k; omega) ⟨rfl, rfl, rfl, rfl, rfl, rfl, trivial⟩ (fun w h => (h.split : Sat _ ((b3, cl [.slice (some ⟨b0, off, none⟩) len cap] 43) :: (b4, cl [.int .i64 leave] 3) :: (b5, cl [.slice ca clen ccap] 22) :: (b6, cl [.bool false] 4) :: (b7, cl [ptr n] 23) :: NetB n sv' ((k : Int) + 1) G') w)))
  · have hkl' : ¬ (k : Int) < len := by omega
    obtain rfl : k = len := by omega
    rw [List.take_of_length_le (by rw [hs.1]; omega)] at hO hbl
    repeat' (first | refine Cd.seq ?_ | refine Cd.reg ?_ | refine Ops.nil ?_ | refine Ops.mv rfl rfl rfl rfl ?_ | refine Ops.ld1 rfl rfl rfl rfl rfl ?_ | refine Ops.lenS rfl rfl rfl rfl ?_ | refine Ops.bin rfl rfl rfl rfl rfl ?_ | refine Cd.exit (Cd.next (Q' := fun _ _ _ => True) ?_) | refine Cd.condF rfl (by first | rfl | assumption | (simp only [decide_eq_true_eq, decide_eq_false_iff_not, Bool.not_eq_true', Bool.not_eq_false', Bool.not_eq_eq_eq_not, Bool.not_true, Bool.not_false, beq_iff_eq, beq_eq_false_iff_ne, ne_eq, decide_eq_decide, eq_self, true_iff, iff_true, not_true_eq_false, not_false_eq_true]; first | done | omega)) ?_)
    refine Ops.call (all_spec n) rfl (noPd rfl) rfl rfl rfl (fun v A' hR => ?_)
    obtain ⟨bA, rfl, rfl⟩ := hR
    repeat' (first | refine Cd.seq ?_ | refine Cd.reg ?_ | refine Ops.nil ?_ | refine Ops.ld1 rfl rfl rfl rfl rfl ?_ | refine Ops.alloc rfl rfl rfl (noPd rfl) (fun b => ?_) | refine Ops.st1 rfl rfl rfl rfl rfl (noPd rfl) ?_ | refine Cd.block ?_)
    rename_i b9
    rename Nat => b10
    refine Cd.range (X := Nat × Dg) (C0 := GB b3 b4 b5 b6 b7 b9 b10 bA n sa k cap leave ca clen ccap 0 sv k G) (all_iter0 n bA sv (gds ds) k G hO (by omega)) rfl rfl (ps := [41, 42]) rfl (fun _ => rfl)
      (fun pre C => ∃ s : NS, NOk (k + pre.length) s ∧ pre = (told (gds ds)).take pre.length ∧ (pre = [] → C = GB b3 b4 b5 b6 b7 b9 b10 bA n sa k cap leave ca clen ccap 0 sv k G) ∧ C = GB b3 b4 b5 b6 b7 b9 b10 bA n sa k cap leave ca clen ccap pre.length s.sv s.sent s.G)
      (fun c pre C => c = Code.exit 2 ∧ (pre.length : Int) = leave ∧ ∃ s : NS, C = GB b3 b4 b5 b6 b7 b9 b10 bA n sa k cap leave ca clen ccap pre.length s.sv s.sent s.G)
      (fun pre x T C => ∃ (s : NS) (d : Dg) (b12 : Nat), NOk (k + pre.length) s ∧ (gds ds)[pre.length]? = some d ∧ x = (pre.length, d) ∧ T = (11, .int .i64 pre.length) :: (12, ptr b12) :: GT b3 b4 b5 b6 b7 b9 b10 ∧ C = (b12, cl d.row 33) :: GB b3 b4 b5 b6 b7 b9 b10 bA n sa k cap leave ca clen ccap pre.length s.sv s.sent s.G)
      (fun w hw => (hw.split : Sat _ (GB b3 b4 b5 b6 b7 b9 b10 bA n sa k cap leave ca clen ccap 0 sv k G) w))
      ⟨⟨gds ds, sv, k, G⟩, ⟨hO, by show (gds ds).length ≤ _; simp; omega, by show (0 : Int) ≤ k; omega, by show (k : Int) ≤ ((k + 0 : Nat) : Int); omega⟩, rfl, fun _ => rfl, rfl⟩
      (fun C ⟨s, _, _, hC, _⟩ => ⟨(b10, cl [.int .i64 ((0 : Nat) : Int)] 3) :: (b9, cl [.func (.func 24) #[] #[ptr bA]] 46) :: (b3, cl [.slice sa k cap] 43) :: (b4, cl [.int .i64 leave] 3) :: (b5, cl [.slice ca clen ccap] 22) :: (b6, cl [.bool false] 4) :: [(b7, cl [ptr n] 23)], by
        rw [hC rfl]
        exact (Split.perm (A := GB b3 b4 b5 b6 b7 b9 b10 bA n sa k cap leave ca clen ccap 0 sv k G) (A1 := (bA, cl [ptr n] 23) :: NetB n sv k G))⟩)
      ?_ ?_ ?_ ?_
    · rintro B2 pre x C hx hok ⟨s, hN, hpre, _, rfl⟩
      obtain ⟨_, _, d, hd, rfl⟩ := told_inv hok
      repeat' (first | refine Cd.seq ?_ | refine Cd.reg ?_ | refine Ops.asg rfl rfl rfl rfl ?_ | refine Ops.alloc rfl rfl rfl (noPd rfl) (fun b => ?_) | refine Ops.stN rfl rfl rfl rfl rfl rfl (noPd rfl) ?_)
      exact Ops.nilN (asg_end ⟨s, d, _, hN, hd, rfl, rfl, rfl⟩ (fun a hF => hF.keeps ⟨rfl, rfl, rfl, rfl, rfl, rfl, rfl, rfl, rfl, trivial⟩) (fun w h => h))
    · rintro lp r B2 pre x T C hro hlp hx hok ⟨s0, d, b12, hN, hd, rfl, rfl, rfl⟩
      obtain ⟨hpre, hpl, _⟩ := told_inv hok
      have hpk : pre.length < k := by rw [gds_len, hs.1] at hpl; exact hpl
      obtain ⟨st, hds⟩ : ∃ s, ds[pre.length]? = some s := ⟨_, List.getElem?_eq_getElem (by rw [hs.1]; exact hpk)⟩
      have hpre' : pre ++ [(pre.length, d)] = (told (gds ds)).take (pre ++ [(pre.length, d)]).length := by
        rw [List.length_append]
        show _ = (told (gds ds)).take (pre.length + 1)
        rw [← told_next hd, ← hpre]
      obtain rfl : gd pre.length st = d := Option.some.inj ((gds_at ds _ st hds).symm.trans hd)
      obtain ⟨bd, offd, hsa, hrd⟩ := hs.2 pre.length st hds
      subst hsa
      have hr0 : ∀ A, Rd B2 A bd (offd + (pre.length : Int).toNat * 1) (.string st) := fun A => by rw [Int.toNat_natCast]; exact (hrd A).ext hx
      have hkl2 : ¬ (k : Int) ≤ pre.length := by omega
      generalize hq : pre.length = q at *
      obtain ⟨bag0, sv0, sent0, G0⟩ := s0
      obtain ⟨hO0, hb0, hs0, hs1⟩ := hN
      dsimp only at hO0 hb0 hs0 hs1 ⊢
      obtain ⟨na, nc, rfl⟩ := hO0.form
      generalize hc15 : Code.seq (Code.seq (Code.region 15 _ _) _) _ = c15
      repeat' (first | refine Cd.seq ?_ | refine Cd.block ?_)
      refine Cd.draw [(0, 0, []), (1, 1, []), (2, 0, []), (3, 0, []), (4, 1, []), (5, 1, []), (6, 1, []), (7, 0, []), (8, 0, []), (9, 0, []), (10, 0, []), (11, 1, []), (12, 1, []), (13, 0, []), (14, 0, []), (15, 0, []), (16, 0, []), (17, 0, []), (18, 0, []), (19, 1, []), (20, 1, []), (21, 0, []), (22, 0, []), (23, 0, []), (24, 0, []), (25, 1, []), (26, 1, []), (27, 1, []), (28, 0, []), (29, 1, []), (30, 0, []), (31, 0, [])] (by kernel_rfl) (by kernel_rfl) (by simp only [picked, nth]; exact rfl) ?_
      repeat' (first | refine Ops.mv rfl rfl rfl rfl ?_ | refine Ops.fa0 rfl rfl rfl rfl ?_ | refine Ops.fa rfl rfl rfl rfl ?_ | refine Ops.ld1 rfl rfl rfl rfl rfl ?_ | refine Ops.lenS rfl rfl rfl rfl ?_ | refine Ops.addI rfl rfl rfl rfl (by omega) (by omega) rfl ?_ | refine Ops.bin rfl rfl rfl rfl rfl ?_ | refine Ops.pickF rfl rfl rfl rfl rfl ?_ | refine Ops.ixa rfl rfl rfl rfl (by omega) (by omega) rfl ?_ | ((fail_if_success refine Ops.probe rfl ?_); refine Ops.gF rfl rfl (by first | rfl | assumption | (simp only [decide_eq_true_eq, decide_eq_false_iff_not, Bool.not_eq_true', Bool.not_eq_false', Bool.not_eq_eq_eq_not, Bool.not_true, Bool.not_false, beq_iff_eq, beq_eq_false_iff_ne, ne_eq, decide_eq_decide, eq_self, true_iff, iff_true, not_true_eq_false, not_false_eq_true]; first | done | omega)) ?_))
      refine Ops.ldR rfl rfl rfl (hr0 _) rfl ?_
      repeat' (first | refine Ops.nil ?_ | refine Ops.bin rfl rfl rfl rfl rfl ?_ | refine Ops.pickF rfl rfl rfl rfl rfl ?_ | refine Cd.condF rfl rfl ?_ | refine Cd.skip (Cd.next ?_))
      subst hc15
      refine Cd.cut (σ := NS) (NOk (k + q + 1)) (fun _ => (11, .int .i64 q) :: (12, ptr b12) :: GT b3 b4 b5 b6 b7 b9 b10)
        (fun s => (b12, cl (gd q st).row 33) :: GB b3 b4 b5 b6 b7 b9 b10 bA n (some ⟨bd, offd, none⟩) k cap leave ca clen ccap q s.sv s.sent s.G) ?_ (fun s hN2 => ?_)
      · have stay : NOk (k + q + 1) ⟨bag0, .slice na bag0.length nc, sent0, G0⟩ := ⟨hO0, by show bag0.length ≤ _; omega, hs0, by show sent0 ≤ _; omega⟩
        by_cases hqc : q < clen
        · have hqc' : (q : Int) < clen := by omega
          obtain ⟨o, ho⟩ : ∃ o, ops[q]? = some o := ⟨_, List.getElem?_eq_getElem (by rw [hc.1]; exact hqc)⟩
          obtain ⟨bo, offo, hca, hrow⟩ := hc.2 q o ho
          subst hca
          have hrk : ∀ A, Rd B2 A bo (offo + (q : Int).toNat * 8 + 0) (.int .i64 o.kind) := fun A => by rw [Int.toNat_natCast]; exact (hrow A 0 _ rfl).ext hx
          have hrp : ∀ A, Rd B2 A bo (offo + (q : Int).toNat * 8 + 2) (.int .i64 o.place) := fun A => by rw [Int.toNat_natCast]; exact (hrow A 2 _ rfl).ext hx
          have hrf : ∀ A j u, [Value.int .i64 o.fn, .int .i64 o.fl][j]? = some u → Rd B2 A bo (offo + (q : Int).toNat * 8 + 3 + j) u := fun A j u hu => by
            rw [Int.toNat_natCast]
            match j, hu with
            | 0, hu => exact (hrow A 3 u hu).ext hx
            | 1, hu => exact (hrow A 4 u hu).ext hx
          have hrt : ∀ A j u, [Value.int .i64 o.tn, .int .i64 o.tl][j]? = some u → Rd B2 A bo (offo + (q : Int).toNat * 8 + 5 + j) u := fun A j u hu => by
            rw [Int.toNat_natCast]
            match j, hu with
            | 0, hu => exact (hrow A 5 u hu).ext hx
            | 1, hu => exact (hrow A 6 u hu).ext hx
          have hrs : ∀ A, Rd B2 A bo (offo + (q : Int).toNat * 8 + 7) (.string o.data) := fun A => by rw [Int.toNat_natCast]; exact (hrow A 7 _ rfl).ext hx
          repeat' (first | refine Cd.seq ?_ | refine Cd.reg ?_ | refine Ops.nil ?_ | refine Ops.fa rfl rfl rfl rfl ?_ | refine Ops.ld1 rfl rfl rfl rfl rfl ?_ | refine Ops.lenS rfl rfl rfl rfl ?_ | refine Ops.bin rfl rfl rfl rfl rfl ?_ | refine Ops.ixa rfl rfl rfl rfl (by omega) (by omega) rfl ?_ | refine Cd.condT rfl (by first | rfl | assumption | (simp only [decide_eq_true_eq, decide_eq_false_iff_not, Bool.not_eq_true', Bool.not_eq_false', Bool.not_eq_eq_eq_not, Bool.not_true, Bool.not_false, beq_iff_eq, beq_eq_false_iff_ne, ne_eq, decide_eq_decide, eq_self, true_iff, iff_true, not_true_eq_false, not_false_eq_true]; first | done | omega)) ?_)
          refine Ops.ldR rfl rfl rfl (hrp _) rfl ?_
          repeat' (first | refine Cd.seq ?_ | refine Cd.reg ?_ | refine Ops.asg rfl rfl rfl rfl ?_ | refine Ops.fa rfl rfl rfl rfl ?_ | refine Ops.ld1 rfl rfl rfl rfl rfl ?_ | refine Ops.ixa rfl rfl rfl rfl (by omega) (by omega) rfl ?_)
          refine Ops.ldR rfl rfl rfl (hrk _) rfl ?_
          by_cases h1 : o.kind = 1
          · repeat' (first | refine Cd.seq ?_ | refine Cd.reg ?_ | refine Ops.nil ?_ | refine Ops.asg rfl rfl rfl rfl ?_ | refine Ops.bin rfl rfl rfl rfl rfl ?_ | refine Cd.block ?_ | refine Cd.condT rfl (by first | rfl | assumption | (simp only [decide_eq_true_eq, decide_eq_false_iff_not, Bool.not_eq_true', Bool.not_eq_false', Bool.not_eq_eq_eq_not, Bool.not_true, Bool.not_false, beq_iff_eq, beq_eq_false_iff_ne, ne_eq, decide_eq_decide, eq_self, true_iff, iff_true, not_true_eq_false, not_false_eq_true]; first | done | omega)) ?_)
            refine Cd.draw [(0, 1, []), (1, 1, []), (2, 1, []), (3, 0, []), (4, 0, []), (5, 1, []), (6, 1, []), (7, 1, []), (8, 0, []), (9, 0, []), (10, 1, []), (11, 1, []), (12, 1, []), (13, 0, []), (14, 0, []), (15, 1, []), (16, 2, [])] (by kernel_rfl) (by kernel_rfl) (by simp only [picked, nth]; exact rfl) ?_
            repeat' (first | refine Ops.fa rfl rfl rfl rfl ?_ | refine Ops.ld1 rfl rfl rfl rfl rfl ?_ | refine Ops.ixa rfl rfl rfl rfl (by omega) (by omega) rfl ?_)
            refine Ops.ldRN (r := [.int .i64 o.fn, .int .i64 o.fl]) rfl rfl rfl rfl (hrf _) rfl ?_
            repeat' (first | refine Ops.fa rfl rfl rfl rfl ?_ | refine Ops.ld1 rfl rfl rfl rfl rfl ?_ | refine Ops.ixa rfl rfl rfl rfl (by omega) (by omega) rfl ?_)
            refine Ops.ldRN (r := [.int .i64 o.tn, .int .i64 o.tl]) rfl rfl rfl rfl (hrt _) rfl ?_
            repeat' (first | refine Ops.fa rfl rfl rfl rfl ?_ | refine Ops.ld1 rfl rfl rfl rfl rfl ?_ | refine Ops.ixa rfl rfl rfl rfl (by omega) (by omega) rfl ?_)
            refine Ops.ldR rfl rfl rfl (hrs _) rfl ?_
            skip
            refine Ops.call (send_spec n (.slice na bag0.length nc) bag0 sent0 o.fn o.fl o.tn o.tl o.data G0 hO0 (by omega) hs0 (by omega)) rfl (noPd rfl) rfl rfl rfl (fun v A' hR => ?_)
            obtain ⟨rfl, sv', G', rfl, hG'⟩ := hR
            skip
            exact Ops.nilN (inB (meet_end (Q := fun _ _ _ => True) (⟨_, sv', sent0 + 1, G'⟩ : NS) ⟨hG', by show (bag0 ++ [_]).length ≤ _; simp; omega, by show 0 ≤ sent0 + 1; omega, by show sent0 + 1 ≤ _; omega⟩ ⟨rfl, rfl, rfl, rfl, rfl, rfl, rfl, rfl, rfl, trivial⟩ (fun w h => h.split)))
          · by_cases h2 : o.kind = 2
            · repeat' (first | refine Cd.seq ?_ | refine Cd.reg ?_ | refine Ops.nil ?_ | refine Ops.mv rfl rfl rfl rfl ?_ | refine Ops.asg rfl rfl rfl rfl ?_ | refine Ops.ld1 rfl rfl rfl rfl rfl ?_ | refine Ops.bin rfl rfl rfl rfl rfl ?_ | refine Cd.block ?_ | refine Cd.condT rfl (by first | rfl | assumption | (simp only [decide_eq_true_eq, decide_eq_false_iff_not, Bool.not_eq_true', Bool.not_eq_false', Bool.not_eq_eq_eq_not, Bool.not_true, Bool.not_false, beq_iff_eq, beq_eq_false_iff_ne, ne_eq, decide_eq_decide, eq_self, true_iff, iff_true, not_true_eq_false, not_false_eq_true]; first | done | omega)) ?_ | refine Cd.condF rfl (by first | rfl | assumption | (simp only [decide_eq_true_eq, decide_eq_false_iff_not, Bool.not_eq_true', Bool.not_eq_false', Bool.not_eq_eq_eq_not, Bool.not_true, Bool.not_false, beq_iff_eq, beq_eq_false_iff_ne, ne_eq, decide_eq_decide, eq_self, true_iff, iff_true, not_true_eq_false, not_false_eq_true]; first | done | omega)) ?_)
              by_cases hp : o.place < 0 ∨ (bag0.length : Int) ≤ o.place
              · refine Ops.call (take_no n (.slice na bag0.length nc) bag0 sent0 o.place G0 hO0 hp) rfl (noPd rfl) rfl rfl rfl (fun v A' hR => ?_)
                obtain ⟨rfl, rfl⟩ := hR
                skip
                exact Ops.nilN (inB (meet_end (Q := fun _ _ _ => True) (⟨bag0, _, sent0, G0⟩ : NS) stay ⟨rfl, rfl, rfl, rfl, rfl, rfl, rfl, rfl, rfl, trivial⟩ (fun w h => h.split)))
              · obtain ⟨y, hy⟩ : ∃ y, bag0[o.place.toNat]? = some y := ⟨_, List.getElem?_eq_getElem (by omega)⟩
                refine Ops.call (take_yes n (.slice na bag0.length nc) bag0 sent0 o.place G0 y hO0 (by omega) hy (by omega)) rfl (noPd rfl) rfl rfl rfl (fun v A' hR => ?_)
                obtain ⟨rfl, sv', G', rfl, hG'⟩ := hR
                skip
                exact Ops.nilN (inB (meet_end (Q := fun _ _ _ => True) (⟨_, sv', sent0, G'⟩ : NS) ⟨hG', by show (bag0.eraseIdx _).length ≤ _; have := List.length_eraseIdx_le bag0 o.place.toNat; omega, hs0, by show sent0 ≤ _; omega⟩ ⟨rfl, rfl, rfl, rfl, rfl, rfl, rfl, rfl, rfl, trivial⟩ (fun w h => h.split)))
            · by_cases h3 : o.kind = 3
              · repeat' (first | refine Cd.seq ?_ | refine Cd.reg ?_ | refine Ops.nil ?_ | refine Ops.mv rfl rfl rfl rfl ?_ | refine Ops.asg rfl rfl rfl rfl ?_ | refine Ops.ld1 rfl rfl rfl rfl rfl ?_ | refine Ops.bin rfl rfl rfl rfl rfl ?_ | refine Cd.block ?_ | refine Cd.condT rfl (by first | rfl | assumption | (simp only [decide_eq_true_eq, decide_eq_false_iff_not, Bool.not_eq_true', Bool.not_eq_false', Bool.not_eq_eq_eq_not, Bool.not_true, Bool.not_false, beq_iff_eq, beq_eq_false_iff_ne, ne_eq, decide_eq_decide, eq_self, true_iff, iff_true, not_true_eq_false, not_false_eq_true]; first | done | omega)) ?_ | refine Cd.condF rfl (by first | rfl | assumption | (simp only [decide_eq_true_eq, decide_eq_false_iff_not, Bool.not_eq_true', Bool.not_eq_false', Bool.not_eq_eq_eq_not, Bool.not_true, Bool.not_false, beq_iff_eq, beq_eq_false_iff_ne, ne_eq, decide_eq_decide, eq_self, true_iff, iff_true, not_true_eq_false, not_false_eq_true]; first | done | omega)) ?_)
                by_cases hp : o.place < 0 ∨ (bag0.length : Int) ≤ o.place
                · refine Ops.call (drop_no n (.slice na bag0.length nc) bag0 sent0 o.place G0 hO0 hp) rfl (noPd rfl) rfl rfl rfl (fun v A' hR => ?_)
                  obtain ⟨rfl, rfl⟩ := hR
                  skip
                  exact Ops.nilN (inB (meet_end (Q := fun _ _ _ => True) (⟨bag0, _, sent0, G0⟩ : NS) stay ⟨rfl, rfl, rfl, rfl, rfl, rfl, rfl, rfl, rfl, trivial⟩ (fun w h => h.split)))
                · obtain ⟨y, hy⟩ : ∃ y, bag0[o.place.toNat]? = some y := ⟨_, List.getElem?_eq_getElem (by omega)⟩
                  refine Ops.call (drop_yes n (.slice na bag0.length nc) bag0 sent0 o.place G0 y hO0 (by omega) hy (by omega)) rfl (noPd rfl) rfl rfl rfl (fun v A' hR => ?_)
                  obtain ⟨rfl, sv', G', rfl, hG'⟩ := hR
                  skip
                  exact Ops.nilN (inB (meet_end (Q := fun _ _ _ => True) (⟨_, sv', sent0, G'⟩ : NS) ⟨hG', by show (bag0.eraseIdx _).length ≤ _; have := List.length_eraseIdx_le bag0 o.place.toNat; omega, hs0, by show sent0 ≤ _; omega⟩ ⟨rfl, rfl, rfl, rfl, rfl, rfl, rfl, rfl, rfl, trivial⟩ (fun w h => h.split)))
              · repeat' (first | refine Cd.seq ?_ | refine Cd.reg ?_ | refine Ops.nil ?_ | refine Ops.mv rfl rfl rfl rfl ?_ | refine Ops.asg rfl rfl rfl rfl ?_ | refine Ops.ld1 rfl rfl rfl rfl rfl ?_ | refine Ops.bin rfl rfl rfl rfl rfl ?_ | refine Cd.block ?_ | refine Cd.condF rfl (by first | rfl | assumption | (simp only [decide_eq_true_eq, decide_eq_false_iff_not, Bool.not_eq_true', Bool.not_eq_false', Bool.not_eq_eq_eq_not, Bool.not_true, Bool.not_false, beq_iff_eq, beq_eq_false_iff_ne, ne_eq, decide_eq_decide, eq_self, true_iff, iff_true, not_true_eq_false, not_false_eq_true]; first | done | omega)) ?_)
                by_cases hp : o.place < 0 ∨ (bag0.length : Int) ≤ o.place
                · refine Ops.call (dup_no n (.slice na bag0.length nc) bag0 sent0 o.place G0 hO0 hp) rfl (noPd rfl) rfl rfl rfl (fun v A' hR => ?_)
                  obtain ⟨rfl, rfl⟩ := hR
                  skip
                  exact Ops.nilN (inB (meet_end (Q := fun _ _ _ => True) (⟨bag0, _, sent0, G0⟩ : NS) stay ⟨rfl, rfl, rfl, rfl, rfl, rfl, rfl, rfl, rfl, trivial⟩ (fun w h => h.split)))
                · obtain ⟨y, hy⟩ : ∃ y, bag0[o.place.toNat]? = some y := ⟨_, List.getElem?_eq_getElem (by omega)⟩
                  refine Ops.call (dup_yes n (.slice na bag0.length nc) bag0 sent0 o.place G0 y hO0 (by omega) hy (by omega) hs0 (by omega)) rfl (noPd rfl) rfl rfl rfl (fun v A' hR => ?_)
                  obtain ⟨rfl, sv', G', rfl, hG'⟩ := hR
                  skip
                  exact Ops.nilN (inB (meet_end (Q := fun _ _ _ => True) (⟨_, sv', sent0 + 1, G'⟩ : NS) ⟨hG', by show (bag0 ++ [_]).length ≤ _; simp; omega, by show 0 ≤ sent0 + 1; omega, by show sent0 + 1 ≤ _; omega⟩ ⟨rfl, rfl, rfl, rfl, rfl, rfl, rfl, rfl, rfl, trivial⟩ (fun w h => h.split)))
        · have hqc' : ¬ (q : Int) < clen := by omega
          repeat' (first | refine Cd.seq ?_ | refine Cd.reg ?_ | refine Ops.nil ?_ | refine Ops.ld1 rfl rfl rfl rfl rfl ?_ | refine Ops.lenS rfl rfl rfl rfl ?_ | refine Ops.bin rfl rfl rfl rfl rfl ?_ | refine Cd.condF rfl (by first | rfl | assumption | (simp only [decide_eq_true_eq, decide_eq_false_iff_not, Bool.not_eq_true', Bool.not_eq_false', Bool.not_eq_eq_eq_not, Bool.not_true, Bool.not_false, beq_iff_eq, beq_eq_false_iff_ne, ne_eq, decide_eq_decide, eq_self, true_iff, iff_true, not_true_eq_false, not_false_eq_true]; first | done | omega)) ?_)
          exact Cd.skip (meet_end (Q := fun _ _ _ => True) (⟨bag0, _, sent0, G0⟩ : NS) stay ⟨rfl, rfl, rfl, rfl, rfl, rfl, rfl, rfl, rfl, trivial⟩ (fun w h => h.split))
      clear hO0 hb0 hs0 hs1
      obtain ⟨bag, sv1, sent1, G1⟩ := s
      have hN3 := hN2
      obtain ⟨hO1, hb1, hs0, hs1⟩ := hN2
      dsimp only at hO1 hb1 hs0 hs1 ⊢
      repeat' (first | refine Cd.seq ?_ | refine Cd.reg ?_ | refine Ops.nil ?_ | refine Ops.ld1 rfl rfl rfl rfl rfl ?_ | refine Ops.alloc rfl rfl rfl (noPd rfl) (fun b => ?_) | refine Ops.st1 rfl rfl rfl rfl rfl (noPd rfl) ?_ | refine Cd.block ?_)
      rename Nat => b14
      refine Cd.rangeIn (X := Nat × Dg) (C0 := (b14, cl [.int .i64 ((0 : Nat) : Int)] 3) :: (b12, cl (gd q st).row 33) :: GB b3 b4 b5 b6 b7 b9 b10 bA n (some ⟨bd, offd, none⟩) k cap leave ca clen ccap q sv1 sent1 G1) (all_iter0 n bA sv1 bag sent1 G1 hO1 (by omega)) hro hlp rfl (ps := [122, 123]) rfl (fun _ => rfl)
        (fun pr C => pr = (told bag).take pr.length ∧ C = (b14, cl [.int .i64 pr.length] 3) :: (b12, cl (gd q st).row 33) :: GB b3 b4 b5 b6 b7 b9 b10 bA n (some ⟨bd, offd, none⟩) k cap leave ca clen ccap q sv1 sent1 G1)
        (fun _ _ _ => False)
        (fun pr x T C => pr = (told bag).take pr.length ∧ (∃ d, bag[pr.length]? = some d ∧ x = (pr.length, d)) ∧ T = [(6, ptr b6), (14, ptr b14), (15, .int .i64 pr.length)] ∧ C = (b14, cl [.int .i64 pr.length] 3) :: (b12, cl (gd q st).row 33) :: GB b3 b4 b5 b6 b7 b9 b10 bA n (some ⟨bd, offd, none⟩) k cap leave ca clen ccap q sv1 sent1 G1)
        (fun w hw => (hw.split : Sat _ ((b14, cl [.int .i64 ((0 : Nat) : Int)] 3) :: (b12, cl (gd q st).row 33) :: GB b3 b4 b5 b6 b7 b9 b10 bA n (some ⟨bd, offd, none⟩) k cap leave ca clen ccap q sv1 sent1 G1) w))
        ⟨rfl, rfl⟩
        (fun C hC => ⟨(b14, cl [.int .i64 ((0 : Nat) : Int)] 3) :: (b12, cl (gd q st).row 33) :: (b10, cl [.int .i64 q] 3) :: (b9, cl [.func (.func 24) #[] #[ptr bA]] 46) :: (b3, cl [.slice (some ⟨bd, offd, none⟩) k cap] 43) :: (b4, cl [.int .i64 leave] 3) :: (b5, cl [.slice ca clen ccap] 22) :: (b6, cl [.bool false] 4) :: [(b7, cl [ptr n] 23)], by
          obtain ⟨_, rfl⟩ := hC
          exact (Split.perm (A := (b14, cl [.int .i64 ((0 : Nat) : Int)] 3) :: (b12, cl (gd q st).row 33) :: GB b3 b4 b5 b6 b7 b9 b10 bA n (some ⟨bd, offd, none⟩) k cap leave ca clen ccap q sv1 sent1 G1) (A1 := (bA, cl [ptr n] 23) :: NetB n sv1 sent1 G1))⟩)
        ?_ ?_ ?_ ?_
      · rintro B3 pr x C hx3 hok3 ⟨hpr, rfl⟩
        obtain ⟨_, _, d3, hd3, rfl⟩ := told_inv hok3
        repeat' (first | refine Cd.reg ?_ | refine Ops.asg rfl rfl rfl rfl ?_)
        exact Ops.nilN (asg_end ⟨hpr, ⟨d3, hd3, rfl⟩, rfl, rfl⟩ (fun a hF => hF.keeps ⟨rfl, rfl, rfl, trivial⟩) (fun w h => h))
      · rintro lp3 r3 B3 pr x T C hro3 hlp3 hx3 hok3 ⟨hpr, ⟨d3, hd3, rfl⟩, rfl, rfl⟩
        obtain ⟨_, hpl3, _⟩ := told_inv hok3
        have hpr' : pr ++ [(pr.length, d3)] = (told bag).take (pr ++ [(pr.length, d3)]).length := by
          rw [List.length_append]
          show _ = (told bag).take (pr.length + 1)
          rw [← told_next hd3, ← hpr]
        repeat' (first | refine Cd.seq ?_ | refine Cd.reg ?_ | refine Ops.nil ?_ | refine Ops.mv rfl rfl rfl rfl ?_ | refine Ops.ld1 rfl rfl rfl rfl rfl ?_ | refine Ops.addI rfl rfl rfl rfl (by omega) (by omega) rfl ?_ | refine Ops.bin rfl rfl rfl rfl rfl ?_ | refine Ops.st1 rfl rfl rfl rfl rfl (noPd rfl) ?_ | refine Cd.block ?_ | refine Cd.skip (Cd.next ?_) | refine Cd.condF rfl (by first | rfl | assumption | (simp only [decide_eq_true_eq, decide_eq_false_iff_not, Bool.not_eq_true', Bool.not_eq_false', Bool.not_eq_eq_eq_not, Bool.not_true, Bool.not_false, beq_iff_eq, beq_eq_false_iff_ne, ne_eq, decide_eq_decide, eq_self, true_iff, iff_true, not_true_eq_false, not_false_eq_true]; first | done | omega)) ?_)
        exact Ops.nilN (inB (rnd_next ⟨hpr', by rw [List.length_append]; rfl⟩ (fun w h => h)))
      · rintro xs3 C rfl ⟨_, rfl⟩
        rw [told_len]
        refine Cd.next (Q' := fun _ _ _ => True) ?_
        repeat' (first | refine Cd.seq ?_)
        refine Cd.draw [(0, 1, []), (1, 1, []), (2, 2, [0]), (3, 0, [])] (by kernel_rfl) (by kernel_rfl) (by simp only [picked, nth]; exact rfl) ?_
        repeat' (first | refine Ops.ld1 rfl rfl rfl rfl rfl ?_)
        refine Ops.call (len_spec n sv1 bag sent1 G1 hO1) rfl (by first | exact noPd rfl | (intro v A' hR i hi; obtain ⟨A2, hR, rfl⟩ := hR; (try obtain ⟨rfl, rfl⟩ := hR); (repeat (rcases List.mem_cons.1 hi with rfl | hi; · (first | exact Still.ld1 rfl rfl rfl rfl rfl | exact Still.ldN rfl rfl rfl rfl | exact Still.len rfl rfl rfl rfl rfl | exact Still.skip rfl rfl rfl | exact Still.ldRow1 rfl rfl rfl (by assumption) (by assumption) rfl rfl | exact Still.ldR rfl rfl rfl (by apply_assumption) rfl))); cases hi)) rfl rfl rfl (fun v A' hR => ?_)
        obtain ⟨rfl, rfl⟩ := hR
        have eql : (pre ++ [(q, gd q st)]).length = q + 1 := by rw [List.length_append, hq]; rfl
        have fin : ∀ w', Sat B2 ((b10, cl [.int .i64 ((q : Int) + 1)] 3) :: (b9, cl [.func (.func 24) #[] #[ptr bA]] 46) :: (b3, cl [.slice (some ⟨bd, offd, none⟩) k cap] 43) :: (b4, cl [.int .i64 leave] 3) :: (b5, cl [.slice ca clen ccap] 22) :: (b6, cl [.bool false] 4) :: (b7, cl [ptr n] 23) :: (bA, cl [ptr n] 23) :: NetB n sv1 sent1 G1) w' → Sat B2 (GB b3 b4 b5 b6 b7 b9 b10 bA n (some ⟨bd, offd, none⟩) k cap leave ca clen ccap (pre ++ [(q, gd q st)]).length sv1 sent1 G1) w' := fun w' h => by
          rw [eql]; exact h
        by_cases hlv : (q : Int) + 1 = leave
        · repeat' (first | refine Cd.seq ?_ | refine Cd.reg ?_ | refine Ops.nil ?_ | refine Ops.ld1 rfl rfl rfl rfl rfl ?_ | refine Ops.addI rfl rfl rfl rfl (by omega) (by omega) rfl ?_ | refine Ops.bin rfl rfl rfl rfl rfl ?_ | refine Ops.st1 rfl rfl rfl rfl rfl (noPd rfl) ?_ | refine Cd.skip (Cd.next ?_) | refine Cd.condT rfl (by first | rfl | assumption | (simp only [decide_eq_true_eq, decide_eq_false_iff_not, Bool.not_eq_true', Bool.not_eq_false', Bool.not_eq_eq_eq_not, Bool.not_true, Bool.not_false, beq_iff_eq, beq_eq_false_iff_ne, ne_eq, decide_eq_decide, eq_self, true_iff, iff_true, not_true_eq_false, not_false_eq_true]; first | done | omega)) ?_ | refine Cd.condF rfl (by first | rfl | assumption | (simp only [decide_eq_true_eq, decide_eq_false_iff_not, Bool.not_eq_true', Bool.not_eq_false', Bool.not_eq_eq_eq_not, Bool.not_true, Bool.not_false, beq_iff_eq, beq_eq_false_iff_ne, ne_eq, decide_eq_decide, eq_self, true_iff, iff_true, not_true_eq_false, not_false_eq_true]; first | done | omega)) ?_)
          refine Cd.exit (inBx (id := 3) (id' := 2) (by decide) ?_)
          exact rnd_exit ⟨rfl, by rw [eql]; show ((q + 1 : Nat) : Int) = leave; omega, ⟨bag, sv1, sent1, G1⟩, rfl⟩ (fun w h => fin w h.split)
        · repeat' (first | refine Cd.seq ?_ | refine Cd.reg ?_ | refine Ops.nil ?_ | refine Ops.ld1 rfl rfl rfl rfl rfl ?_ | refine Ops.addI rfl rfl rfl rfl (by omega) (by omega) rfl ?_ | refine Ops.bin rfl rfl rfl rfl rfl ?_ | refine Ops.st1 rfl rfl rfl rfl rfl (noPd rfl) ?_ | refine Cd.skip (Cd.next ?_) | refine Cd.condF rfl (by first | rfl | assumption | (simp only [decide_eq_true_eq, decide_eq_false_iff_not, Bool.not_eq_true', Bool.not_eq_false', Bool.not_eq_eq_eq_not, Bool.not_true, Bool.not_false, beq_iff_eq, beq_eq_false_iff_ne, ne_eq, decide_eq_decide, eq_self, true_iff, iff_true, not_true_eq_false, not_false_eq_true]; first | done | omega)) ?_)
          exact Cd.skip (inB (rnd_next ⟨⟨bag, sv1, sent1, G1⟩, by rw [eql]; exact hN3, hpre', fun e => by simp at e, rfl⟩ (fun w h => fin w h.split)))
      · rintro c pr C hZ
        exact hZ.elim
    · rintro D xs2 C hD rfl ⟨s, _, _, _, rfl⟩
      have e9 : (told (gds ds)).length = k := by rw [told_len, hbl]
      rw [e9]
      refine Cd.next (Q' := fun _ _ _ => True) ?_
      repeat' (first | refine Cd.seq ?_ | refine Cd.reg ?_ | refine Ops.nil ?_ | refine Ops.mv rfl rfl rfl rfl ?_ | refine Ops.ld1 rfl rfl rfl rfl rfl ?_ | refine Ops.lenS rfl rfl rfl rfl ?_ | refine Ops.bin rfl rfl rfl rfl rfl ?_ | refine Ops.pickT rfl rfl rfl rfl rfl ?_ | refine Ops.st1 rfl rfl rfl rfl rfl (noPd rfl) ?_ | refine Ops.gSkip rfl rfl rfl ?_ | ((fail_if_success refine Ops.probe rfl ?_); refine Ops.gT rfl rfl (by first | rfl | assumption | (simp only [decide_eq_true_eq, decide_eq_false_iff_not, Bool.not_eq_true', Bool.not_eq_false', Bool.not_eq_eq_eq_not, Bool.not_true, Bool.not_false, beq_iff_eq, beq_eq_false_iff_ne, ne_eq, decide_eq_decide, eq_self, true_iff, iff_true, not_true_eq_false, not_false_eq_true]; first | done | omega)) ?_))
      exact Cd.ret (unmark (mark1 hD) (ret1 (A' := []) rfl (Res.cell1 rfl rfl) (fun w h => h.split) rfl))
    · rintro D c pre C hD ⟨rfl, hpl, s, rfl⟩
      refine Cd.exit (inBs (Cd.next (Q' := fun _ _ _ => True) ?_))
      by_cases hkk : (pre.length : Int) = k
      · repeat' (first | refine Cd.seq ?_ | refine Cd.reg ?_ | refine Ops.nil ?_ | refine Ops.mv rfl rfl rfl rfl ?_ | refine Ops.ld1 rfl rfl rfl rfl rfl ?_ | refine Ops.lenS rfl rfl rfl rfl ?_ | refine Ops.bin rfl rfl rfl rfl rfl ?_ | refine Ops.pickT rfl rfl rfl rfl rfl ?_ | refine Ops.st1 rfl rfl rfl rfl rfl (noPd rfl) ?_ | refine Ops.gSkip rfl rfl rfl ?_ | ((fail_if_success refine Ops.probe rfl ?_); refine Ops.gT rfl rfl (by first | rfl | assumption | (simp only [decide_eq_true_eq, decide_eq_false_iff_not, Bool.not_eq_true', Bool.not_eq_false', Bool.not_eq_eq_eq_not, Bool.not_true, Bool.not_false, beq_iff_eq, beq_eq_false_iff_ne, ne_eq, decide_eq_decide, eq_self, true_iff, iff_true, not_true_eq_false, not_false_eq_true]; first | done | omega)) ?_))
        exact Cd.ret (unmark (mark1 hD) (ret1 (A' := []) rfl (Res.cell1 rfl rfl) (fun w h => h.split) (by simp [hkk])))
      · repeat' (first | refine Cd.seq ?_ | refine Cd.reg ?_ | refine Ops.nil ?_ | refine Ops.mv rfl rfl rfl rfl ?_ | refine Ops.ld1 rfl rfl rfl rfl rfl ?_ | refine Ops.lenS rfl rfl rfl rfl ?_ | refine Ops.bin rfl rfl rfl rfl rfl ?_ | refine Ops.pickF rfl rfl rfl rfl rfl ?_ | refine Ops.st1 rfl rfl rfl rfl rfl (noPd rfl) ?_ | ((fail_if_success refine Ops.probe rfl ?_); refine Ops.gF rfl rfl (by first | rfl | assumption | (simp only [decide_eq_true_eq, decide_eq_false_iff_not, Bool.not_eq_true', Bool.not_eq_false', Bool.not_eq_eq_eq_not, Bool.not_true, Bool.not_false, beq_iff_eq, beq_eq_false_iff_ne, ne_eq, decide_eq_decide, eq_self, true_iff, iff_true, not_true_eq_false, not_false_eq_true]; first | done | omega)) ?_))
        exact Cd.ret (unmark (mark1 hD) (ret1 (A' := []) rfl (Res.cell1 rfl rfl) (fun w h => h.split) (by simp [hpl])))
end Go.Proofs.Ytcbjdfiikadkbaa
