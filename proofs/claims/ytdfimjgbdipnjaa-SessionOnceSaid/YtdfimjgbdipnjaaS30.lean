import Derived.Test.YtdfimjgbdipnjaaS29
import Derived.Test.YtdfimjgbdipnjaaS6
namespace Go.Proofs.Ytdfimjgbdipnjaa
open Go Go.Sep Go.Proofs
set_option maxRecDepth 10000
set_option maxHeartbeats 4000000
set_option synthInstance.maxSize 2000
set_option linter.unusedSimpArgs false
set_option linter.unusedVariables false

structure AOp where
  kind : Int
  n : Int
@[reducible] def AOp.row (o : AOp) : List Value := [.int .i64 o.kind, .int .i64 o.n]
def AScript (B : Base) (a : Option Addr) (len : Nat) (ops : List AOp) : Prop :=
  ops.length = len ∧ ∀ (i : Nat) (o : AOp), ops[i]? = some o → ∃ b off, a = some ⟨b, off, none⟩ ∧ ∀ (A : List Blk) (j : Nat) (u : Value), o.row[j]? = some u → Rd B A b (off + i * 2 + j) u

structure OS where
  k : Nat
  x : JS

theorem session_once (w : World) (sa : Option Addr) (len cap : Nat) (ops : List AOp) (hs : AScript (baseOf w) sa len ops) :
    Calls Try.prog 6 #[.slice sa len cap] w fun e w' => e = .returned (.bool true) ∧ RowKit.Below w.heap.size w w' := by
  refine calls_base (vs := [_]) Try.func6 rfl Try.ntmps6 rfl ?_
  repeat' (first | refine Cd.seq ?_ | refine Cd.reg ?_ | refine Ops.asg rfl rfl rfl rfl ?_)
  refine Ops.call awake_spec rfl (noPd rfl) rfl rfl rfl (fun v A' hR => ?_)
  obtain ⟨rfl, rfl⟩ := hR
  by_cases hbig : (1048576 : Int) < len
  · repeat' (first | refine Cd.seq ?_ | refine Cd.reg ?_ | refine Ops.nil ?_ | refine Ops.mv rfl rfl rfl rfl ?_ | refine Ops.asg rfl rfl rfl rfl ?_ | refine Ops.lenS rfl rfl rfl rfl ?_ | refine Ops.bin rfl rfl rfl rfl rfl ?_ | refine Ops.un rfl rfl rfl rfl ?_ | refine Cd.condF rfl rfl ?_ | refine Cd.skip (Cd.next ?_) | refine Cd.condT rfl (by first | rfl | assumption | (simp only [decide_eq_true_eq, decide_eq_false_iff_not, Bool.not_eq_true', Bool.not_eq_false', Bool.not_eq_eq_eq_not, Bool.not_true, Bool.not_false, beq_iff_eq, beq_eq_false_iff_ne, ne_eq, decide_eq_decide, eq_self, true_iff, iff_true, not_true_eq_false, not_false_eq_true]; first | done | omega)) ?_)
    exact Cd.ret (ret1 rfl (Res.tmp rfl) (fun _ h => h) rfl)
  repeat' (first | refine Cd.seq ?_ | refine Cd.reg ?_ | refine Ops.nil ?_ | refine Ops.mv rfl rfl rfl rfl ?_ | refine Ops.lenS rfl rfl rfl rfl ?_ | refine Ops.bin rfl rfl rfl rfl rfl ?_ | refine Ops.un rfl rfl rfl rfl ?_ | refine Cd.condF rfl rfl ?_ | refine Cd.skip (Cd.next ?_) | refine Cd.condF rfl (by first | rfl | assumption | (simp only [decide_eq_true_eq, decide_eq_false_iff_not, Bool.not_eq_true', Bool.not_eq_false', Bool.not_eq_eq_eq_not, Bool.not_true, Bool.not_false, beq_iff_eq, beq_eq_false_iff_ne, ne_eq, decide_eq_decide, eq_self, true_iff, iff_true, not_true_eq_false, not_false_eq_true]; first | done | omega)) ?_)
  refine Ops.call (newc_yes 2 (by decide) (by decide)) rfl (noPd rfl) rfl rfl rfl (fun v A' hR => ?_)
  obtain ⟨cn, rfl, rfl⟩ := hR
  repeat' (first | refine Cd.seq ?_ | refine Cd.reg ?_ | refine Ops.mv rfl rfl rfl rfl ?_ | refine Ops.asg rfl rfl rfl rfl ?_ | refine Ops.ext rfl rfl rfl rfl rfl ?_)
  refine Ops.call (newt_yes 1 (by decide) (by decide)) rfl (noPd rfl) rfl rfl rfl (fun v A' hR => ?_)
  obtain ⟨tn, sv, G, rfl, rfl, hO⟩ := hR
  repeat' (first | refine Cd.seq ?_ | refine Cd.reg ?_ | refine Ops.nil ?_ | refine Ops.mv rfl rfl rfl rfl ?_ | refine Ops.asg rfl rfl rfl rfl ?_ | refine Ops.ext rfl rfl rfl rfl rfl ?_ | refine Ops.bld rfl rfl rfl rfl ?_ | refine Ops.box rfl rfl rfl rfl (noPd rfl) (fun b => ?_) | refine Cd.block ?_)
  rename Nat => jb
  refine Cd.loopK (fun s : OS => s.k ≤ len ∧ JOk s.k s.x) (fun s => [(0, .slice sa len cap), (7, ptr jb), (8, .int .i64 s.k)])
    (fun s => s.x.blks jb) (fun s => len - s.k) ⟨0, ⟨fun _ => 0, [], CS.new 2, Dk.zero 0, 1, 0, 0, [], [], cn, tn, sv, .slice none 0 0, .slice none 0 0, G, [], []⟩⟩
    ⟨Nat.zero_le _, hO, Own.none, Own.none, JI.start⟩ ⟨rfl, rfl, rfl, trivial⟩ (fun w h => by
      have h2 := (h.split : Sat _ (JB jb cn tn 1 0 0 (.slice none 0 0) (.slice none 0 0) :: (CalB cn (CS.new 2) ++ TabB tn sv G)) w)
      simpa [JS.blks] using h2) (fun s hI => ?_)
  clear hO
  clear cn tn sv G
  obtain ⟨k, ⟨own, aq, s, d, life, used, asked, way, deeds, cn, tn, sv, wv, dv, G, WG, DG⟩⟩ := s
  obtain ⟨hk, hK, hW, hE, hJ⟩ := hI
  dsimp only [JS.blks] at hk hK hW hE hJ ⊢
  by_cases hkl : k < len
  · have hkl' : (k : Int) < len := by omega
    obtain ⟨o, ho⟩ : ∃ o, ops[k]? = some o := ⟨_, List.getElem?_eq_getElem (by rw [hs.1]; exact hkl)⟩
    obtain ⟨b0, off, rfl, hrd⟩ := hs.2 k o ho
    have hrw : ∀ A j u, o.row[j]? = some u → Rd (baseOf w) A b0 (off + (k : Int).toNat * 2 + j) u := fun A j u hu => by rw [Int.toNat_natCast]; exact hrd _ j u hu
    clear hrd
    obtain ⟨kd, n⟩ := o
    repeat' (first | refine Cd.seq ?_ | refine Cd.reg ?_ | refine Ops.nil ?_ | refine Ops.mv rfl rfl rfl rfl ?_ | refine Ops.nilP rfl rfl rfl rfl ?_ | refine Ops.fa0 rfl rfl rfl rfl ?_ | refine Ops.ld1 rfl rfl rfl rfl rfl ?_ | refine Ops.lenS rfl rfl rfl rfl ?_ | refine Ops.bin rfl rfl rfl rfl rfl ?_ | refine Ops.un rfl rfl rfl rfl ?_ | refine Ops.pickT rfl rfl rfl rfl rfl ?_ | refine Cd.condT rfl rfl ?_ | refine Cd.block ?_ | refine Cd.skip (Cd.next ?_) | refine Ops.ixa rfl rfl rfl rfl (by omega) (by omega) rfl ?_ | ((fail_if_success refine Ops.probe rfl ?_); refine Ops.gT rfl rfl (by first | rfl | assumption | (simp only [decide_eq_true_eq, decide_eq_false_iff_not, Bool.not_eq_true', Bool.not_eq_false', Bool.not_eq_eq_eq_not, Bool.not_true, Bool.not_false, beq_iff_eq, beq_eq_false_iff_ne, ne_eq, decide_eq_decide, eq_self, true_iff, iff_true, not_true_eq_false, not_false_eq_true]; first | done | omega)) ?_))
    refine Ops.ldRN (r := [.int .i64 kd, .int .i64 n]) rfl rfl rfl rfl (hrw _) rfl ?_
    skip
    refine Ops.call (does1_spec jb cn tn sv wv dv G WG DG kd n hJ (by omega) hK hW hE) rfl (noPd rfl) rfl rfl rfl (fun v A' hR => ?_)
    obtain ⟨x, rfl, hX⟩ := hR
    repeat' (first | refine Ops.nilN (inB (Cd.next ?_)) | refine Cd.reg ?_ | refine Ops.mv rfl rfl rfl rfl ?_ | refine Ops.asg rfl rfl rfl rfl ?_ | refine Ops.addI rfl rfl rfl rfl (by omega) (by omega) rfl ?_)
    exact Ops.nilN (round_end (⟨k + 1, x⟩ : OS) ⟨by show k + 1 ≤ len; omega, hX⟩ (by show len - (k + 1) < len - k; omega) ⟨rfl, rfl, rfl, trivial⟩ (fun w h => (h.split : Sat _ (x.blks jb) w)))
  · have hkl' : ¬ (k : Int) < len := by omega
    repeat' (first | refine Cd.seq ?_ | refine Cd.reg ?_ | refine Ops.nil ?_ | refine Ops.mv rfl rfl rfl rfl ?_ | refine Ops.asg rfl rfl rfl rfl ?_ | refine Ops.nilP rfl rfl rfl rfl ?_ | refine Ops.fa0 rfl rfl rfl rfl ?_ | refine Ops.ld1 rfl rfl rfl rfl rfl ?_ | refine Ops.lenS rfl rfl rfl rfl ?_ | refine Ops.bin rfl rfl rfl rfl rfl ?_ | refine Ops.un rfl rfl rfl rfl ?_ | refine Ops.pickF rfl rfl rfl rfl rfl ?_ | refine Ops.gSkip rfl rfl rfl ?_ | refine Cd.condF rfl rfl ?_ | refine Cd.exit (Cd.next (Q' := fun _ _ _ => True) ?_) | ((fail_if_success refine Ops.probe rfl ?_); refine Ops.gF rfl rfl (by first | rfl | assumption | (simp only [decide_eq_true_eq, decide_eq_false_iff_not, Bool.not_eq_true', Bool.not_eq_false', Bool.not_eq_eq_eq_not, Bool.not_true, Bool.not_false, beq_iff_eq, beq_eq_false_iff_ne, ne_eq, decide_eq_decide, eq_self, true_iff, iff_true, not_true_eq_false, not_false_eq_true]; first | done | omega)) ?_))
    exact Cd.ret (ret1 rfl (Res.tmp rfl) (fun _ h => h) rfl)
end Go.Proofs.Ytdfimjgbdipnjaa
