import Derived.Test.YtdfimjgbdipnjaaS2
import Derived.Test.YtdfimjgbdipnjaaS4
import Derived.Test.YtdfimjgbdipnjaaS5
namespace Go.Proofs.Ytdfimjgbdipnjaa
open Go Go.Sep Go.Proofs
set_option maxRecDepth 10000
set_option maxHeartbeats 1000000
set_option linter.unusedSimpArgs false
set_option linter.unusedVariables false

theorem awake_spec : Con Try.prog 9 #[] [] fun v A => v = .bool true ∧ A = [] := by
  refine Con.intro (vs := []) Try.func9 rfl Try.ntmps9 rfl (fun B => ?_)
  repeat' (first | refine Cd.seq ?_ | refine Cd.reg ?_ | refine Ops.asg rfl rfl rfl rfl ?_)
  refine Ops.call (newc_yes 2 (by omega) (by omega)) rfl (noPd rfl) rfl rfl rfl (fun v A' hR => ?_)
  obtain ⟨n, rfl, rfl⟩ := hR
  repeat' (first | refine Cd.seq ?_ | refine Cd.reg ?_ | refine Ops.mv rfl rfl rfl rfl ?_ | refine Ops.asg rfl rfl rfl rfl ?_ | refine Ops.ext rfl rfl rfl rfl rfl ?_)
  refine Ops.call (newt_yes 2 (by omega) (by omega)) rfl (noPd rfl) rfl rfl rfl (fun v A' hR => ?_)
  obtain ⟨t, sv, G, rfl, rfl, hO⟩ := hR
  repeat' (first | refine Cd.seq ?_ | refine Cd.reg ?_ | refine Ops.mv rfl rfl rfl rfl ?_ | refine Ops.asg rfl rfl rfl rfl ?_ | refine Ops.ext rfl rfl rfl rfl rfl ?_)
  refine Ops.call (newc_no 0 (by omega)) rfl (noPd rfl) rfl rfl rfl (fun v A' hR => ?_)
  obtain ⟨rfl, rfl⟩ := hR
  repeat' (first | refine Cd.seq ?_ | refine Cd.reg ?_ | refine Ops.mv rfl rfl rfl rfl ?_ | refine Ops.asg rfl rfl rfl rfl ?_ | refine Ops.ext rfl rfl rfl rfl rfl ?_)
  refine Ops.call (newt_no 9 (by omega)) rfl (noPd rfl) rfl rfl rfl (fun v A' hR => ?_)
  obtain ⟨rfl, rfl⟩ := hR
  repeat' (first | refine Cd.seq ?_ | refine Cd.reg ?_ | refine Ops.mv rfl rfl rfl rfl ?_ | refine Ops.asg rfl rfl rfl rfl ?_ | refine Ops.bin rfl rfl rfl rfl rfl ?_ | refine Ops.pickF rfl rfl rfl rfl rfl ?_ | refine Ops.ext rfl rfl rfl rfl rfl ?_ | refine Ops.bld rfl rfl rfl rfl ?_)
  refine Ops.call (ask_none n (CS.new 2) ⟨2, 0, 0, 0, 0, 0, 0, 0, 0, ⟨#[]⟩, ⟨#[]⟩⟩ (by decide) (by decide) rfl (.inl rfl)) rfl (noPd rfl) rfl rfl rfl (fun v A' hR => ?_)
  obtain ⟨rfl, rfl⟩ := hR
  repeat' (first | refine Ops.mv rfl rfl rfl rfl ?_ | refine Ops.bin rfl rfl rfl rfl rfl ?_ | refine Ops.pickF rfl rfl rfl rfl rfl ?_)
  refine Ops.call (hello_ok n (CS.new 2) rfl) rfl (noPd rfl) rfl rfl rfl (fun v A' hR => ?_)
  obtain ⟨rfl, rfl⟩ := hR
  repeat' (first | refine Ops.mv rfl rfl rfl rfl ?_ | refine Ops.bin rfl rfl rfl rfl rfl ?_ | refine Ops.pickF rfl rfl rfl rfl rfl ?_)
  refine Ops.call (hello_busy n ⟨Mg.hello, 0, 2, 0, max 0 0, 0⟩ (by decide)) rfl (noPd rfl) rfl rfl rfl (fun v A' hR => ?_)
  obtain ⟨rfl, rfl⟩ := hR
  repeat' (first | refine Cd.seq ?_ | refine Cd.reg ?_ | refine Ops.nil ?_ | refine Ops.mv rfl rfl rfl rfl ?_ | refine Ops.bin rfl rfl rfl rfl rfl ?_ | refine Ops.pickF rfl rfl rfl rfl rfl ?_ | refine Cd.condF rfl rfl ?_ | refine Cd.skip (Cd.next ?_))
  refine Ops.call (due_yes n ⟨Mg.hello, 0, 2, 0, max 0 0, 0⟩ (by decide) (by decide)) rfl (noPd rfl) rfl rfl rfl (fun v A' hR => ?_)
  obtain ⟨rfl, rfl⟩ := hR
  repeat' (first | refine Cd.seq ?_ | refine Cd.reg ?_ | refine Ops.mv rfl rfl rfl rfl ?_ | refine Ops.asg rfl rfl rfl rfl ?_ | refine Ops.ext rfl rfl rfl rfl rfl ?_ | refine Ops.bld rfl rfl rfl rfl ?_ | refine Ops.alloc rfl rfl rfl (noPd rfl) (fun b => ?_) | refine Ops.stN rfl rfl rfl rfl rfl rfl (noPd rfl) ?_)
  refine Ops.call (hear_welcome n ⟨Mg.hello, 2, 2, 0, max 0 0, 0⟩ ⟨7, 5, 0, 0, 0, 0, 0, 0, 0, ⟨#[]⟩, ⟨#[]⟩⟩ rfl rfl (by decide)) rfl (noPd rfl) rfl rfl rfl (fun v A' hR => ?_)
  obtain ⟨rfl, rfl⟩ := hR
  repeat' (first | refine Cd.seq ?_ | refine Cd.reg ?_ | refine Ops.mv rfl rfl rfl rfl ?_ | refine Ops.asg rfl rfl rfl rfl ?_)
  refine Ops.call (open_ok t sv (fresh 2) G 0 1 5 (Dk.zero 0) hO (by decide) (by decide) (by decide) rfl (by decide)) rfl (noPd rfl) rfl rfl rfl (fun v A' hR => ?_)
  obtain ⟨rfl, G2, rfl, hO2⟩ := hR
  repeat' (first | refine Cd.seq ?_ | refine Cd.reg ?_ | refine Ops.mv rfl rfl rfl rfl ?_ | refine Ops.asg rfl rfl rfl rfl ?_)
  refine Ops.call (hello_known t sv _ G2 0 1 ⟨0, 1, 5, 0, ⟨#[]⟩⟩ hO2 (by decide) (by decide) rfl rfl) rfl (noPd rfl) rfl rfl rfl (fun v A' hR => ?_)
  obtain ⟨rfl, rfl⟩ := hR
  repeat' (first | refine Cd.seq ?_ | refine Cd.reg ?_ | refine Ops.mv rfl rfl rfl rfl ?_ | refine Ops.asg rfl rfl rfl rfl ?_ | refine Ops.ext rfl rfl rfl rfl rfl ?_)
  refine Ops.call (task_new t sv _ G2 0 1 5 1 ⟨0, 1, 5, 0, ⟨#[]⟩⟩ hO2 (by decide) rfl (by decide) (by decide) (by decide)) rfl (noPd rfl) rfl rfl rfl (fun v A' hR => ?_)
  obtain ⟨rfl, rfl⟩ := hR
  repeat' (first | refine Cd.seq ?_ | refine Cd.reg ?_ | refine Ops.mv rfl rfl rfl rfl ?_ | refine Ops.asg rfl rfl rfl rfl ?_ | refine Ops.fa0 rfl rfl rfl rfl ?_ | refine Ops.ld1 rfl rfl rfl rfl rfl ?_ | refine Ops.bin rfl rfl rfl rfl rfl ?_ | refine Ops.pickT rfl rfl rfl rfl rfl ?_ | refine Ops.ext rfl rfl rfl rfl rfl ?_)
  refine Ops.call (session_spec n ⟨Mg.zero, 0, 2, 5, max (max 0 0) 5, 0⟩) rfl (noPd rfl) rfl rfl rfl (fun v A' hR => ?_)
  obtain ⟨rfl, rfl⟩ := hR
  repeat' (first | refine Ops.mv rfl rfl rfl rfl ?_ | refine Ops.nilP rfl rfl rfl rfl ?_ | refine Ops.fa0 rfl rfl rfl rfl ?_ | refine Ops.bin rfl rfl rfl rfl rfl ?_ | refine Ops.pickT rfl rfl rfl rfl rfl ?_)
  refine Ops.call (busy_spec n ⟨Mg.zero, 0, 2, 5, max (max 0 0) 5, 0⟩) rfl (noPd rfl) rfl rfl rfl (fun v A' hR => ?_)
  obtain ⟨rfl, rfl⟩ := hR
  repeat' (first | refine Ops.nil ?_ | refine Ops.mv rfl rfl rfl rfl ?_ | refine Ops.asg rfl rfl rfl rfl ?_ | refine Ops.bin rfl rfl rfl rfl rfl ?_ | refine Ops.un rfl rfl rfl rfl ?_ | refine Ops.pickT rfl rfl rfl rfl rfl ?_)
  exact Cd.ret (ret1 rfl (Res.tmp rfl) (fun _ h => h.split) ⟨rfl, rfl⟩)
end Go.Proofs.Ytdfimjgbdipnjaa
