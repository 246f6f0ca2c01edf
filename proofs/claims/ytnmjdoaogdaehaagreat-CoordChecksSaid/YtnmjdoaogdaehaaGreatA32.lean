import Derived.Test.YtnmjdoaogdaehaaGreatA30
import Derived.Test.YtnmjdoaogdaehaaGreatA31
import Derived.Test.YtnmjdoaogdaehaaGreatA29
namespace Go.Proofs.YtnmjdoaogdaehaaGreat
open Go Go.Sep Go.Proofs
set_option maxRecDepth 10000
set_option maxHeartbeats 40000000
set_option synthInstance.maxSize 2000
set_option linter.unusedSimpArgs false
set_option linter.unusedVariables false
/-! changes as a record -/
theorem rgt_true {h z m : Bool} (e : rgt h z m = true) : m = true ∨ z = true := by
  unfold rgt at e
  split at e
  · exact .inl e
  · exact .inr e
theorem chOk_of {c : Ch} (h : checkF c = 0) (hx : 0 ≤ c.rbits ∧ c.rbits < 18446744073709551616) : ChOk c := by
  unfold checkF at h
  split at h
  · cases h
  · rename_i hk
    have hk := Classical.not_not.1 hk
    split at h
    · rename_i hall
      simp only [Bool.and_eq_true] at hall
      obtain ⟨h1, h2, h3, h4, h5, h6, h7⟩ := hall
      have h1 := rgt_true h1
      have h2 := rgt_true h2
      have h3 := rgt_true h3
      have h4 := rgt_true h4
      have h5 := rgt_true h5
      have h6 := rgt_true h6
      have h7 := rgt_true h7
      simp only [decide_eq_true_eq, Bool.and_eq_true] at h1 h2 h3 h4 h5 h6 h7
      refine ⟨by omega, by omega, by omega, by omega, by omega, by omega, by omega, hx, ?_, ?_, ?_⟩
      · rcases h3 with h3 | h3
        · omega
        · rw [h3]; decide
      · rcases h6 with h6 | h6
        · unfold textsF at h6
          simp only [Bool.and_eq_true, decide_eq_true_eq] at h6
          omega
        · omega
      · intro t ht
        rcases h6 with h6 | h6
        · unfold textsF at h6
          simp only [Bool.and_eq_true, Bool.not_eq_true', List.any_eq_false] at h6
          have := h6.2 t ht
          simp only [longT, decide_eq_true_eq] at this
          omega
        · have : c.txs = [] := List.length_eq_zero_iff.1 (by omega)
          rw [this] at ht
          cases ht
    · cases h
/-- A change, where its texts lie. -/
structure Cg where
  c : Ch
  a : Option Addr
  k : Nat
@[reducible] def Cg.row (g : Cg) : List Value := g.c.row g.a g.k
theorem cgs_ok (l : List Cg) : RowsOk 10 (l.map Cg.row) := rows_map (f := Cg.row) (fun _ => ⟨rfl, rfl⟩) l
/-- Changes that are read where they lie. -/
structure CIn (B : Base) (a : Option Addr) (l : List Cg) : Prop where
  r : RIn 10 B a (l.map Cg.row)
  s : ∀ g ∈ l, SIn B g.a g.c.txs
  n : ∀ g ∈ l, g.c.txs.length ≤ 2000000
  x : ∀ g ∈ l, 0 ≤ g.c.rbits ∧ g.c.rbits < 18446744073709551616
theorem CIn.ext {B B2 : Base} {a : Option Addr} {l : List Cg} (e : Ext B B2) (h : CIn B a l) : CIn B2 a l := ⟨h.r.ext e, fun g hg => (h.s g hg).ext e, h.n, h.x⟩
def encN (l : List Ch) : Nat → ByteArray
  | 0 => numB l.length
  | i + 1 => encN l i ++ (match l[i]? with | some c => putB c | none => .empty)
def encodeF (l : List Ch) : ByteArray × Int :=
  if ¬ (1 ≤ l.length ∧ l.length ≤ 16) then (⟨#[]⟩, 82) else match l.find? fun c => decide (checkF c ≠ 0) with
    | some c => (⟨#[]⟩, checkF c)
    | none => if 2048 < (encN l l.length).size then (⟨#[]⟩, 82) else (encN l l.length, 0)
theorem putB_size {c : Ch} (ok : ChOk c) : (putB c).size ≤ 700000 := by
  have h1 := putN_size c ok (hasS c.kind).size
  have h2 := hasS_size c.kind
  unfold putB
  omega
theorem encode_spec (B0 : Base) (a : Option Addr) (cp : Nat) (l : List Cg) (hC : CIn B0 a l) (hl : l.length ≤ 2000000) : ConB Tryz.prog B0 58 #[.slice a l.length cp] [] fun v A => v = .tuple #[.string (encodeF (l.map Cg.c)).1, .int .i64 (encodeF (l.map Cg.c)).2] ∧ A = [] := by
  refine ConB.intro (vs := [_]) Tryz.func58 rfl Tryz.ntmps58 rfl (fun B hB => ?_)
  have henc : encodeF (l.map Cg.c) = if ¬ (1 ≤ (l.map Cg.c).length ∧ (l.map Cg.c).length ≤ 16) then (⟨#[]⟩, 82) else match (l.map Cg.c).find? fun c => decide (checkF c ≠ 0) with
    | some c => (⟨#[]⟩, checkF c)
    | none => if 2048 < (encN (l.map Cg.c) (l.map Cg.c).length).size then (⟨#[]⟩, (82 : Int)) else (encN (l.map Cg.c) (l.map Cg.c).length, 0) := rfl
  have hlm : (l.map Cg.c).length = l.length := List.length_map _
  repeat' (first | refine Cd.seq ?_ | refine Cd.reg ?_ | refine Ops.mv rfl rfl rfl rfl ?_ | refine Ops.asg rfl rfl rfl rfl ?_ | refine Ops.lenS rfl rfl rfl rfl ?_)
  refine Ops.call (rin_spec l.length 1 16) rfl (noPd rfl) rfl rfl rfl (fun v A' hR => ?_)
  obtain ⟨rfl, rfl⟩ := hR
  by_cases hb : 1 ≤ l.length ∧ l.length ≤ 16
  case neg =>
    rw [if_pos (by rw [hlm]; exact hb)] at henc
    rw [henc, decide_eq_false (by omega : ¬ ((1 : Int) ≤ (l.length : Nat) ∧ ((l.length : Nat) : Int) ≤ 16))]
    repeat' (first | refine Cd.seq ?_ | refine Cd.reg ?_ | refine Ops.nil ?_ | refine Ops.asg rfl rfl rfl rfl ?_ | refine Ops.un rfl rfl rfl rfl ?_ | refine Cd.condT rfl rfl ?_)
    exact Cd.ret (ret2 (A' := []) rfl (Res.tmp rfl) (Res.tmp rfl) (fun _ h => h.split) ⟨rfl, rfl⟩)
  rw [if_neg (by rw [hlm]; exact not_not_intro hb)] at henc
  rw [decide_eq_true (⟨by omega, by omega⟩ : (1 : Int) ≤ (l.length : Nat) ∧ ((l.length : Nat) : Int) ≤ 16)]
  repeat' (first | refine Cd.seq ?_ | refine Cd.reg ?_ | refine Ops.nil ?_ | refine Ops.mv rfl rfl rfl rfl ?_ | refine Ops.lenS rfl rfl rfl rfl ?_ | refine Ops.un rfl rfl rfl rfl ?_ | refine Cd.condF rfl rfl ?_ | refine Cd.skip (Cd.next ?_))
  refine Ops.call (recnum_spec l.length (by omega) (by omega)) rfl (noPd rfl) rfl rfl rfl (fun v A' hR => ?_)
  obtain ⟨rfl, rfl⟩ := hR
  rw [Int.toNat_natCast]
  repeat' (first | refine Cd.seq ?_ | refine Cd.reg ?_ | refine Ops.nil ?_ | refine Ops.mv rfl rfl rfl rfl ?_ | refine Ops.asg rfl rfl rfl rfl ?_ | refine Ops.lenS rfl rfl rfl rfl ?_ | refine Cd.block ?_)
  refine Cd.loopK (σ := Nat) (fun i => i ≤ l.length ∧ (∀ g ∈ l.take i, checkF g.c = 0) ∧ (encN (l.map Cg.c) i).size ≤ 10 + i * 700000) (fun i => [(4, .string (encN (l.map Cg.c) i)), (15, .slice a l.length cp), (16, .int .i64 l.length), (17, .int .i64 i)]) (fun _ => []) (fun i => l.length - i) 0
    ⟨Nat.zero_le _, fun g hg => (by cases hg), by have := numB_size (n := l.length) (by omega); rw [encN, hlm]; omega⟩ ⟨by rw [encN, hlm]; rfl, rfl, rfl, rfl, trivial⟩ (fun w h => h.split) (fun i hI => ?_)
  obtain ⟨hi, hall, hsz⟩ := hI
  by_cases hil : i < l.length
  · have hil' : (i : Int) < l.length := by omega
    obtain ⟨g, hg⟩ : ∃ g, l[i]? = some g := ⟨_, List.getElem?_eq_getElem hil⟩
    have hgm := List.mem_of_getElem? hg
    obtain ⟨b, off, hab, hrd⟩ := (hC.r.ext hB) i g.row (by rw [List.getElem?_map, hg]; rfl)
    subst hab
    have hrw : ∀ A j u, g.row[j]? = some u → Rd B.plain A b (off + (i : Int).toNat * 10 + j) u := fun A j u hu => by rw [Int.toNat_natCast]; exact hrd A j u hu
    have hnext : encN (l.map Cg.c) (i + 1) = encN (l.map Cg.c) i ++ putB g.c := by rw [encN, List.getElem?_map, hg]; rfl
    repeat' (first | refine Cd.seq ?_ | refine Cd.reg ?_ | refine Ops.bin rfl rfl rfl rfl rfl ?_ | refine Cd.block ?_ | refine Cd.skip (Cd.next ?_) | refine Ops.ixa rfl rfl rfl rfl (by omega) (by omega) rfl ?_ | refine Cd.condT rfl (by first | rfl | assumption | (simp only [decide_eq_true_eq, decide_eq_false_iff_not, Bool.not_eq_true', Bool.not_eq_false', Bool.not_eq_eq_eq_not, Bool.not_true, Bool.not_false, beq_iff_eq, beq_eq_false_iff_ne, ne_eq, decide_eq_decide, eq_self, true_iff, iff_true, not_true_eq_false, not_false_eq_true]; first | done | omega)) ?_)
    refine Ops.ldRN (r := g.row) rfl rfl rfl rfl (hrw _) rfl ?_
    repeat' (first | refine Cd.seq ?_ | refine Cd.reg ?_ | refine Ops.ldN rfl rfl rfl rfl ?_ | refine Ops.alloc rfl rfl rfl (noPd rfl) (fun b => ?_) | refine Ops.stN rfl rfl rfl rfl rfl rfl (noPd rfl) ?_)
    rename Nat => gb
    refine Ops.callB (rcheck_spec B0 g.c g.a g.k (hC.s g hgm) (hC.n g hgm)) hB rfl (noPd rfl) rfl rfl rfl (fun v A' hR => ?_)
    obtain ⟨rfl, rfl⟩ := hR
    by_cases he : checkF g.c = 0
    · rw [he]
      have hok := chOk_of he (hC.x g hgm)
      have hpz := putB_size hok
      repeat' (first | refine Cd.seq ?_ | refine Cd.reg ?_ | refine Ops.nil ?_ | refine Ops.mv rfl rfl rfl rfl ?_ | refine Ops.asg rfl rfl rfl rfl ?_ | refine Ops.ldN rfl rfl rfl rfl ?_ | refine Ops.bin rfl rfl rfl rfl rfl ?_ | refine Cd.condF rfl rfl ?_ | refine Cd.skip (Cd.next ?_))
      refine Ops.callB (put_spec B0 g.c g.a g.k (hC.s g hgm) hok) hB rfl (noPd rfl) rfl rfl rfl (fun v A' hR => ?_)
      obtain ⟨rfl, rfl⟩ := hR
      refine Ops.cat rfl rfl rfl rfl (by omega) rfl ?_
      rw [← hnext]
      repeat' (first | refine Ops.nilN (inB (Cd.next ?_)) | refine Cd.reg ?_ | refine Ops.mv rfl rfl rfl rfl ?_ | refine Ops.asg rfl rfl rfl rfl ?_ | refine Ops.addI rfl rfl rfl rfl (by omega) (by omega) rfl ?_)
      exact Ops.nilN (round_end (i + 1 : Nat) ⟨by show i + 1 ≤ l.length; omega, fun q hq => by
        rw [List.take_add_one, hg] at hq
        rcases List.mem_append.1 hq with hq | hq
        · exact hall q hq
        · rw [show (some g).toList = [g] from rfl, List.mem_singleton] at hq
          rw [hq]; exact he, by show (encN (l.map Cg.c) (i + 1)).size ≤ 10 + (i + 1) * 700000; rw [hnext, ByteArray.size_append]; omega⟩ (by show l.length - (i + 1) < l.length - i; omega) ⟨rfl, rfl, rfl, rfl, trivial⟩ (fun w h => h.split))
    · have hf : (l.map Cg.c).find? (fun c => decide (checkF c ≠ 0)) = some g.c := by
        rw [List.find?_map]
        have h2 : l.find? ((fun c => decide (checkF c ≠ 0)) ∘ Cg.c) = some g := by
          rw [List.find?_eq_some_iff_getElem]
          obtain ⟨h3, h4⟩ := List.getElem?_eq_some_iff.1 hg
          refine ⟨by simp [he], i, h3, h4, fun j hj => ?_⟩
          have := hall (l[j]'(by omega)) (by rw [List.mem_take_iff_getElem]; exact ⟨j, by omega, rfl⟩)
          simp [this]
        rw [h2]; rfl
      rw [hf] at henc
      rw [henc]
      repeat' (first | refine Cd.seq ?_ | refine Cd.reg ?_ | refine Ops.nil ?_ | refine Ops.mv rfl rfl rfl rfl ?_ | refine Ops.asg rfl rfl rfl rfl ?_ | refine Ops.bin rfl rfl rfl rfl rfl ?_ | refine Cd.condT rfl (by first | rfl | assumption | (simp only [decide_eq_true_eq, decide_eq_false_iff_not, Bool.not_eq_true', Bool.not_eq_false', Bool.not_eq_eq_eq_not, Bool.not_true, Bool.not_false, beq_iff_eq, beq_eq_false_iff_ne, ne_eq, decide_eq_decide, eq_self, true_iff, iff_true, not_true_eq_false, not_false_eq_true]; first | done | omega)) ?_)
      exact Cd.ret (ret2 (A' := []) rfl (Res.tmp rfl) (Res.tmp rfl) (fun _ h => h.split) ⟨rfl, rfl⟩)
  · have hil' : ¬ (i : Int) < l.length := by omega
    have hie : i = l.length := by omega
    subst hie
    rw [List.take_length] at hall
    have hf : (l.map Cg.c).find? (fun c => decide (checkF c ≠ 0)) = none := by
      rw [List.find?_eq_none]
      intro c hc
      obtain ⟨g, hg, rfl⟩ := List.mem_map.1 hc
      simp [hall g hg]
    rw [hf] at henc
    rw [hlm] at henc
    dsimp only at henc
    by_cases hbig : 2048 < (encN (l.map Cg.c) l.length).size
    · have hbig' : (2048 : Int) < ((encN (l.map Cg.c) l.length).size : Nat) := by omega
      rw [if_pos hbig] at henc
      rw [henc]
      repeat' (first | refine Cd.seq ?_ | refine Cd.reg ?_ | refine Ops.nil ?_ | refine Ops.mv rfl rfl rfl rfl ?_ | refine Ops.asg rfl rfl rfl rfl ?_ | refine Ops.lenStr rfl rfl rfl rfl ?_ | refine Ops.bin rfl rfl rfl rfl rfl ?_ | refine Cd.exit (Cd.next (Q' := fun _ _ _ => True) ?_) | refine Cd.condT rfl (by first | rfl | assumption | (simp only [decide_eq_true_eq, decide_eq_false_iff_not, Bool.not_eq_true', Bool.not_eq_false', Bool.not_eq_eq_eq_not, Bool.not_true, Bool.not_false, beq_iff_eq, beq_eq_false_iff_ne, ne_eq, decide_eq_decide, eq_self, true_iff, iff_true, not_true_eq_false, not_false_eq_true]; first | done | omega)) ?_ | refine Cd.condF rfl (by first | rfl | assumption | (simp only [decide_eq_true_eq, decide_eq_false_iff_not, Bool.not_eq_true', Bool.not_eq_false', Bool.not_eq_eq_eq_not, Bool.not_true, Bool.not_false, beq_iff_eq, beq_eq_false_iff_ne, ne_eq, decide_eq_decide, eq_self, true_iff, iff_true, not_true_eq_false, not_false_eq_true]; first | done | omega)) ?_)
      exact Cd.ret (ret2 (A' := []) rfl (Res.tmp rfl) (Res.tmp rfl) (fun _ h => h.split) ⟨rfl, rfl⟩)
    · have hbig' : ¬ (2048 : Int) < ((encN (l.map Cg.c) l.length).size : Nat) := by omega
      rw [if_neg hbig] at henc
      rw [henc]
      repeat' (first | refine Cd.seq ?_ | refine Cd.reg ?_ | refine Ops.nil ?_ | refine Ops.mv rfl rfl rfl rfl ?_ | refine Ops.asg rfl rfl rfl rfl ?_ | refine Ops.lenStr rfl rfl rfl rfl ?_ | refine Ops.bin rfl rfl rfl rfl rfl ?_ | refine Cd.skip (Cd.next ?_) | refine Cd.exit (Cd.next (Q' := fun _ _ _ => True) ?_) | refine Cd.condF rfl (by first | rfl | assumption | (simp only [decide_eq_true_eq, decide_eq_false_iff_not, Bool.not_eq_true', Bool.not_eq_false', Bool.not_eq_eq_eq_not, Bool.not_true, Bool.not_false, beq_iff_eq, beq_eq_false_iff_ne, ne_eq, decide_eq_decide, eq_self, true_iff, iff_true, not_true_eq_false, not_false_eq_true]; first | done | omega)) ?_)
      exact Cd.ret (ret2 (A' := []) rfl (Res.tmp rfl) (Res.tmp rfl) (fun _ h => h.split) ⟨rfl, rfl⟩)
end Go.Proofs.YtnmjdoaogdaehaaGreat
namespace Go.Proofs.YtnmjdoaogdaehaaGreat
open Go Go.Sep Go.Proofs
set_option maxRecDepth 10000
set_option maxHeartbeats 40000000
set_option synthInstance.maxSize 2000
set_option linter.unusedSimpArgs false
set_option linter.unusedVariables false
/-! changes, one behind the other -/
def holderOk (node life : Int) : Bool := decide (2 ≤ node ∧ node ≤ 9 ∧ 1 ≤ life ∧ life ≤ 1099511627776)
def heldAt (rows : List Rw) (badge : Int) : Option Nat := rows.findIdx? fun r => decide (r.status = 2 ∧ r.badge = badge)
def lastAt (rows : List Rw) (badge : Int) : Option Nat := rows.findIdx? fun r => decide (r.badge = badge ∧ 0 < badge)
def Rw.free (r : Rw) (att : Int) : Rw := { r with status := if att ≤ r.att then 4 else 1, node := 0, life := 0 }
def Rw.done (r : Rw) (code bits : Int) : Rw := { r with status := 3, node := 0, life := 0, rcode := code, rbits := bits }
def Rw.give (r : Rw) (badge node life : Int) : Rw := { r with status := 2, badge := badge, node := node, life := life, att := r.att + 1 }
/-- What a change makes of a state; none: it may not come. -/
def stepF (s : StP) (c : Ch) : Option StP :=
  if c.kind = 1 then (if s.res < c.n then some { s with res := c.n } else none)
  else if c.kind = 2 then (if c.job ≠ (s.progs.length : Nat) + 1 ∨ 8 ≤ s.rows.length then none else some { s with rows := s.rows ++ [⟨(s.rows.length : Nat) + 1, 1, 0, 0, 0, 0, 0, 0⟩], progs := s.progs ++ [c.prog], logs := s.logs ++ [[]] })
  else if c.kind = 3 then (if s.res < c.badge then none else match (if 1 ≤ c.job then s.rows[(c.job - 1).toNat]? else none) with
    | none => none
    | some r => if r.status ≠ 1 ∨ ¬ (1 ≤ c.badge ∧ c.badge ≤ 1099511627776) ∨ s.rows.any (fun q => decide (c.badge ≤ q.badge)) ∨ ¬ holderOk (2 + c.slot) c.life then none
      else some { s with rows := s.rows.set (c.job - 1).toNat (r.give c.badge (2 + c.slot) c.life), logs := s.logs.set (c.job - 1).toNat [] })
  else if c.kind = 4 then (match lastAt s.rows c.badge with
    | none => none
    | some i => if (s.rows.getD i ⟨0, 0, 0, 0, 0, 0, 0, 0⟩).status ≠ 2 ∨ 32 < (s.logs.getD i []).length + c.txs.length then none else some { s with logs := s.logs.set i (s.logs.getD i [] ++ c.txs) })
  else if c.kind = 5 then (match heldAt s.rows c.badge with
    | none => none
    | some i => some { s with rows := s.rows.set i ((s.rows.getD i ⟨0, 0, 0, 0, 0, 0, 0, 0⟩).free s.att) })
  else (match heldAt s.rows c.badge with
    | none => none
    | some i => if ¬ (0 ≤ c.rcode ∧ c.rcode ≤ 7 ∧ (c.rcode = 0 ∨ c.rbits = 0)) then none else some { s with rows := s.rows.set i ((s.rows.getD i ⟨0, 0, 0, 0, 0, 0, 0, 0⟩).done c.rcode c.rbits) })
theorem getD_of {α : Type} {l : List α} {i : Nat} {d r : α} (h : l[i]? = some r) : l.getD i d = r := by rw [List.getD_eq_getElem?_getD, h]; rfl
theorem set_jobs {rows : List Rw} {i : Nat} {f : Rw} (hj : ∀ (k : Nat) (r : Rw), rows[k]? = some r → r.job = (k : Int) + 1) (hf : ∀ r, rows[i]? = some r → f.job = r.job) : ∀ (k : Nat) (r : Rw), (rows.set i f)[k]? = some r → r.job = (k : Int) + 1 := by
  intro k r hk
  rw [List.getElem?_set] at hk
  split at hk
  · rename_i h
    subst h
    split at hk
    · rename_i hlt
      injection hk with hk
      subst hk
      obtain ⟨q, hq⟩ : ∃ q, rows[i]? = some q := ⟨_, List.getElem?_eq_getElem hlt⟩
      rw [hf q hq]; exact hj i q hq
    · cases hk
  · exact hj k r hk
theorem stepF_ok {s s' : StP} {c : Ch} (ok : StOk s) (h : stepF s c = some s') : StOk s' := by
  obtain ⟨a1, a8, nr, np, nl, lg, jb⟩ := ok
  unfold stepF at h
  split at h
  · split at h
    · injection h with h; subst h; exact ⟨a1, a8, nr, np, nl, lg, jb⟩
    · cases h
  split at h
  · split at h
    · cases h
    · rename_i hc
      injection h with h; subst h
      refine ⟨a1, a8, by simp; omega, by simp; omega, by simp; omega, fun l hl => ?_, fun i r hr => ?_⟩
      · rcases List.mem_append.1 hl with hl | hl
        · exact lg l hl
        · rw [List.mem_singleton] at hl; subst hl; simp
      · rw [List.getElem?_append] at hr
        split at hr
        · exact jb i r hr
        · rename_i hlt
          cases hd : i - s.rows.length with
          | zero => rw [hd] at hr; injection hr with hr; subst hr; dsimp only; omega
          | succ n => rw [hd] at hr; cases hr
  split at h
  · split at h
    · cases h
    · split at h
      · cases h
      · rename_i r hr
        split at h
        · cases h
        · injection h with h; subst h
          have hr2 : s.rows[(c.job - 1).toNat]? = some r := by
            split at hr
            · exact hr
            · cases hr
          refine ⟨a1, a8, by simpa using nr, by simpa using np, by simpa using nl, fun l hl => ?_, set_jobs jb fun q hq => ?_⟩
          · rcases List.mem_or_eq_of_mem_set hl with hl | rfl
            · exact lg l hl
            · simp
          · rw [hr2] at hq; injection hq with hq; rw [← hq]; rfl
  split at h
  · split at h
    · cases h
    · rename_i i hi
      split at h
      · cases h
      · rename_i hc
        injection h with h; subst h
        refine ⟨a1, a8, nr, np, by simpa using nl, fun l hl => ?_, jb⟩
        rcases List.mem_or_eq_of_mem_set hl with hl | rfl
        · exact lg l hl
        · rw [List.length_append]; omega
  split at h
  · split at h
    · cases h
    · rename_i i hi
      injection h with h; subst h
      exact ⟨a1, a8, by simpa using nr, by simpa using np, by simpa using nl, lg, set_jobs jb fun q hq => by rw [getD_of hq]; rfl⟩
  · split at h
    · cases h
    · split at h
      · cases h
      · injection h with h; subst h
        exact ⟨a1, a8, by simpa using nr, by simpa using np, by simpa using nl, lg, set_jobs jb fun q hq => by rw [getD_of hq]; rfl⟩
theorem fnok_does (k : Int) : FnOk Tryz.prog (doesN k) := by
  unfold doesN
  (repeat' split) <;> infer_instance
/-- What a change's function does is what stepF says. -/
def StepOk (B0 : Base) (c : Ch) : Prop := ∀ (sb : Nat) (s : StP) (D : List Blk) (a : Option Addr) (k : Nat), StA sb s D → StOk s → SIn B0 a c.txs →
  ConB Tryz.prog B0 (doesN c.kind) #[ptr sb, .agg (c.row a k).toArray] D fun v A => v = .bool (stepF s c).isSome ∧ StA sb ((stepF s c).getD s) A
def applyG (s0 : StP) : StP → Nat → List Ch → (Nat × Int) × StP
  | s, i, [] => ((0, 0), s)
  | s, i, c :: l => if checkF c ≠ 0 then ((i, 170), s0) else match stepF s c with
    | none => ((i, 170), s0)
    | some s' => applyG s0 s' (i + 1) l
def applyF (s : StP) (l : List Ch) : (Nat × Int) × StP := applyG s s 0 l
structure ApS where
  i : Nat
  s : StP
  D : List Blk
theorem check_kind {c : Ch} (h : checkF c = 0) : 1 ≤ c.kind ∧ c.kind ≤ 6 := by
  unfold checkF at h
  split at h
  · cases h
  · rename_i hk; exact Classical.not_not.1 hk
theorem apply_spec (B0 : Base) (sb : Nat) (s : StP) (D : List Blk) (hD : StA sb s D) (ok : StOk s) (a : Option Addr) (cp : Nat) (l : List Cg) (hC : CIn B0 a l) (hl : l.length ≤ 2000000) (hst : ∀ g ∈ l, StepOk B0 g.c) :
    ConB Tryz.prog B0 62 #[ptr sb, .slice a l.length cp] D fun v A => v = .tuple #[.int .i64 ((applyF s (l.map Cg.c)).1.1 : Nat), .int .i64 (applyF s (l.map Cg.c)).1.2] ∧ StA sb (applyF s (l.map Cg.c)).2 A := by
  have hclone : ConB Tryz.prog B0 125 #[ptr sb] D fun v X => ∃ A', (∃ s2, v = ptr s2 ∧ StA s2 s A') ∧ X = A' ++ D := ConB.lend (A1 := []) fun B1 e hG => sclone_state B1 sb s (hD.in_ hG) ok
  refine ConB.intro (vs := [_, _]) Tryz.func62 rfl Tryz.ntmps62 rfl (fun B hB => ?_)
  repeat' (first | refine Cd.seq ?_ | refine Cd.reg ?_ | refine Ops.mv rfl rfl rfl rfl ?_ | refine Ops.asg rfl rfl rfl rfl ?_)
  refine Ops.callB hclone hB rfl (noPd rfl) rfl rfl rfl (fun v A' hR => ?_)
  obtain ⟨D2, ⟨s2, rfl, hD2⟩, rfl⟩ := hR
  repeat' (first | refine Cd.seq ?_ | refine Cd.reg ?_ | refine Ops.nil ?_ | refine Ops.mv rfl rfl rfl rfl ?_ | refine Ops.asg rfl rfl rfl rfl ?_ | refine Ops.lenS rfl rfl rfl rfl ?_ | refine Cd.block ?_)
  refine Cd.loopK (σ := ApS) (fun t => t.i ≤ l.length ∧ StA s2 t.s t.D ∧ StOk t.s ∧ applyF s (l.map Cg.c) = applyG s t.s t.i ((l.map Cg.c).drop t.i)) (fun t => [(0, ptr sb), (6, ptr s2), (11, .slice a l.length cp), (12, .int .i64 l.length), (13, .int .i64 t.i)]) (fun t => t.D ++ D) (fun t => l.length - t.i) ⟨0, s, D2⟩ ⟨Nat.zero_le _, hD2, ok, rfl⟩ ⟨rfl, rfl, rfl, rfl, rfl, trivial⟩ (fun w h => h.split) (fun t ht => ?_)
  obtain ⟨i, s1, D1⟩ := t
  obtain ⟨hi, hD1, ok1, hap⟩ := ht
  dsimp only at hi hD1 ok1 hap ⊢
  by_cases hil : i < l.length
  · have hil' : (i : Int) < l.length := by omega
    obtain ⟨g, hg⟩ : ∃ g, l[i]? = some g := ⟨_, List.getElem?_eq_getElem hil⟩
    have hgm := List.mem_of_getElem? hg
    have hdr : (l.map Cg.c).drop i = g.c :: (l.map Cg.c).drop (i + 1) := by
      have hg2 : (l.map Cg.c)[i]? = some g.c := by rw [List.getElem?_map, hg]; rfl
      obtain ⟨h1, h2⟩ := List.getElem?_eq_some_iff.1 hg2
      rw [← h2]; exact List.drop_eq_getElem_cons h1
    rw [hdr, applyG] at hap
    obtain ⟨b, off, hab, hrd⟩ := (hC.r.ext hB) i g.row (by rw [List.getElem?_map, hg]; rfl)
    subst hab
    have hrw : ∀ A j u, g.row[j]? = some u → Rd B.plain A b (off + (i : Int).toNat * 10 + j) u := fun A j u hu => by rw [Int.toNat_natCast]; exact hrd A j u hu
    repeat' (first | refine Cd.seq ?_ | refine Cd.reg ?_ | refine Ops.mv rfl rfl rfl rfl ?_ | refine Ops.bin rfl rfl rfl rfl rfl ?_ | refine Cd.block ?_ | refine Cd.skip (Cd.next ?_) | refine Ops.ixa rfl rfl rfl rfl (by omega) (by omega) rfl ?_ | refine Cd.condT rfl (by first | rfl | assumption | (simp only [decide_eq_true_eq, decide_eq_false_iff_not, Bool.not_eq_true', Bool.not_eq_false', Bool.not_eq_eq_eq_not, Bool.not_true, Bool.not_false, beq_iff_eq, beq_eq_false_iff_ne, ne_eq, decide_eq_decide, eq_self, true_iff, iff_true, not_true_eq_false, not_false_eq_true]; first | done | omega)) ?_)
    refine Ops.ldRN (r := g.row) rfl rfl rfl rfl (hrw _) rfl ?_
    repeat' (first | refine Cd.seq ?_ | refine Ops.asg rfl rfl rfl rfl ?_ | refine Ops.alloc rfl rfl rfl (noPd rfl) (fun b => ?_) | refine Ops.stN rfl rfl rfl rfl rfl rfl (noPd rfl) ?_)
    rename Nat => gb
    refine Cd.draw [(0, 1, []), (1, 2, []), (2, 0, []), (3, 0, []), (4, 0, []), (5, 1, []), (7, 0, []), (8, 1, []), (6, 2, [8]), (9, 2, []), (10, 0, []), (11, 0, [])] (by kernel_rfl) (by kernel_rfl) (by simp only [picked, nth]; exact rfl) ?_
    repeat' (first | refine Ops.ldN rfl rfl rfl rfl ?_ | fail)
    refine Ops.callB (rcheck_spec B0 g.c g.a g.k (hC.s g hgm) (hC.n g hgm)) hB rfl (noPd rfl) rfl rfl rfl (fun v A' hR => ?_)
    obtain ⟨rfl, rfl⟩ := hR
    by_cases he : checkF g.c = 0
    · rw [if_neg (not_not_intro he)] at hap
      rw [he]
      repeat' (first | refine Ops.mv rfl rfl rfl rfl ?_ | refine Ops.fa0 rfl rfl rfl rfl ?_ | refine Ops.ld1 rfl rfl rfl rfl rfl ?_ | refine Ops.ldN rfl rfl rfl rfl ?_ | refine Ops.bin rfl rfl rfl rfl rfl ?_ | fail)
      refine Ops.call (sdoes_spec g.c.kind (check_kind he)) rfl (by first | exact noPd rfl | (intro v A' hR i hi; obtain ⟨A2, hR, rfl⟩ := hR; (try obtain ⟨rfl, rfl⟩ := hR); (repeat (rcases List.mem_cons.1 hi with rfl | hi; · (first | exact Still.ld1 rfl rfl rfl rfl rfl | exact Still.ldN rfl rfl rfl rfl | exact Still.len rfl rfl rfl rfl rfl | exact Still.skip rfl rfl rfl | exact Still.ldRow1 rfl rfl rfl (by assumption) (by assumption) rfl rfl | exact Still.ldR rfl rfl rfl (by apply_assumption) rfl))); cases hi)) rfl rfl rfl (fun v A' hR => ?_)
      obtain ⟨rfl, rfl⟩ := hR
      skip
      haveI := fnok_does g.c.kind
      refine Ops.callVB (fi := []) (ca := []) (vs := [_, _]) (hst g hgm s2 s1 D1 g.a g.k hD1 ok1 (hC.s g hgm)) hB rfl (noPd rfl) rfl rfl rfl rfl (fun v A' hR => ?_)
      obtain ⟨rfl, hD3⟩ := hR
      cases hs : stepF s1 g.c with
      | none =>
        rw [hs] at hap
        dsimp only at hap
        rw [hap, show (none : Option StP).isSome = false from rfl]
        repeat' (first | refine Cd.seq ?_ | refine Cd.reg ?_ | refine Ops.nil ?_ | refine Ops.mv rfl rfl rfl rfl ?_ | refine Ops.asg rfl rfl rfl rfl ?_ | refine Ops.un rfl rfl rfl rfl ?_ | refine Ops.pickF rfl rfl rfl rfl rfl ?_ | refine Cd.condT rfl rfl ?_)
        exact Cd.ret (ret2 (A' := D) rfl (Res.tmp rfl) (Res.tmp rfl) (fun _ h => h.split) ⟨rfl, hD⟩)
      | some s3 =>
        rw [hs] at hap hD3
        dsimp only at hap
        rw [show (some s3).isSome = true from rfl]
        repeat' (first | refine Cd.reg ?_ | refine Ops.nil ?_ | refine Ops.mv rfl rfl rfl rfl ?_ | refine Ops.addI rfl rfl rfl rfl (by omega) (by omega) rfl ?_ | refine Ops.un rfl rfl rfl rfl ?_ | refine Ops.pickF rfl rfl rfl rfl rfl ?_ | refine Cd.condF rfl rfl ?_ | refine Cd.skip (Cd.next (Q' := fun _ _ _ => True) ?_))
        exact Ops.nilN (round_end (⟨i + 1, s3, A'⟩ : ApS) ⟨by show i + 1 ≤ l.length; omega, hD3, stepF_ok ok1 hs, hap⟩ (by show l.length - (i + 1) < l.length - i; omega) ⟨rfl, rfl, rfl, rfl, rfl, trivial⟩ (fun w h => h.split))
    · rw [if_pos he] at hap
      rw [hap]
      repeat' (first | refine Cd.seq ?_ | refine Cd.reg ?_ | refine Ops.nil ?_ | refine Ops.mv rfl rfl rfl rfl ?_ | refine Ops.asg rfl rfl rfl rfl ?_ | refine Ops.bin rfl rfl rfl rfl rfl ?_ | refine Ops.pickT rfl rfl rfl rfl rfl ?_ | refine Ops.gSkip rfl rfl rfl ?_ | refine Ops.gSkipE rfl (by first | exact noPd rfl | (intro v A' hR i hi; obtain ⟨rfl, rfl⟩ := hR; (repeat (rcases List.mem_cons.1 hi with rfl | hi; · (first | exact Still.ld1 rfl rfl rfl rfl rfl | exact Still.ldN rfl rfl rfl rfl | exact Still.len rfl rfl rfl rfl rfl | exact Still.skip rfl rfl rfl | exact Still.ldRow1 rfl rfl rfl (by assumption) (by assumption) rfl rfl | exact Still.ldR rfl rfl rfl (by apply_assumption) rfl))); cases hi)) rfl rfl ?_ | refine Cd.condT rfl rfl ?_ | ((fail_if_success refine Ops.probe rfl ?_); refine Ops.gT rfl rfl (by first | rfl | assumption | (simp only [decide_eq_true_eq, decide_eq_false_iff_not, Bool.not_eq_true', Bool.not_eq_false', Bool.not_eq_eq_eq_not, Bool.not_true, Bool.not_false, beq_iff_eq, beq_eq_false_iff_ne, ne_eq, decide_eq_decide, eq_self, true_iff, iff_true, not_true_eq_false, not_false_eq_true]; first | done | omega)) ?_))
      exact Cd.ret (ret2 (A' := D) rfl (Res.tmp rfl) (Res.tmp rfl) (fun _ h => h.split) ⟨rfl, hD⟩)
  · have hil' : ¬ (i : Int) < l.length := by omega
    have hie : i = l.length := by omega
    rw [List.drop_of_length_le (by rw [List.length_map]; omega), applyG] at hap
    rw [hap]
    obtain ⟨q1, rv1, RG1, pv1, PG1, lv1, LG1, ls1, rfl, x1, x2, x3, x4, x5⟩ := hD1
    obtain ⟨qb, rv, RG, pv, PG, lv, LG, ls, rfl, y1, y2, y3, y4, y5⟩ := hD
    obtain ⟨ra1, rc1, rfl⟩ := x1.form
    obtain ⟨pa1, pc1, rfl⟩ := x2.form
    obtain ⟨la1, lc1, rfl⟩ := Own.form x3
    repeat' (first | refine Cd.seq ?_ | refine Cd.reg ?_ | refine Ops.nil ?_ | refine Ops.mv rfl rfl rfl rfl ?_ | refine Ops.asg rfl rfl rfl rfl ?_ | refine Ops.nilP rfl rfl rfl rfl ?_ | refine Ops.ldN rfl rfl rfl rfl ?_ | refine Ops.bin rfl rfl rfl rfl rfl ?_ | refine Ops.stN rfl rfl rfl rfl rfl rfl (noPd rfl) ?_ | refine Cd.exit (Cd.next (Q' := fun _ _ _ => True) ?_) | refine Cd.condF rfl (by first | rfl | assumption | (simp only [decide_eq_true_eq, decide_eq_false_iff_not, Bool.not_eq_true', Bool.not_eq_false', Bool.not_eq_eq_eq_not, Bool.not_true, Bool.not_false, beq_iff_eq, beq_eq_false_iff_ne, ne_eq, decide_eq_decide, eq_self, true_iff, iff_true, not_true_eq_false, not_false_eq_true]; first | done | omega)) ?_)
    exact Cd.ret (ret2 (A' := StB sb q1 s1.res _ _ :: QuB q1 s1.att _ :: (RG1 ++ (PG1 ++ (LG1 ++ ls1.flatMap Lg.G)))) rfl (Res.tmp rfl) (Res.tmp rfl) (fun _ h => h.split) ⟨rfl, q1, _, RG1, _, PG1, _, LG1, ls1, rfl, x1, x2, x3, x4, x5⟩)
end Go.Proofs.YtnmjdoaogdaehaaGreat
namespace Go.Proofs.YtnmjdoaogdaehaaGreat
open Go Go.Sep Go.Proofs
set_option maxRecDepth 10000
set_option linter.unusedSimpArgs false
set_option linter.unusedVariables false
/-! what the changes do -/
theorem step_reserve (B0 : Base) (c : Ch) (h : c.kind = 1) : StepOk B0 c := by
  intro sb s D a k hD ok hS
  obtain ⟨qb, rv, RG, pv, PG, lv, LG, ls, rfl, y1, y2, y3, y4, y5⟩ := hD
  rw [show doesN c.kind = 186 from if_pos h]
  have hs : stepF s c = if s.res < c.n then some { s with res := c.n } else none := if_pos h
  refine ConB.mono (((reserve_spec sb qb s.res pv lv c a k).beside (F := QuB qb s.att rv :: (RG ++ (PG ++ (LG ++ ls.flatMap Lg.G))))).toB) (fun v A hR => ?_)
  obtain ⟨A', ⟨rfl, rfl⟩, rfl⟩ := hR
  rw [hs]
  by_cases hlt : s.res < c.n
  · rw [if_pos hlt, if_pos hlt]
    exact ⟨by rw [decide_eq_true hlt]; rfl, qb, rv, RG, pv, PG, lv, LG, ls, rfl, y1, y2, y3, y4, y5⟩
  · rw [if_neg hlt, if_neg hlt]
    exact ⟨by rw [decide_eq_false hlt]; rfl, qb, rv, RG, pv, PG, lv, LG, ls, rfl, y1, y2, y3, y4, y5⟩
end Go.Proofs.YtnmjdoaogdaehaaGreat
namespace Go.Proofs.YtnmjdoaogdaehaaGreat
open Go Go.Sep Go.Proofs
set_option maxRecDepth 10000
set_option maxHeartbeats 40000000
set_option synthInstance.maxSize 2000
set_option linter.unusedSimpArgs false
set_option linter.unusedVariables false
/-! changes are made -/
theorem records_spec (wb db : Nat) (w : Wl) : Con Tryz.prog 59 #[ptr wb] [WlB wb db w] fun v A => v = .int .i64 w.recs ∧ A = [WlB wb db w] := by
  refine Con.intro (vs := [_]) Tryz.func59 rfl Tryz.ntmps59 rfl (fun B => ?_)
  repeat' (first | refine Cd.seq ?_ | refine Cd.reg ?_ | refine Ops.nil ?_ | refine Ops.mv rfl rfl rfl rfl ?_ | refine Ops.asg rfl rfl rfl rfl ?_ | refine Ops.nilP rfl rfl rfl rfl ?_ | refine Ops.fa0 rfl rfl rfl rfl ?_ | refine Ops.ld1 rfl rfl rfl rfl rfl ?_)
  exact Cd.ret (ret1 (A' := [WlB wb db w]) rfl (Res.tmp rfl) (fun _ h => h.split) ⟨rfl, rfl⟩)
def OwnC (sv : Value) (l : List Cg) (G : List Blk) : Prop := Own 51 10 sv (l.map Cg.row) G
theorem OwnC.form {sv : Value} {l : List Cg} {G : List Blk} (h : OwnC sv l G) : ∃ a c, sv = .slice a l.length c := by
  obtain ⟨a, c, h⟩ := Own.form h
  exact ⟨a, c, by rw [h, List.length_map]⟩
theorem makes_nil (B0 : Base) (xb : Nat) (a : Option Addr) (cp : Nat) : ConB Tryz.prog B0 30 #[ptr xb, .slice a 0 cp] [] fun v A => A = [] := by
  refine ConB.intro (vs := [_, _]) Tryz.func30 rfl Tryz.ntmps30 rfl (fun B hB => ?_)
  repeat' (first | refine Cd.seq ?_ | refine Cd.reg ?_ | refine Ops.nil ?_ | refine Ops.mv rfl rfl rfl rfl ?_ | refine Ops.lenS rfl rfl rfl rfl ?_ | refine Ops.bin rfl rfl rfl rfl rfl ?_ | refine Cd.condT rfl rfl ?_)
  exact Cd.ret (ret0 (A' := []) rfl (fun _ h => h.split) rfl)
/-- Changes that are written without a snapshot. -/
theorem makes_spec (B0 : Base) (xb lb tb cb mb db wb sb : Nat) (c : Cf) (dead : Bool) (w w1 : Wl) (x x1 : Dk) (k : Nat) (D : List Blk) (hD : DkA db x k D) (s : StP) (SD : List Blk) (hS : StA sb s SD) (ok : StOk s) (tv : Value) (tl : List Cg) (TG : List Blk) (hT : OwnC tv tl TG) (htl : tl.length ≤ 1000000000)
    (a : Option Addr) (cp : Nat) (l : List Cg) (hC : CIn B0 a l) (h0 : 0 < l.length) (hl : l.length ≤ 2000000) (hst : ∀ g ∈ l, StepOk B0 g.c) (wok : WlOk w x.S.length) (hk : k ≤ 800000000000)
    (hz : (encodeF (l.map Cg.c)).1.size ≤ 900000) (hev : w.recs < c.every) (hrm : (encodeF (l.map Cg.c)).1.size ≤ roomW w x.S.length) (hap : appendF w x (encodeF (l.map Cg.c)).1 = ((w1, x1), 0)) :
    ConB Tryz.prog B0 30 #[ptr xb, .slice a l.length cp] (CoB xb lb tb cb mb db wb sb c tv dead :: WlB wb db w :: (SD ++ (D ++ TG)))
      fun v A => ∃ SD1 D1 tv1 TG1, A = CoB xb lb tb cb mb db wb sb c tv1 dead :: WlB wb db w1 :: (SD1 ++ (D1 ++ TG1)) ∧ StA sb (applyF s (l.map Cg.c)).2 SD1 ∧ DkA db x1 (k + (encodeF (l.map Cg.c)).1.size + 20) D1 ∧ OwnC tv1 (tl ++ l) TG1 := by
  obtain ⟨ta, tc, rfl⟩ := hT.form
  refine ConB.intro (vs := [_, _]) Tryz.func30 rfl Tryz.ntmps30 rfl (fun B hB => ?_)
  have h0' : ¬ ((l.length : Nat) : Int) = 0 := by omega
  repeat' (first | refine Cd.seq ?_ | refine Cd.reg ?_ | refine Ops.nil ?_ | refine Ops.mv rfl rfl rfl rfl ?_ | refine Ops.lenS rfl rfl rfl rfl ?_ | refine Ops.bin rfl rfl rfl rfl rfl ?_ | refine Cd.skip (Cd.next ?_) | refine Cd.condF rfl (by first | rfl | assumption | (simp only [decide_eq_true_eq, decide_eq_false_iff_not, Bool.not_eq_true', Bool.not_eq_false', Bool.not_eq_eq_eq_not, Bool.not_true, Bool.not_false, beq_iff_eq, beq_eq_false_iff_ne, ne_eq, decide_eq_decide, eq_self, true_iff, iff_true, not_true_eq_false, not_false_eq_true]; first | done | omega)) ?_)
  refine Ops.callB (encode_spec B0 a cp l hC hl) hB rfl (noPd rfl) rfl rfl rfl (fun v A' hR => ?_)
  obtain ⟨rfl, rfl⟩ := hR
  generalize encodeF (l.map Cg.c) = en at hz hrm hap ⊢
  obtain ⟨r, er⟩ := en
  dsimp only at hz hrm hap ⊢
  have hev' : ¬ c.every ≤ w.recs := by omega
  have hrm' : ¬ ((roomW w x.S.length : Nat) : Int) < (r.size : Int) := by omega
  repeat' (first | refine Cd.seq ?_ | refine Ops.mv rfl rfl rfl rfl ?_ | refine Ops.asg rfl rfl rfl rfl ?_ | refine Ops.ext rfl rfl rfl rfl rfl ?_)
  refine Cd.draw [(0, 0, []), (1, 0, []), (2, 0, []), (3, 1, []), (5, 0, []), (6, 0, []), (7, 0, []), (8, 0, []), (9, 1, []), (4, 2, [9]), (10, 0, []), (11, 0, []), (12, 0, []), (13, 0, []), (14, 0, []), (15, 1, []), (17, 0, []), (18, 0, []), (16, 2, []), (19, 0, []), (20, 0, [])] (by kernel_rfl) (by kernel_rfl) (by simp only [picked, nth]; exact rfl) ?_
  repeat' (first | refine Ops.mv rfl rfl rfl rfl ?_ | refine Ops.nilP rfl rfl rfl rfl ?_ | refine Ops.fa0 rfl rfl rfl rfl ?_ | refine Ops.fa rfl rfl rfl rfl ?_ | refine Ops.ld1 rfl rfl rfl rfl rfl ?_)
  refine Ops.call (records_spec wb db w) rfl (by first | exact noPd rfl | (intro v A' hR i hi; obtain ⟨A2, hR, rfl⟩ := hR; (try obtain ⟨rfl, rfl⟩ := hR); (repeat (rcases List.mem_cons.1 hi with rfl | hi; · (first | exact Still.ld1 rfl rfl rfl rfl rfl | exact Still.ldN rfl rfl rfl rfl | exact Still.len rfl rfl rfl rfl rfl | exact Still.skip rfl rfl rfl | exact Still.ldRow1 rfl rfl rfl (by assumption) (by assumption) rfl rfl | exact Still.ldR rfl rfl rfl (by apply_assumption) rfl))); cases hi)) rfl rfl rfl (fun v A' hR => ?_)
  obtain ⟨rfl, rfl⟩ := hR
  repeat' (first | refine Ops.mv rfl rfl rfl rfl ?_ | refine Ops.nilP rfl rfl rfl rfl ?_ | refine Ops.fa0 rfl rfl rfl rfl ?_ | refine Ops.ld1 rfl rfl rfl rfl rfl ?_ | refine Ops.lenStr rfl rfl rfl rfl ?_ | refine Ops.bin rfl rfl rfl rfl rfl ?_ | ((fail_if_success refine Ops.probe rfl ?_); refine Ops.gF rfl rfl (by first | rfl | assumption | (simp only [decide_eq_true_eq, decide_eq_false_iff_not, Bool.not_eq_true', Bool.not_eq_false', Bool.not_eq_eq_eq_not, Bool.not_true, Bool.not_false, beq_iff_eq, beq_eq_false_iff_ne, ne_eq, decide_eq_decide, eq_self, true_iff, iff_true, not_true_eq_false, not_false_eq_true]; first | done | omega)) ?_))
  refine Ops.callB (roomw_spec B0 wb db w x k D hD wok) hB rfl (by first | exact noPd rfl | (intro v A' hR i hi; obtain ⟨A2, hR, rfl⟩ := hR; (try obtain ⟨rfl, rfl⟩ := hR); (repeat (rcases List.mem_cons.1 hi with rfl | hi; · (first | exact Still.ld1 rfl rfl rfl rfl rfl | exact Still.ldN rfl rfl rfl rfl | exact Still.len rfl rfl rfl rfl rfl | exact Still.skip rfl rfl rfl | exact Still.ldRow1 rfl rfl rfl (by assumption) (by assumption) rfl rfl | exact Still.ldR rfl rfl rfl (by apply_assumption) rfl))); cases hi)) rfl rfl rfl (fun v A' hR => ?_)
  obtain ⟨rfl, rfl⟩ := hR
  repeat' (first | refine Cd.seq ?_ | refine Cd.reg ?_ | refine Ops.nil ?_ | refine Ops.mv rfl rfl rfl rfl ?_ | refine Ops.nilP rfl rfl rfl rfl ?_ | refine Ops.fa0 rfl rfl rfl rfl ?_ | refine Ops.ld1 rfl rfl rfl rfl rfl ?_ | refine Ops.bin rfl rfl rfl rfl rfl ?_ | refine Ops.pickF rfl rfl rfl rfl rfl ?_ | refine Cd.skip (Cd.next ?_) | refine Cd.condF rfl (by first | rfl | assumption | (simp only [decide_eq_true_eq, decide_eq_false_iff_not, Bool.not_eq_true', Bool.not_eq_false', Bool.not_eq_eq_eq_not, Bool.not_true, Bool.not_false, beq_iff_eq, beq_eq_false_iff_ne, ne_eq, decide_eq_decide, eq_self, true_iff, iff_true, not_true_eq_false, not_false_eq_true]; first | done | omega)) ?_)
  refine Ops.callB (append_spec B0 wb db w x k D hD r wok hz hk) hB rfl (noPd rfl) rfl rfl rfl (fun v A' hR => ?_)
  rw [hap] at hR
  obtain ⟨rfl, D1, rfl, hD1⟩ := hR
  dsimp only at hD1 ⊢
  repeat' (first | refine Cd.seq ?_ | refine Cd.reg ?_ | refine Ops.nil ?_ | refine Ops.mv rfl rfl rfl rfl ?_ | refine Ops.nilP rfl rfl rfl rfl ?_ | refine Ops.fa0 rfl rfl rfl rfl ?_ | refine Ops.ld1 rfl rfl rfl rfl rfl ?_ | refine Ops.bin rfl rfl rfl rfl rfl ?_ | refine Cd.condF rfl rfl ?_ | refine Cd.skip (Cd.next ?_))
  refine Ops.callB (apply_spec B0 sb s SD hS ok a cp l hC hl hst) hB rfl (noPd rfl) rfl rfl rfl (fun v A' hR => ?_)
  obtain ⟨rfl, hS1⟩ := hR
  rename List Blk => SD1
  repeat' (first | refine Cd.reg ?_ | refine Ops.mv rfl rfl rfl rfl ?_ | refine Ops.nilP rfl rfl rfl rfl ?_ | refine Ops.fa0 rfl rfl rfl rfl ?_ | refine Ops.ld1 rfl rfl rfl rfl rfl ?_)
  refine Ops.appS (rows := tl.map Cg.row) (news := l.map Cg.row) hT ((by simpa using (hC.ext hB).r.reads (cgs_ok l) (by decide) cp _) : Reads _ _ _ 10 (.slice a l.length cp) _) (by simp only [List.length_map]; omega) (by simp only [List.length_map]; omega) rfl rfl rfl rfl rfl (noPd rfl) rfl (fun v G' hG' => ?_)
  rw [← List.map_append] at hG'
  have hG2 : OwnC v (tl ++ l) G' := hG'
  obtain ⟨ta1, tc1, rfl⟩ := hG2.form
  repeat' (first | refine Ops.nilP rfl rfl rfl rfl ?_ | refine Ops.fa0 rfl rfl rfl rfl ?_ | refine Ops.st1 rfl rfl rfl rfl rfl (noPd rfl) ?_)
  exact Ops.nilN (end0 (A' := CoB xb lb tb cb mb db wb sb c (.slice ta1 (tl ++ l).length tc1) dead :: WlB wb db w1 :: (SD1 ++ (D1 ++ G'))) rfl (fun _ h => h.split) ⟨SD1, D1, _, G', rfl, hS1, hD1, hG2⟩)
end Go.Proofs.YtnmjdoaogdaehaaGreat
