import Derived.Test.YtaecdnfkcebbeaaGreatA01
import Derived.Test.YtaecdnfkcebbeaaGreatA31
import Derived.Test.YtaecdnfkcebbeaaGreatA09
set_option linter.unusedVariables false
set_option linter.unusedSimpArgs false
namespace Go.Proofs.YtaecdnfkcebbeaaGreat.Se
open Go Go.Sep Go.Proofs
set_option maxRecDepth 10000
set_option maxHeartbeats 1000000
theorem hello_nohas (n:Nat) (sv:Value) (rs:List Dk) (G:List Blk) (slot life:Int) (hO:OwnK sv rs G) (hh:hasB slot rs.length = false):Con Tryz.prog 154 #[ptr n,.int .i64 slot,.int .i64 life] (TabB n sv G) fun v A=>v = .tuple #[.int .i64 0,.int .i64 0] ∧ A = TabB n sv G:=by
 refine Con.intro (vs:=[_,_,_]) Tryz.func154 rfl Tryz.ntmps154 rfl (fun B=>?_)
 refine zg3 ?_
 refine Ops.call (has_spec n sv rs G slot hO) rfl (noPd rfl) rfl rfl rfl (fun v A' hR=>?_)
 obtain ⟨rfl,rfl⟩:=hR
 rw [hh]
 refine zg20 ?_
 exact ze66
theorem hello_nocnt (n:Nat) (sv:Value) (rs:List Dk) (G:List Blk) (slot life:Int) (hO:OwnK sv rs G) (hh:hasB slot rs.length = true) (hc:cntB life = false):Con Tryz.prog 154 #[ptr n,.int .i64 slot,.int .i64 life] (TabB n sv G) fun v A=>v = .tuple #[.int .i64 0,.int .i64 0] ∧ A = TabB n sv G:=by
 refine Con.intro (vs:=[_,_,_]) Tryz.func154 rfl Tryz.ntmps154 rfl (fun B=>?_)
 refine zg3 ?_
 refine Ops.call (has_spec n sv rs G slot hO) rfl (noPd rfl) rfl rfl rfl (fun v A' hR=>?_)
 obtain ⟨rfl,rfl⟩:=hR
 rw [hh]
 refine zg9 ?_
 refine Ops.call (counts_spec life) rfl (noPd rfl) rfl rfl rfl (fun v A' hR=>?_)
 obtain ⟨rfl,rfl⟩:=hR
 rw [hc]
 refine zg20 ?_
 exact ze66
theorem hello_old (n:Nat) (sv:Value) (rs:List Dk) (G:List Blk) (slot life:Int) (r:Dk) (hO:OwnK sv rs G) (hh:hasB slot rs.length = true) (hc:cntB life = true) (hr:rs[slot.toNat]? = some r) (hl:life < r.life):Con Tryz.prog 154 #[ptr n,.int .i64 slot,.int .i64 life] (TabB n sv G) fun v A=>v = .tuple #[.int .i64 0,.int .i64 0] ∧ A = TabB n sv G:=by
 have hO0:=hO
 obtain ⟨h0,h1⟩:0 ≤ slot ∧ slot < rs.length:=by simpa [hasB] using hh
 obtain ⟨g,c,spare,rfl,rfl,hsp,hle⟩:=hO.some_ (by omega)
 have hok:=dks_ok rs
 have hx:(dks rs)[slot.toNat]? = some [.int .i64 r.slot,.int .i64 r.life,.int .i64 r.session,.int .i64 r.last,.string r.reply]:=by simp [dks,hr]
 refine Con.intro (vs:=[_,_,_]) Tryz.func154 rfl Tryz.ntmps154 rfl (fun B=>?_)
 refine zg3 ?_
 refine Ops.call (has_spec n _ rs _ slot hO0) rfl (noPd rfl) rfl rfl rfl (fun v A' hR=>?_)
 obtain ⟨rfl,rfl⟩:=hR
 rw [hh]
 refine zg9 ?_
 refine Ops.call (counts_spec life) rfl (noPd rfl) rfl rfl rfl (fun v A' hR=>?_)
 obtain ⟨rfl,rfl⟩:=hR
 rw [hc]
 refine zg40 ?_
 exact ze66
theorem hello_known (n:Nat) (sv:Value) (rs:List Dk) (G:List Blk) (slot life:Int) (r:Dk) (hO:OwnK sv rs G) (hh:hasB slot rs.length = true) (hc:cntB life = true) (hr:rs[slot.toNat]? = some r) (hl:r.life = life):Con Tryz.prog 154 #[ptr n,.int .i64 slot,.int .i64 life] (TabB n sv G) fun v A=>v = .tuple #[.int .i64 1,.int .i64 r.session] ∧ A = TabB n sv G:=by
 have hO0:=hO
 obtain ⟨h0,h1⟩:0 ≤ slot ∧ slot < rs.length:=by simpa [hasB] using hh
 obtain ⟨g,c,spare,rfl,rfl,hsp,hle⟩:=hO.some_ (by omega)
 have hok:=dks_ok rs
 have hx:(dks rs)[slot.toNat]? = some [.int .i64 r.slot,.int .i64 r.life,.int .i64 r.session,.int .i64 r.last,.string r.reply]:=by simp [dks,hr]
 refine Con.intro (vs:=[_,_,_]) Tryz.func154 rfl Tryz.ntmps154 rfl (fun B=>?_)
 refine zg3 ?_
 refine Ops.call (has_spec n _ rs _ slot hO0) rfl (noPd rfl) rfl rfl rfl (fun v A' hR=>?_)
 obtain ⟨rfl,rfl⟩:=hR
 rw [hh]
 refine zg9 ?_
 refine Ops.call (counts_spec life) rfl (noPd rfl) rfl rfl rfl (fun v A' hR=>?_)
 obtain ⟨rfl,rfl⟩:=hR
 rw [hc]
 refine zg40 ?_
 refine Cd.draw [(0,0,[]),(1,0,[]),(2,0,[]),(3,1,[]),(4,0,[]),(5,0,[]),(6,0,[]),(7,1,[]),(8,0,[]),(9,0,[])] (by kernel_rfl) (by kernel_rfl) (by simp only [picked,nth];exact rfl) ?_
 refine zg40 ?_
 exact ze66
theorem hello_fresh (n:Nat) (sv:Value) (rs:List Dk) (G:List Blk) (slot life:Int) (r:Dk) (hO:OwnK sv rs G) (hh:hasB slot rs.length = true) (hc:cntB life = true) (hr:rs[slot.toNat]? = some r) (hl:r.life < life):Con Tryz.prog 154 #[ptr n,.int .i64 slot,.int .i64 life] (TabB n sv G) fun v A=>v = .tuple #[.int .i64 2,.int .i64 0] ∧ A = TabB n sv G:=by
 have hO0:=hO
 obtain ⟨h0,h1⟩:0 ≤ slot ∧ slot < rs.length:=by simpa [hasB] using hh
 obtain ⟨g,c,spare,rfl,rfl,hsp,hle⟩:=hO.some_ (by omega)
 have hok:=dks_ok rs
 have hx:(dks rs)[slot.toNat]? = some [.int .i64 r.slot,.int .i64 r.life,.int .i64 r.session,.int .i64 r.last,.string r.reply]:=by simp [dks,hr]
 refine Con.intro (vs:=[_,_,_]) Tryz.func154 rfl Tryz.ntmps154 rfl (fun B=>?_)
 refine zg3 ?_
 refine Ops.call (has_spec n _ rs _ slot hO0) rfl (noPd rfl) rfl rfl rfl (fun v A' hR=>?_)
 obtain ⟨rfl,rfl⟩:=hR
 rw [hh]
 refine zg9 ?_
 refine Ops.call (counts_spec life) rfl (noPd rfl) rfl rfl rfl (fun v A' hR=>?_)
 obtain ⟨rfl,rfl⟩:=hR
 rw [hc]
 refine zg40 ?_
 exact ze66
theorem open_nohas (n:Nat) (sv:Value) (rs:List Dk) (G:List Blk) (slot life session:Int) (hO:OwnK sv rs G) (hh:hasB slot rs.length = false):Con Tryz.prog 157 #[ptr n,.int .i64 slot,.int .i64 life,.int .i64 session] (TabB n sv G) fun v A=>v = .int .i64 130 ∧ A = TabB n sv G:=by
 refine Con.intro (vs:=[_,_,_,_]) Tryz.func157 rfl Tryz.ntmps157 rfl (fun B=>?_)
 refine zg3 ?_
 refine Ops.call (has_spec n sv rs G slot hO) rfl (noPd rfl) rfl rfl rfl (fun v A' hR=>?_)
 obtain ⟨rfl,rfl⟩:=hR
 rw [hh]
 refine zg15 ?_
 exact ze67
theorem open_nolife (n:Nat) (sv:Value) (rs:List Dk) (G:List Blk) (slot life session:Int) (hO:OwnK sv rs G) (hh:hasB slot rs.length = true) (hc:cntB life = false):Con Tryz.prog 157 #[ptr n,.int .i64 slot,.int .i64 life,.int .i64 session] (TabB n sv G) fun v A=>v = .int .i64 132 ∧ A = TabB n sv G:=by
 refine Con.intro (vs:=[_,_,_,_]) Tryz.func157 rfl Tryz.ntmps157 rfl (fun B=>?_)
 refine zg3 ?_
 refine Ops.call (has_spec n sv rs G slot hO) rfl (noPd rfl) rfl rfl rfl (fun v A' hR=>?_)
 obtain ⟨rfl,rfl⟩:=hR
 rw [hh]
 refine zg6 ?_
 refine Ops.call (counts_spec life) rfl (noPd rfl) rfl rfl rfl (fun v A' hR=>?_)
 obtain ⟨rfl,rfl⟩:=hR
 rw [hc]
 refine zg20 ?_
 exact ze67
theorem open_nosess (n:Nat) (sv:Value) (rs:List Dk) (G:List Blk) (slot life session:Int) (hO:OwnK sv rs G) (hh:hasB slot rs.length = true) (hc:cntB life = true) (hd:cntB session = false):Con Tryz.prog 157 #[ptr n,.int .i64 slot,.int .i64 life,.int .i64 session] (TabB n sv G) fun v A=>v = .int .i64 132 ∧ A = TabB n sv G:=by
 refine Con.intro (vs:=[_,_,_,_]) Tryz.func157 rfl Tryz.ntmps157 rfl (fun B=>?_)
 refine zg3 ?_
 refine Ops.call (has_spec n sv rs G slot hO) rfl (noPd rfl) rfl rfl rfl (fun v A' hR=>?_)
 obtain ⟨rfl,rfl⟩:=hR
 rw [hh]
 refine zg6 ?_
 refine Ops.call (counts_spec life) rfl (noPd rfl) rfl rfl rfl (fun v A' hR=>?_)
 obtain ⟨rfl,rfl⟩:=hR
 rw [hc]
 refine zg9 ?_
 refine Ops.call (counts_spec session) rfl (noPd rfl) rfl rfl rfl (fun v A' hR=>?_)
 obtain ⟨rfl,rfl⟩:=hR
 rw [hd]
 refine zg20 ?_
 exact ze67
theorem open_old (n:Nat) (sv:Value) (rs:List Dk) (G:List Blk) (slot life session:Int) (r:Dk) (hO:OwnK sv rs G) (hh:hasB slot rs.length = true) (hc:cntB life = true) (hd:cntB session = true) (hr:rs[slot.toNat]? = some r) (hl:life < r.life):Con Tryz.prog 157 #[ptr n,.int .i64 slot,.int .i64 life,.int .i64 session] (TabB n sv G) fun v A=>v = .int .i64 132 ∧ A = TabB n sv G:=by
 have hO0:=hO
 obtain ⟨h0,h1⟩:0 ≤ slot ∧ slot < rs.length:=by simpa [hasB] using hh
 obtain ⟨g,c,spare,rfl,rfl,hsp,hle⟩:=hO.some_ (by omega)
 have hok:=dks_ok rs
 have hx:(dks rs)[slot.toNat]? = some [.int .i64 r.slot,.int .i64 r.life,.int .i64 r.session,.int .i64 r.last,.string r.reply]:=by simp [dks,hr]
 refine Con.intro (vs:=[_,_,_,_]) Tryz.func157 rfl Tryz.ntmps157 rfl (fun B=>?_)
 refine zg3 ?_
 refine Ops.call (has_spec n _ rs _ slot hO0) rfl (noPd rfl) rfl rfl rfl (fun v A' hR=>?_)
 obtain ⟨rfl,rfl⟩:=hR
 rw [hh]
 refine zg6 ?_
 refine Ops.call (counts_spec life) rfl (noPd rfl) rfl rfl rfl (fun v A' hR=>?_)
 obtain ⟨rfl,rfl⟩:=hR
 rw [hc]
 refine zg9 ?_
 refine Ops.call (counts_spec session) rfl (noPd rfl) rfl rfl rfl (fun v A' hR=>?_)
 obtain ⟨rfl,rfl⟩:=hR
 rw [hd]
 refine zg40 ?_
 exact ze67
theorem open_ok (n:Nat) (sv:Value) (rs:List Dk) (G:List Blk) (slot life session:Int) (r:Dk) (hO:OwnK sv rs G) (hh:hasB slot rs.length = true) (hc:cntB life = true) (hd:cntB session = true) (hr:rs[slot.toNat]? = some r) (hl:r.life ≤ life):Con Tryz.prog 157 #[ptr n,.int .i64 slot,.int .i64 life,.int .i64 session] (TabB n sv G) fun v A=>v = .int .i64 0 ∧ ∃ G',A = TabB n sv G' ∧ OwnK sv (rs.set slot.toNat ⟨slot,life,session,0,⟨#[]⟩⟩) G':=by
 have hO0:=hO
 obtain ⟨h0,h1⟩:0 ≤ slot ∧ slot < rs.length:=by simpa [hasB] using hh
 obtain ⟨g,c,spare,rfl,rfl,hsp,hle⟩:=hO.some_ (by omega)
 have hok:=dks_ok rs
 have hx:(dks rs)[slot.toNat]? = some [.int .i64 r.slot,.int .i64 r.life,.int .i64 r.session,.int .i64 r.last,.string r.reply]:=by simp [dks,hr]
 refine Con.intro (vs:=[_,_,_,_]) Tryz.func157 rfl Tryz.ntmps157 rfl (fun B=>?_)
 refine zg3 ?_
 refine Ops.call (has_spec n _ rs _ slot hO0) rfl (noPd rfl) rfl rfl rfl (fun v A' hR=>?_)
 obtain ⟨rfl,rfl⟩:=hR
 rw [hh]
 refine zg6 ?_
 refine Ops.call (counts_spec life) rfl (noPd rfl) rfl rfl rfl (fun v A' hR=>?_)
 obtain ⟨rfl,rfl⟩:=hR
 rw [hc]
 refine zg9 ?_
 refine Ops.call (counts_spec session) rfl (noPd rfl) rfl rfl rfl (fun v A' hR=>?_)
 obtain ⟨rfl,rfl⟩:=hR
 rw [hd]
 refine zg40 ?_
 refine Ops.stRow (rows:=dks rs) (i:=slot.toNat) rfl rfl rfl rfl rfl rfl hok (by rw [dks_len];omega) (noPd rfl) ?_
 refine zg3 ?_
 refine Cd.ret (ret1 (A':=TabB n (.slice (some ⟨g,0,none⟩) rs.length c) [(g,cl (((dks rs).set slot.toNat [.int .i64 slot,.int .i64 life,.int .i64 session,.int .i64 0,.string ⟨#[]⟩]).flatten ++ spare) 299)]) rfl (Res.tmp rfl) (fun _ h=>h) ⟨rfl,_,rfl,?_⟩)
 have:=Own.set (rows:=dks rs) (spare:=spare) (c:=c) (g:=g) (by rw [dks_len];exact hO0) hsp (by rw [dks_len];exact hle) (i:=slot.toNat) (r:=[.int .i64 slot,.int .i64 life,.int .i64 session,.int .i64 0,.string ⟨#[]⟩]) rfl rfl
 unfold OwnK dks
 rw [List.map_set]
 simpa [dks] using this
theorem ask_nohas (n:Nat) (sv:Value) (rs:List Dk) (G:List Blk) (slot life session number:Int) (hO:OwnK sv rs G) (hh:hasB slot rs.length = false):Con Tryz.prog 159 #[ptr n,.int .i64 slot,.int .i64 life,.int .i64 session,.int .i64 number] (TabB n sv G) fun v A=>v = .tuple #[.int .i64 1,.string ⟨#[]⟩] ∧ A = TabB n sv G:=by
 refine Con.intro (vs:=[_,_,_,_,_]) Tryz.func159 rfl Tryz.ntmps159 rfl (fun B=>?_)
 refine zg0 ?_
 refine Ops.call (has_spec n sv rs G slot hO) rfl (noPd rfl) rfl rfl rfl (fun v A' hR=>?_)
 obtain ⟨rfl,rfl⟩:=hR
 rw [hh]
 refine zg15 ?_
 exact ze66
theorem task_stale (n:Nat) (sv:Value) (rs:List Dk) (G:List Blk) (slot life session number:Int) (r:Dk) (hO:OwnK sv rs G) (hh:hasB slot rs.length = true) (hr:rs[slot.toNat]? = some r) (hb0:0 ≤ r.last) (hb1:r.last ≤ 1099511627776) (hl:r.life = 0 ∨ r.life ≠ life ∨ r.session ≠ session):Con Tryz.prog 159 #[ptr n,.int .i64 slot,.int .i64 life,.int .i64 session,.int .i64 number] (TabB n sv G) fun v A=>v = .tuple #[.int .i64 1,.string ⟨#[]⟩] ∧ A = TabB n sv G:=by
 have hO0:=hO
 obtain ⟨h0,h1⟩:0 ≤ slot ∧ slot < rs.length:=by simpa [hasB] using hh
 obtain ⟨g,c,spare,rfl,rfl,hsp,hle⟩:=hO.some_ (by omega)
 have hok:=dks_ok rs
 have hx:(dks rs)[slot.toNat]? = some [.int .i64 r.slot,.int .i64 r.life,.int .i64 r.session,.int .i64 r.last,.string r.reply]:=by simp [dks,hr]
 refine Con.intro (vs:=[_,_,_,_,_]) Tryz.func159 rfl Tryz.ntmps159 rfl (fun B=>?_)
 refine zg0 ?_
 refine Ops.call (has_spec n _ rs _ slot hO0) rfl (noPd rfl) rfl rfl rfl (fun v A' hR=>?_)
 obtain ⟨rfl,rfl⟩:=hR
 rw [hh]
 repeat' (first|refine Cd.seq ?_|refine Cd.reg ?_|refine Ops.nil ?_|refine Ops.mv rfl rfl rfl rfl ?_|refine Ops.asg rfl rfl rfl rfl ?_|refine Ops.nilP rfl rfl rfl rfl ?_|refine Ops.fa0 rfl rfl rfl rfl ?_|refine Ops.ld1 rfl rfl rfl rfl rfl ?_|refine Ops.bin rfl rfl rfl rfl rfl ?_|refine Ops.un rfl rfl rfl rfl ?_|refine Ops.pickT rfl rfl rfl rfl rfl ?_|refine Ops.pickF rfl rfl rfl rfl rfl ?_|refine Ops.alloc rfl rfl rfl (noPd rfl) (fun b=>?_)|refine Ops.stN rfl rfl rfl rfl rfl rfl (noPd rfl) ?_|refine Ops.gSkip rfl rfl rfl ?_|refine Cd.condT rfl rfl ?_|refine Cd.condF rfl rfl ?_|refine Cd.block ?_|refine Cd.skip (Cd.next ?_)|refine Ops.ixa0 rfl rfl rfl rfl (by omega) (by omega) rfl ?_|refine Ops.ldRow rfl rfl rfl (by assumption) (by assumption) rfl ?_|refine Cd.condT rfl zp0 ?_|((fail_if_success refine Ops.probe rfl ?_);refine Ops.gSplit rfl rfl (fun hc=>?_) (fun hc=>?_) <;> (try simp only [decide_eq_true_eq,decide_eq_false_iff_not,Bool.not_eq_true',Bool.not_eq_false',Bool.not_eq_eq_eq_not,Bool.not_true,Bool.not_false,Int.not_lt,Int.not_le] at hc)))
 all_goals exact Cd.ret (ret2 rfl (Res.tmp rfl) (Res.tmp rfl) (fun _ h=>h.split) ⟨rfl,rfl⟩)
theorem task_zero (n:Nat) (sv:Value) (rs:List Dk) (G:List Blk) (slot life session number:Int) (r:Dk) (hO:OwnK sv rs G) (hh:hasB slot rs.length = true) (hr:rs[slot.toNat]? = some r) (hb0:0 ≤ r.last) (hb1:r.last ≤ 1099511627776) (hl:r.life ≠ 0 ∧ r.life = life ∧ r.session = session ∧ number < 1):Con Tryz.prog 159 #[ptr n,.int .i64 slot,.int .i64 life,.int .i64 session,.int .i64 number] (TabB n sv G) fun v A=>v = .tuple #[.int .i64 0,.string ⟨#[]⟩] ∧ A = TabB n sv G:=by
 have hO0:=hO
 obtain ⟨h0,h1⟩:0 ≤ slot ∧ slot < rs.length:=by simpa [hasB] using hh
 obtain ⟨g,c,spare,rfl,rfl,hsp,hle⟩:=hO.some_ (by omega)
 have hok:=dks_ok rs
 have hx:(dks rs)[slot.toNat]? = some [.int .i64 r.slot,.int .i64 r.life,.int .i64 r.session,.int .i64 r.last,.string r.reply]:=by simp [dks,hr]
 refine Con.intro (vs:=[_,_,_,_,_]) Tryz.func159 rfl Tryz.ntmps159 rfl (fun B=>?_)
 refine zg0 ?_
 refine Ops.call (has_spec n _ rs _ slot hO0) rfl (noPd rfl) rfl rfl rfl (fun v A' hR=>?_)
 obtain ⟨rfl,rfl⟩:=hR
 rw [hh]
 repeat' (first|refine Cd.seq ?_|refine Cd.reg ?_|refine Ops.nil ?_|refine Ops.mv rfl rfl rfl rfl ?_|refine Ops.asg rfl rfl rfl rfl ?_|refine Ops.nilP rfl rfl rfl rfl ?_|refine Ops.fa0 rfl rfl rfl rfl ?_|refine Ops.ld1 rfl rfl rfl rfl rfl ?_|refine Ops.bin rfl rfl rfl rfl rfl ?_|refine Ops.un rfl rfl rfl rfl ?_|refine Ops.pickF rfl rfl rfl rfl rfl ?_|refine Ops.alloc rfl rfl rfl (noPd rfl) (fun b=>?_)|refine Ops.stN rfl rfl rfl rfl rfl rfl (noPd rfl) ?_|refine Cd.condF rfl rfl ?_|refine Cd.block ?_|refine Cd.skip (Cd.next ?_)|refine Ops.ixa0 rfl rfl rfl rfl (by omega) (by omega) rfl ?_|refine Ops.ldRow rfl rfl rfl (by assumption) (by assumption) rfl ?_|refine Cd.condT rfl zp0 ?_|refine Cd.condF rfl zp0 ?_|((fail_if_success refine Ops.probe rfl ?_);refine Ops.gF rfl rfl zp0 ?_))
 all_goals exact Cd.ret (ret2 rfl (Res.tmp rfl) (Res.tmp rfl) (fun _ h=>h.split) ⟨rfl,rfl⟩)
theorem task_again (n:Nat) (sv:Value) (rs:List Dk) (G:List Blk) (slot life session number:Int) (r:Dk) (hO:OwnK sv rs G) (hh:hasB slot rs.length = true) (hr:rs[slot.toNat]? = some r) (hb0:0 ≤ r.last) (hb1:r.last ≤ 1099511627776) (hl:r.life ≠ 0 ∧ r.life = life ∧ r.session = session ∧ 1 ≤ number ∧ number = r.last):Con Tryz.prog 159 #[ptr n,.int .i64 slot,.int .i64 life,.int .i64 session,.int .i64 number] (TabB n sv G) fun v A=>v = .tuple #[.int .i64 2,.string r.reply] ∧ A = TabB n sv G:=by
 have hO0:=hO
 obtain ⟨h0,h1⟩:0 ≤ slot ∧ slot < rs.length:=by simpa [hasB] using hh
 obtain ⟨g,c,spare,rfl,rfl,hsp,hle⟩:=hO.some_ (by omega)
 have hok:=dks_ok rs
 have hx:(dks rs)[slot.toNat]? = some [.int .i64 r.slot,.int .i64 r.life,.int .i64 r.session,.int .i64 r.last,.string r.reply]:=by simp [dks,hr]
 refine Con.intro (vs:=[_,_,_,_,_]) Tryz.func159 rfl Tryz.ntmps159 rfl (fun B=>?_)
 refine zg0 ?_
 refine Ops.call (has_spec n _ rs _ slot hO0) rfl (noPd rfl) rfl rfl rfl (fun v A' hR=>?_)
 obtain ⟨rfl,rfl⟩:=hR
 rw [hh]
 repeat' (first|refine Cd.seq ?_|refine Cd.reg ?_|refine Ops.nil ?_|refine Ops.mv rfl rfl rfl rfl ?_|refine Ops.asg rfl rfl rfl rfl ?_|refine Ops.nilP rfl rfl rfl rfl ?_|refine Ops.fa0 rfl rfl rfl rfl ?_|refine Ops.ld1 rfl rfl rfl rfl rfl ?_|refine Ops.bin rfl rfl rfl rfl rfl ?_|refine Ops.un rfl rfl rfl rfl ?_|refine Ops.pickF rfl rfl rfl rfl rfl ?_|refine Ops.alloc rfl rfl rfl (noPd rfl) (fun b=>?_)|refine Ops.stN rfl rfl rfl rfl rfl rfl (noPd rfl) ?_|refine Cd.condF rfl rfl ?_|refine Cd.block ?_|refine Cd.skip (Cd.next ?_)|refine Ops.ixa0 rfl rfl rfl rfl (by omega) (by omega) rfl ?_|refine Ops.ldRow rfl rfl rfl (by assumption) (by assumption) rfl ?_|refine Cd.condT rfl zp0 ?_|refine Cd.condF rfl zp0 ?_|((fail_if_success refine Ops.probe rfl ?_);refine Ops.gF rfl rfl zp0 ?_))
 refine Cd.draw [(0,0,[]),(1,1,[]),(2,0,[]),(3,0,[])] (by kernel_rfl) (by kernel_rfl) (by simp only [picked,nth];exact rfl) ?_
 refine zg7 ?_
 all_goals exact Cd.ret (ret2 rfl (Res.tmp rfl) (Res.tmp rfl) (fun _ h=>h.split) ⟨rfl,rfl⟩)
theorem task_new (n:Nat) (sv:Value) (rs:List Dk) (G:List Blk) (slot life session number:Int) (r:Dk) (hO:OwnK sv rs G) (hh:hasB slot rs.length = true) (hr:rs[slot.toNat]? = some r) (hb0:0 ≤ r.last) (hb1:r.last ≤ 1099511627776) (hl:r.life ≠ 0 ∧ r.life = life ∧ r.session = session ∧ 1 ≤ number ∧ number = r.last + 1):Con Tryz.prog 159 #[ptr n,.int .i64 slot,.int .i64 life,.int .i64 session,.int .i64 number] (TabB n sv G) fun v A=>v = .tuple #[.int .i64 3,.string ⟨#[]⟩] ∧ A = TabB n sv G:=by
 have hO0:=hO
 obtain ⟨h0,h1⟩:0 ≤ slot ∧ slot < rs.length:=by simpa [hasB] using hh
 obtain ⟨g,c,spare,rfl,rfl,hsp,hle⟩:=hO.some_ (by omega)
 have hok:=dks_ok rs
 have hx:(dks rs)[slot.toNat]? = some [.int .i64 r.slot,.int .i64 r.life,.int .i64 r.session,.int .i64 r.last,.string r.reply]:=by simp [dks,hr]
 refine Con.intro (vs:=[_,_,_,_,_]) Tryz.func159 rfl Tryz.ntmps159 rfl (fun B=>?_)
 refine zg0 ?_
 refine Ops.call (has_spec n _ rs _ slot hO0) rfl (noPd rfl) rfl rfl rfl (fun v A' hR=>?_)
 obtain ⟨rfl,rfl⟩:=hR
 rw [hh]
 repeat' (first|refine Cd.seq ?_|refine Cd.reg ?_|refine Ops.nil ?_|refine Ops.mv rfl rfl rfl rfl ?_|refine Ops.asg rfl rfl rfl rfl ?_|refine Ops.nilP rfl rfl rfl rfl ?_|refine Ops.fa0 rfl rfl rfl rfl ?_|refine Ops.ld1 rfl rfl rfl rfl rfl ?_|refine Ops.addI rfl rfl rfl rfl (by omega) (by omega) rfl ?_|refine Ops.bin rfl rfl rfl rfl rfl ?_|refine Ops.un rfl rfl rfl rfl ?_|refine Ops.pickF rfl rfl rfl rfl rfl ?_|refine Ops.alloc rfl rfl rfl (noPd rfl) (fun b=>?_)|refine Ops.stN rfl rfl rfl rfl rfl rfl (noPd rfl) ?_|refine Cd.condF rfl rfl ?_|refine Cd.block ?_|refine Cd.skip (Cd.next ?_)|refine Ops.ixa0 rfl rfl rfl rfl (by omega) (by omega) rfl ?_|refine Ops.ldRow rfl rfl rfl (by assumption) (by assumption) rfl ?_|refine Cd.condT rfl zp0 ?_|refine Cd.condF rfl zp0 ?_|((fail_if_success refine Ops.probe rfl ?_);refine Ops.gF rfl rfl zp0 ?_))
 all_goals exact Cd.ret (ret2 rfl (Res.tmp rfl) (Res.tmp rfl) (fun _ h=>h.split) ⟨rfl,rfl⟩)
theorem task_pass (n:Nat) (sv:Value) (rs:List Dk) (G:List Blk) (slot life session number:Int) (r:Dk) (hO:OwnK sv rs G) (hh:hasB slot rs.length = true) (hr:rs[slot.toNat]? = some r) (hb0:0 ≤ r.last) (hb1:r.last ≤ 1099511627776) (hl:r.life ≠ 0 ∧ r.life = life ∧ r.session = session ∧ 1 ≤ number ∧ number ≠ r.last ∧ number ≠ r.last + 1):Con Tryz.prog 159 #[ptr n,.int .i64 slot,.int .i64 life,.int .i64 session,.int .i64 number] (TabB n sv G) fun v A=>v = .tuple #[.int .i64 0,.string ⟨#[]⟩] ∧ A = TabB n sv G:=by
 have hO0:=hO
 obtain ⟨h0,h1⟩:0 ≤ slot ∧ slot < rs.length:=by simpa [hasB] using hh
 obtain ⟨g,c,spare,rfl,rfl,hsp,hle⟩:=hO.some_ (by omega)
 have hok:=dks_ok rs
 have hx:(dks rs)[slot.toNat]? = some [.int .i64 r.slot,.int .i64 r.life,.int .i64 r.session,.int .i64 r.last,.string r.reply]:=by simp [dks,hr]
 refine Con.intro (vs:=[_,_,_,_,_]) Tryz.func159 rfl Tryz.ntmps159 rfl (fun B=>?_)
 refine zg0 ?_
 refine Ops.call (has_spec n _ rs _ slot hO0) rfl (noPd rfl) rfl rfl rfl (fun v A' hR=>?_)
 obtain ⟨rfl,rfl⟩:=hR
 rw [hh]
 repeat' (first|refine Cd.seq ?_|refine Cd.reg ?_|refine Ops.nil ?_|refine Ops.mv rfl rfl rfl rfl ?_|refine Ops.asg rfl rfl rfl rfl ?_|refine Ops.nilP rfl rfl rfl rfl ?_|refine Ops.fa0 rfl rfl rfl rfl ?_|refine Ops.ld1 rfl rfl rfl rfl rfl ?_|refine Ops.addI rfl rfl rfl rfl (by omega) (by omega) rfl ?_|refine Ops.bin rfl rfl rfl rfl rfl ?_|refine Ops.un rfl rfl rfl rfl ?_|refine Ops.pickF rfl rfl rfl rfl rfl ?_|refine Ops.alloc rfl rfl rfl (noPd rfl) (fun b=>?_)|refine Ops.stN rfl rfl rfl rfl rfl rfl (noPd rfl) ?_|refine Cd.condF rfl rfl ?_|refine Cd.block ?_|refine Cd.skip (Cd.next ?_)|refine Cd.skip (Cd.next (Q':=fun _ _ _=>True) ?_)|refine Ops.ixa0 rfl rfl rfl rfl (by omega) (by omega) rfl ?_|refine Ops.ldRow rfl rfl rfl (by assumption) (by assumption) rfl ?_|refine Cd.condF rfl zp0 ?_|((fail_if_success refine Ops.probe rfl ?_);refine Ops.gF rfl rfl zp0 ?_))
 all_goals exact Cd.ret (ret2 rfl (Res.tmp rfl) (Res.tmp rfl) (fun _ h=>h.split) ⟨rfl,rfl⟩)
theorem answer_nohas (n:Nat) (sv:Value) (rs:List Dk) (G:List Blk) (slot:Int) (reply:ByteArray) (hO:OwnK sv rs G) (hh:hasB slot rs.length = false):Con Tryz.prog 164 #[ptr n,.int .i64 slot,.string reply] (TabB n sv G) fun v A=>v = .int .i64 130 ∧ A = TabB n sv G:=by
 refine Con.intro (vs:=[_,_,_]) Tryz.func164 rfl Tryz.ntmps164 rfl (fun B=>?_)
 refine zg0 ?_
 refine Ops.call (has_spec n sv rs G slot hO) rfl (noPd rfl) rfl rfl rfl (fun v A' hR=>?_)
 obtain ⟨rfl,rfl⟩:=hR
 rw [hh]
 refine zg15 ?_
 exact ze67
theorem answer_none (n:Nat) (sv:Value) (rs:List Dk) (G:List Blk) (slot:Int) (reply:ByteArray) (r:Dk) (hO:OwnK sv rs G) (hh:hasB slot rs.length = true) (hr:rs[slot.toNat]? = some r) (hl:r.life = 0 ∨ r.last = 1099511627776):Con Tryz.prog 164 #[ptr n,.int .i64 slot,.string reply] (TabB n sv G) fun v A=>v = .int .i64 132 ∧ A = TabB n sv G:=by
 have hO0:=hO
 obtain ⟨h0,h1⟩:0 ≤ slot ∧ slot < rs.length:=by simpa [hasB] using hh
 obtain ⟨g,c,spare,rfl,rfl,hsp,hle⟩:=hO.some_ (by omega)
 have hok:=dks_ok rs
 have hx:(dks rs)[slot.toNat]? = some [.int .i64 r.slot,.int .i64 r.life,.int .i64 r.session,.int .i64 r.last,.string r.reply]:=by simp [dks,hr]
 refine Con.intro (vs:=[_,_,_]) Tryz.func164 rfl Tryz.ntmps164 rfl (fun B=>?_)
 refine zg0 ?_
 refine Ops.call (has_spec n _ rs _ slot hO0) rfl (noPd rfl) rfl rfl rfl (fun v A' hR=>?_)
 obtain ⟨rfl,rfl⟩:=hR
 rw [hh]
 repeat' (first|refine Cd.seq ?_|refine Cd.reg ?_|refine Ops.nil ?_|refine Ops.mv rfl rfl rfl rfl ?_|refine Ops.asg rfl rfl rfl rfl ?_|refine Ops.nilP rfl rfl rfl rfl ?_|refine Ops.fa0 rfl rfl rfl rfl ?_|refine Ops.fa rfl rfl rfl rfl ?_|refine Ops.ld1 rfl rfl rfl rfl rfl ?_|refine Ops.bin rfl rfl rfl rfl rfl ?_|refine Ops.un rfl rfl rfl rfl ?_|refine Ops.pickT rfl rfl rfl rfl rfl ?_|refine Ops.pickF rfl rfl rfl rfl rfl ?_|refine Ops.gSkip rfl rfl rfl ?_|refine Cd.condT rfl rfl ?_|refine Cd.condF rfl rfl ?_|refine Cd.skip (Cd.next ?_)|refine Ops.ixa0 rfl rfl rfl rfl (by omega) (by omega) rfl ?_|refine Ops.ldRow1 rfl rfl rfl (by assumption) (by assumption) rfl rfl ?_|refine Cd.condT rfl zp0 ?_|((fail_if_success refine Ops.probe rfl ?_);refine Ops.gSplit rfl rfl (fun hc=>?_) (fun hc=>?_) <;> (try simp only [decide_eq_true_eq,decide_eq_false_iff_not,Bool.not_eq_true',Bool.not_eq_false',Bool.not_eq_eq_eq_not,Bool.not_true,Bool.not_false,Int.not_lt,Int.not_le] at hc)))
 all_goals exact Cd.ret (ret1 rfl (Res.tmp rfl) (fun _ h=>h.split) ⟨rfl,rfl⟩)
theorem answer_ok (n:Nat) (sv:Value) (rs:List Dk) (G:List Blk) (slot:Int) (reply:ByteArray) (r:Dk) (hO:OwnK sv rs G) (hh:hasB slot rs.length = true) (hr:rs[slot.toNat]? = some r) (hb0:0 ≤ r.last) (hb1:r.last ≤ 1099511627776) (hl:r.life ≠ 0) (hl2:r.last ≠ 1099511627776):Con Tryz.prog 164 #[ptr n,.int .i64 slot,.string reply] (TabB n sv G) fun v A=>v = .int .i64 0 ∧ ∃ G',A = TabB n sv G' ∧ OwnK sv (rs.set slot.toNat { r with last:=r.last + 1,reply:=reply }) G':=by
 have hO0:=hO
 obtain ⟨h0,h1⟩:0 ≤ slot ∧ slot < rs.length:=by simpa [hasB] using hh
 obtain ⟨g,c,spare,rfl,rfl,hsp,hle⟩:=hO.some_ (by omega)
 have hok:=dks_ok rs
 have hx:(dks rs)[slot.toNat]? = some [.int .i64 r.slot,.int .i64 r.life,.int .i64 r.session,.int .i64 r.last,.string r.reply]:=by simp [dks,hr]
 refine Con.intro (vs:=[_,_,_]) Tryz.func164 rfl Tryz.ntmps164 rfl (fun B=>?_)
 refine zg0 ?_
 refine Ops.call (has_spec n _ rs _ slot hO0) rfl (noPd rfl) rfl rfl rfl (fun v A' hR=>?_)
 obtain ⟨rfl,rfl⟩:=hR
 rw [hh]
 refine zg41 ?_
 refine Ops.stRow1 (sz:=5) (rows:=dks rs) (i:=slot.toNat) (o:=3) rfl rfl rfl rfl rfl hok hx rfl (noPd rfl) ?_
 have hok1:RowsOk 5 ((dks rs).set slot.toNat ([.int .i64 r.slot,.int .i64 r.life,.int .i64 r.session,.int .i64 r.last,.string r.reply].set 3 (.int .i64 (r.last + 1)))):=fun x hx=>by
  rcases List.mem_or_eq_of_mem_set hx with h|h
  ·exact hok x h
  ·subst h;exact ⟨rfl,rfl⟩
 have hx1:((dks rs).set slot.toNat ([.int .i64 r.slot,.int .i64 r.life,.int .i64 r.session,.int .i64 r.last,.string r.reply].set 3 (.int .i64 (r.last + 1))))[slot.toNat]? = some [.int .i64 r.slot,.int .i64 r.life,.int .i64 r.session,.int .i64 (r.last + 1),.string r.reply]:=by
  rw [List.getElem?_set_self (by rw [dks_len];omega)];rfl
 refine zg4 ?_
 refine Ops.stRow1 (sz:=5) (i:=slot.toNat) (o:=4) rfl rfl rfl rfl rfl hok1 hx1 rfl (noPd rfl) ?_
 refine zg3 ?_
 refine Cd.ret (ret1 (A':=TabB n (.slice (some ⟨g,0,none⟩) rs.length c) [(g,cl (((dks rs).set slot.toNat [.int .i64 r.slot,.int .i64 r.life,.int .i64 r.session,.int .i64 (r.last + 1),.string reply]).flatten ++ spare) 299)]) rfl (Res.tmp rfl) (fun _ h=>by rw [List.set_set] at h;exact h) ⟨rfl,_,rfl,?_⟩)
 have:=Own.set (rows:=dks rs) (spare:=spare) (c:=c) (g:=g) (by rw [dks_len];exact hO0) hsp (by rw [dks_len];exact hle) (i:=slot.toNat) (r:=[.int .i64 r.slot,.int .i64 r.life,.int .i64 r.session,.int .i64 (r.last + 1),.string reply]) rfl rfl
 unfold OwnK dks
 rw [List.map_set]
 simpa [dks] using this
def rowAt (rs:List Dk) (slot:Int):Option Dk:=if hasB slot rs.length then rs[slot.toNat]? else none
def RowsI (rs:List Dk):Prop:=∀ r ∈ rs,0 ≤ r.last ∧ r.last ≤ 1099511627776
theorem rowAt_some {rs:List Dk} {slot:Int} {r:Dk} (h:rowAt rs slot = some r):hasB slot rs.length = true ∧ rs[slot.toNat]? = some r:=by
 unfold rowAt at h
 split at h
 ·rename_i hb;exact ⟨hb,h⟩
 ·cases h
theorem rowAt_none {rs:List Dk} {slot:Int} (h:rowAt rs slot = none):hasB slot rs.length = false:=by
 unfold rowAt at h
 split at h
 ·rename_i hb
  have:0 ≤ slot ∧ slot < rs.length:=by simpa [hasB] using hb
  rw [List.getElem?_eq_none_iff] at h
  omega
 ·rename_i hb;simpa using hb
theorem RowsI.set {rs:List Dk} {i:Nat} {r:Dk} (h:RowsI rs) (h0:0 ≤ r.last) (h1:r.last ≤ 1099511627776):RowsI (rs.set i r):=fun x hx=>by
 rcases List.mem_or_eq_of_mem_set hx with hx|hx
 ·exact h x hx
 ·subst hx;exact ⟨h0,h1⟩
theorem RowsI.fresh (k:Nat):RowsI (fresh k):=fun r hr=>by
 obtain ⟨i,_,rfl⟩:=List.mem_map.1 hr
 exact ⟨Int.le_refl _,by show (0:Int) ≤ 1099511627776;omega⟩
def helloV (o:Option Dk) (life:Int):Int × Int:=match o with
 | none=>(0,0)
 | some r=>if cntB life then (if life < r.life then (0,0) else if r.life = life then (1,r.session) else (2,0)) else (0,0)
def askV (o:Option Dk) (life session number:Int):Int × ByteArray:=match o with
 | none=>(1,⟨#[]⟩)
 | some r=>if r.life = 0 ∨ r.life ≠ life ∨ r.session ≠ session then (1,⟨#[]⟩) else if number < 1 then (0,⟨#[]⟩) else if number = r.last then (2,r.reply) else if number = r.last + 1 then (3,⟨#[]⟩) else (0,⟨#[]⟩)
def openV (o:Option Dk) (slot life session:Int):Option Dk:=match o with
 | none=>none
 | some r=>if cntB life = true ∧ cntB session = true ∧ r.life ≤ life then some ⟨slot,life,session,0,⟨#[]⟩⟩ else none
def answerV (o:Option Dk) (reply:ByteArray):Option Dk:=match o with
 | none=>none
 | some r=>if r.life ≠ 0 ∧ r.last ≠ 1099511627776 then some { r with last:=r.last + 1,reply:=reply } else none
def putRow (rs:List Dk) (slot:Int) (n:Option Dk):List Dk:=match n with
 | none=>rs
 | some r=>rs.set slot.toNat r
theorem hello_fun (n:Nat) (sv:Value) (rs:List Dk) (G:List Blk) (slot life:Int) (hO:OwnK sv rs G):Con Tryz.prog 154 #[ptr n,.int .i64 slot,.int .i64 life] (TabB n sv G) fun v A=>v = .tuple #[.int .i64 (helloV (rowAt rs slot) life).1,.int .i64 (helloV (rowAt rs slot) life).2] ∧ A = TabB n sv G:=by
 cases h:rowAt rs slot with
 | none=>exact hello_nohas n sv rs G slot life hO (rowAt_none h)
 | some r =>
  obtain ⟨hh,hr⟩:=rowAt_some h
  unfold helloV
  dsimp only
  by_cases hc:cntB life = true
  ·rw [if_pos hc]
   by_cases h1:life < r.life
   ·rw [if_pos h1];exact hello_old n sv rs G slot life r hO hh hc hr h1
   ·rw [if_neg h1]
    by_cases h2:r.life = life
    ·rw [if_pos h2];exact hello_known n sv rs G slot life r hO hh hc hr h2
    ·rw [if_neg h2];exact hello_fresh n sv rs G slot life r hO hh hc hr (by omega)
  ·rw [if_neg hc];exact hello_nocnt n sv rs G slot life hO hh (by simpa using hc)
theorem ask_fun (n:Nat) (sv:Value) (rs:List Dk) (G:List Blk) (slot life session number:Int) (hO:OwnK sv rs G) (hI:RowsI rs):Con Tryz.prog 159 #[ptr n,.int .i64 slot,.int .i64 life,.int .i64 session,.int .i64 number] (TabB n sv G) fun v A=>v = .tuple #[.int .i64 (askV (rowAt rs slot) life session number).1,.string (askV (rowAt rs slot) life session number).2] ∧ A = TabB n sv G:=by
 cases h:rowAt rs slot with
 | none=>exact ask_nohas n sv rs G slot life session number hO (rowAt_none h)
 | some r =>
  obtain ⟨hh,hr⟩:=rowAt_some h
  obtain ⟨hb0,hb1⟩:=hI r (List.mem_of_getElem? hr)
  unfold askV
  dsimp only
  by_cases h1:r.life = 0 ∨ r.life ≠ life ∨ r.session ≠ session
  ·rw [if_pos h1];exact task_stale n sv rs G slot life session number r hO hh hr hb0 hb1 h1
  ·rw [if_neg h1]
   by_cases h2:number < 1
   ·rw [if_pos h2];exact task_zero n sv rs G slot life session number r hO hh hr hb0 hb1 (by omega)
   ·rw [if_neg h2]
    by_cases h3:number = r.last
    ·rw [if_pos h3];exact task_again n sv rs G slot life session number r hO hh hr hb0 hb1 (by omega)
    ·rw [if_neg h3]
     by_cases h4:number = r.last + 1
     ·rw [if_pos h4];exact task_new n sv rs G slot life session number r hO hh hr hb0 hb1 (by omega)
     ·rw [if_neg h4];exact task_pass n sv rs G slot life session number r hO hh hr hb0 hb1 (by omega)
theorem open_fun (n:Nat) (sv:Value) (rs:List Dk) (G:List Blk) (slot life session:Int) (hO:OwnK sv rs G):Con Tryz.prog 157 #[ptr n,.int .i64 slot,.int .i64 life,.int .i64 session] (TabB n sv G) fun v A=>(∃ x,v = .int .i64 x) ∧ ∃ G',A = TabB n sv G' ∧ OwnK sv (putRow rs slot (openV (rowAt rs slot) slot life session)) G':=by
 cases h:rowAt rs slot with
 | none=>exact (open_nohas n sv rs G slot life session hO (rowAt_none h)).mono fun v A ⟨e,h⟩=>⟨⟨_,e⟩,G,h,hO⟩
 | some r =>
  obtain ⟨hh,hr⟩:=rowAt_some h
  unfold openV
  dsimp only
  by_cases hc:cntB life = true
  ·by_cases hd:cntB session = true
   ·by_cases h1:r.life ≤ life
    ·rw [if_pos ⟨hc,hd,h1⟩];exact (open_ok n sv rs G slot life session r hO hh hc hd hr h1).mono fun v A ⟨e,h⟩=>⟨⟨_,e⟩,h⟩
    ·rw [if_neg (by simp [h1])];exact (open_old n sv rs G slot life session r hO hh hc hd hr (by omega)).mono fun v A ⟨e,h⟩=>⟨⟨_,e⟩,G,h,hO⟩
   ·rw [if_neg (by simp [hd])];exact (open_nosess n sv rs G slot life session hO hh hc (by simpa using hd)).mono fun v A ⟨e,h⟩=>⟨⟨_,e⟩,G,h,hO⟩
  ·rw [if_neg (by simp [hc])];exact (open_nolife n sv rs G slot life session hO hh (by simpa using hc)).mono fun v A ⟨e,h⟩=>⟨⟨_,e⟩,G,h,hO⟩
theorem answer_fun (n:Nat) (sv:Value) (rs:List Dk) (G:List Blk) (slot:Int) (reply:ByteArray) (hO:OwnK sv rs G) (hI:RowsI rs):Con Tryz.prog 164 #[ptr n,.int .i64 slot,.string reply] (TabB n sv G) fun v A=>(∃ x,v = .int .i64 x) ∧ ∃ G',A = TabB n sv G' ∧ OwnK sv (putRow rs slot (answerV (rowAt rs slot) reply)) G':=by
 cases h:rowAt rs slot with
 | none=>exact (answer_nohas n sv rs G slot reply hO (rowAt_none h)).mono fun v A ⟨e,h⟩=>⟨⟨_,e⟩,G,h,hO⟩
 | some r =>
  obtain ⟨hh,hr⟩:=rowAt_some h
  obtain ⟨hb0,hb1⟩:=hI r (List.mem_of_getElem? hr)
  unfold answerV
  dsimp only
  by_cases h1:r.life ≠ 0 ∧ r.last ≠ 1099511627776
  ·rw [if_pos h1];exact (answer_ok n sv rs G slot reply r hO hh hr hb0 hb1 h1.1 h1.2).mono fun v A ⟨e,h⟩=>⟨⟨_,e⟩,h⟩
  ·rw [if_neg h1];exact (answer_none n sv rs G slot reply r hO hh hr (by omega)).mono fun v A ⟨e,h⟩=>⟨⟨_,e⟩,G,h,hO⟩
theorem openV_rows {rs:List Dk} {slot life session:Int} (h:RowsI rs):RowsI (putRow rs slot (openV (rowAt rs slot) slot life session)):=by
 cases h1:rowAt rs slot with
 | none=>exact h
 | some x =>
  unfold openV;dsimp only
  split
  ·exact h.set (Int.le_refl _) (by show (0:Int) ≤ 1099511627776;omega)
  ·exact h
theorem answerV_rows {rs:List Dk} {slot:Int} {reply:ByteArray} (h:RowsI rs):RowsI (putRow rs slot (answerV (rowAt rs slot) reply)):=by
 cases h1:rowAt rs slot with
 | none=>exact h
 | some x =>
  obtain ⟨h2,h3⟩:=h x (List.mem_of_getElem? (rowAt_some h1).2)
  unfold answerV;dsimp only
  split
  ·rename_i hc
   exact h.set (by show 0 ≤ x.last + 1;omega) (by show x.last + 1 ≤ 1099511627776;omega)
  ·exact h
end Go.Proofs.YtaecdnfkcebbeaaGreat.Se
