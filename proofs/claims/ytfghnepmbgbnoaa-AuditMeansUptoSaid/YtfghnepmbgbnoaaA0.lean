import Derived.Test.YtfghnepmbgbnoaaSep27
namespace Go.Proofs.Ytfghnepmbgbnoaa
open Go Go.Sep Go.Proofs
set_option linter.unusedVariables false

/-! What an audit keeps, and what it finds: plain. -/
structure Ev where
  kind : Int
  code : Int
  node : Int
  life : Int
  job : Int
  badge : Int
  index : Int
  count : Int
  status : Int
  rcode : Int
  rbits : Int
  text : ByteArray
  texts : List ByteArray
  ta : Option Addr
  tc : Nat
@[reducible] def Ev.row (e : Ev) : List Value := [.int .i64 e.kind, .int .i64 e.code, .int .i64 e.node, .int .i64 e.life, .int .i64 e.job, .int .i64 e.badge, .int .i64 e.index, .int .i64 e.count, .int .i64 e.status, .int .i64 e.rcode, .int .u64 e.rbits, .string e.text, .slice e.ta e.texts.length e.tc]

structure Jb where
  status : Int
  badge : Int
  rcode : Int
  rbits : Int
  log : List ByteArray
abbrev Tx := List (Int × Int × ByteArray)
abbrev Es := List (Int × Int × List Ev)
/-- of each job what was admitted: the badge, the next index. -/
structure Ad where
  b0 : Int
  i0 : Int
  b1 : Int
  i1 : Int
  b2 : Int
  i2 : Int
  b3 : Int
  i3 : Int
  b4 : Int
  i4 : Int
  b5 : Int
  i5 : Int
  b6 : Int
  i6 : Int
  b7 : Int
  i7 : Int
  b8 : Int
  i8 : Int
def Ad.new : Ad := ⟨0, 0, 0, 0, 0, 0, 0, 0, 0, 0, 0, 0, 0, 0, 0, 0, 0, 0⟩
def Ad.get (a : Ad) (n : Int) : Int × Int :=
  if n = 1 then (a.b1, a.i1) else if n = 2 then (a.b2, a.i2) else if n = 3 then (a.b3, a.i3) else if n = 4 then (a.b4, a.i4) else if n = 5 then (a.b5, a.i5) else if n = 6 then (a.b6, a.i6) else if n = 7 then (a.b7, a.i7) else (a.b8, a.i8)
def Ad.set (a : Ad) (n b i : Int) : Ad :=
  if n = 1 then { a with b1 := b, i1 := i } else if n = 2 then { a with b2 := b, i2 := i } else if n = 3 then { a with b3 := b, i3 := i } else if n = 4 then { a with b4 := b, i4 := i } else if n = 5 then { a with b5 := b, i5 := i } else if n = 6 then { a with b6 := b, i6 := i } else if n = 7 then { a with b7 := b, i7 := i } else { a with b8 := b, i8 := i }
structure Au where
  jobs : List Jb
  great : Int
  chunks : Tx
  pieces : Tx
  ends : Es
  ad : Ad
  sh : Bool
  shn : Int
def Au.new : Au := ⟨[], 0, [], [], [], Ad.new, false, 0⟩

def brk (n : Int) (b : Bool) : List Int := if b then [n] else []
def jobAt {α : Type} (l : List α) (n : Int) : Option α := if 1 ≤ n ∧ n ≤ l.length then l[(n - 1).toNat]? else none
def jobSet {α : Type} (l : List α) (n : Int) (x : α) : List α := if 1 ≤ n ∧ n ≤ l.length then l.set (n - 1).toNat x else l
def lookT (m : Tx) (b i : Int) : Option ByteArray := match m with
  | [] => none
  | t :: m => if b = t.1 ∧ i = t.2.1 then some t.2.2 else lookT m b i
def putT (m : Tx) (b i : Int) (s : ByteArray) : Tx := if (lookT m b i).isSome then m else m ++ [(b, i, s)]
def isT (m : Tx) (b i : Int) (s : ByteArray) : Bool := decide (lookT m b i = some s)
def emitB (m : Tx) (b from_ : Int) : List ByteArray → Bool
  | [] => true
  | s :: l => isT m b from_ s && emitB m b (from_ + 1) l
def lookE (m : Es) (j b : Int) : List Ev := match m with
  | [] => []
  | t :: m => if j = t.1 ∧ b = t.2.1 then t.2.2 else lookE m j b
def putE (m : Es) (e : Ev) : Es := match m with
  | [] => [(e.job, e.badge, [e])]
  | t :: m => if e.job = t.1 ∧ e.badge = t.2.1 then (t.1, t.2.1, t.2.2 ++ [e]) :: m else t :: putE m e
def sameR (x e : Ev) : Bool := decide (x.rcode = e.rcode ∧ x.rbits = e.rbits)
def realL (m : Es) (e : Ev) (count : Int) (counts : Bool) : List Int :=
  brk 2 (!(lookE m e.job e.badge).any fun x => sameR x e) ++ brk 6 (counts && !(lookE m e.job e.badge).any fun x => decide (x.count = count))
def heldA (l : List Jb) (e : Ev) : Option Jb := match jobAt l e.job with
  | some j => if j.status = 2 ∧ j.badge = e.badge then some j else none
  | none => none
def settledA (l : List Jb) (n : Int) : Bool := match jobAt l n with
  | some j => decide (j.status = 3 ∨ j.status = 4)
  | none => false

def submittedF (a : Au) (e : Ev) : Au × List Int :=
  if e.job = a.jobs.length + 1 then ({ a with jobs := a.jobs ++ [⟨1, 0, 0, 0, []⟩] }, []) else (a, [8])
def grantedF (a : Au) (e : Ev) : Au × List Int :=
  (match jobAt a.jobs e.job with
    | some _ => { a with jobs := jobSet a.jobs e.job ⟨2, e.badge, 0, 0, []⟩, great := max a.great e.badge }
    | none => a,
   brk 3 (decide (e.badge ≤ a.great)) ++ brk 4 (match jobAt a.jobs e.job with
    | some j => decide (j.status ≠ 1)
    | none => true))
def storedF (a : Au) (e : Ev) : Au × List Int := match heldA a.jobs e with
  | none => (a, [4])
  | some j => ({ a with jobs := jobSet a.jobs e.job { j with log := j.log ++ e.texts } }, brk 5 (decide (e.index ≠ j.log.length) || !emitB a.chunks e.badge e.index e.texts))
def overF (a : Au) (e : Ev) : Au × List Int :=
  let once := decide (e.kind = 7) && settledA a.jobs e.job
  match heldA a.jobs e with
  | none => (a, brk 1 once ++ brk 4 (!once))
  | some j => ({ a with jobs := jobSet a.jobs e.job { j with status := if e.kind = 7 then 4 else 1 } }, brk 1 once)
def recordedF (a : Au) (e : Ev) : Au × List Int :=
  let once := settledA a.jobs e.job
  (match heldA a.jobs e with
    | none => a
    | some j => { a with jobs := jobSet a.jobs e.job { j with status := 3, rcode := e.rcode, rbits := e.rbits } },
   brk 1 once ++ (brk 4 (!once && (heldA a.jobs e).isNone) ++ (match jobAt a.jobs e.job with
    | none => realL a.ends e 0 false
    | some j => realL a.ends e j.log.length true)))
def admitsF (a : Au) (e : Ev) : Au × List Int :=
  let was := a.ad.get e.job
  if e.badge < was.1 then (a, [7]) else
    ({ a with ad := a.ad.set e.job e.badge (e.index + 1) },
      brk 7 (decide (e.index ≠ (if e.badge > was.1 then 0 else was.2)) || (decide (e.index = 0) && decide (e.text ≠ ⟨#[]⟩) || (decide (e.index ≠ 0) && !isT a.pieces e.badge e.index e.text))))
def upF (a : Au) (e : Ev) : Au × List Int := if e.node = 0 ∧ e.life = 0 then ({ a with sh := true, shn := 0 }, []) else (a, [])
def mayA (a : Au) (e : Ev) : Bool :=
  if a.sh = false ∨ e.job ≠ a.shn + 1 then false
  else if e.job = a.jobs.length + 1 then decide (e.status = 1) && (decide (e.badge = 0) && (decide (e.rcode = 0 ∧ e.rbits = 0) && decide (e.texts.length = 0)))
  else match jobAt a.jobs e.job with
  | none => false
  | some j =>
    if e.badge = j.badge then
      if e.status = j.status ∧ e.rcode = j.rcode ∧ e.rbits = j.rbits then decide (j.log = e.texts) || (decide (j.status = 2) && (decide (j.log.length ≤ e.texts.length) && decide (j.log = e.texts.take j.log.length)))
      else if j.status = 2 ∧ j.log = e.texts then decide (e.status = 3) || (decide (e.rcode = 0 ∧ e.rbits = 0) && (decide (e.status = 1) || decide (e.status = 4)))
      else false
    else decide (j.status = 1) && (decide (e.badge > a.great) && (decide (e.status = 2) && (decide (e.rcode = 0 ∧ e.rbits = 0) && decide (e.texts.length = 0))))
def showsF (a : Au) (e : Ev) : Au × List Int :=
  (if 1 ≤ e.job ∧ e.job ≤ a.jobs.length then { a with jobs := jobSet a.jobs e.job ⟨e.status, e.badge, e.rcode, e.rbits, e.texts⟩, great := max a.great e.badge, shn := e.job }
   else if e.job = a.jobs.length + 1 then { a with jobs := a.jobs ++ [⟨e.status, e.badge, e.rcode, e.rbits, e.texts⟩], great := max a.great e.badge, shn := e.job }
   else { a with shn := e.job },
   brk 8 (!mayA a e) ++ (brk 5 (!emitB a.chunks e.badge 0 e.texts) ++
    (if e.status = 3 ∧ (match jobAt a.jobs e.job with
      | some j => decide (j.status ≠ 3)
      | none => true) = true then realL a.ends e e.texts.length true else [])))

/-- What is done at an event of a kind. -/
def actF (a : Au) (e : Ev) : Au × List Int :=
  if e.kind = 2 then submittedF a e else if e.kind = 5 then grantedF a e else if e.kind = 8 then storedF a e else if e.kind = 6 then overF a e else if e.kind = 7 then overF a e
  else if e.kind = 9 then recordedF a e else if e.kind = 13 then admitsF a e else if e.kind = 4 then upF a e else if e.kind = 14 then showsF a e
  else if e.kind = 10 then ({ a with chunks := putT a.chunks e.badge e.index e.text }, []) else if e.kind = 11 then ({ a with pieces := putT a.pieces e.badge e.index e.text }, [])
  else if e.kind = 12 then ({ a with ends := putE a.ends e }, []) else (a, [])
def headF (a : Au) (e : Ev) : Au × List Int :=
  if a.sh = true ∧ e.kind ≠ 14 then ({ a with sh := false }, brk 8 (decide (a.shn < a.jobs.length))) else (a, [])
def norm (l : List Int) : List Int := [1, 2, 3, 4, 5, 6, 7, 8].filter fun n => decide (n ∈ l)
def evF (a : Au) (e : Ev) : Au × List Int := ((actF (headF a e).1 e).1, norm ((headF a e).2 ++ (actF (headF a e).1 e).2))
def mayE (e : Ev) : Bool :=
  decide (1 ≤ e.kind ∧ e.kind ≤ 14) && (!decide (e.kind = 8 ∨ e.kind = 13 ∨ e.kind = 10 ∨ e.kind = 11) || decide (0 ≤ e.index ∧ e.index ≤ 1099511627776)) &&
  (!decide (e.kind = 2 ∨ e.kind = 5 ∨ e.kind = 6 ∨ e.kind = 7 ∨ e.kind = 8 ∨ e.kind = 9 ∨ e.kind = 13 ∨ e.kind = 14) || decide (1 ≤ e.job ∧ e.job ≤ 8))
/-- All events, one behind the other; the faults: the rule, at which event. -/
def runF : Au → Nat → List Ev → Au × List (Int × Int)
  | a, _, [] => (a, [])
  | a, i, e :: l => ((runF (evF a e).1 (i + 1) l).1, (evF a e).2.map (fun n => (n, (i : Int))) ++ (runF (evF a e).1 (i + 1) l).2)
end Go.Proofs.Ytfghnepmbgbnoaa
