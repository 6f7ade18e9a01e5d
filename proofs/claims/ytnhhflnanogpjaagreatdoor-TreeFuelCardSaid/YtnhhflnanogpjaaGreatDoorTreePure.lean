/- What a tree means, in plain words: acts over a stack, locals, loops and steps. -/
import Derived.Test.YtnhhflnanogpjaaGreatDoorDo4
import Derived.Test.YtnhhflnanogpjaaGreatDoorCell3
namespace Go.Proofs.YtnhhflnanogpjaaGreatDoor
open Go.RowKit

/-- what is going on -/
structure Run where
  st : List Int
  locals : List Int
  loops : List Int
  steps : Nat
  fuel : Nat
  sb : Nat
def Run.more (r : Run) (k : Nat) : Run := { r with fuel := r.fuel + k }

inductive Out (α : Type) where
  | ok (a : α)
  | bad (e : Int) (out : Bool)

abbrev Mn (α : Type) := Run → Out α × Run
def Mn.pure {α : Type} (a : α) : Mn α := fun r => (.ok a, r)
def Mn.bind {α β : Type} (m : Mn α) (f : α → Mn β) : Mn β := fun r =>
  match m r with
  | (.ok a, s) => f a s
  | (.bad e o, s) => (.bad e o, s)

def stepM : Mn Unit := fun r => if r.fuel ≤ r.steps then (.bad 0 true, r) else (.ok (), { r with steps := r.steps + 1 })
def asksM (e : Int) : Mn Unit := fun r => if e = 0 then (.ok (), r) else (.bad e false, r)
def takeM (n : Nat) : Mn (List Int) := fun r => if r.st.length < n then (.bad (-4) false, r) else (.ok (r.st.drop (r.st.length - n)), { r with st := r.st.take (r.st.length - n) })
def pushM (x : Int) : Mn Unit := fun r => if r.st.length = 128 then (.bad (-3) false, r) else (.ok (), { r with st := r.st ++ [x] })
def popM : Mn Int := (takeM 1).bind fun l => .pure (l.getD 0 0)

def farF (op : Int) (st : List Int) : Int × List Int :=
  if st.length = 0 ∨ ¬ IntKind.u64.wrap (st.getD (st.length - 1) 0) < (st.length - 1 : Nat) then (-4, st)
  else
    let n := st.length - 1
    let d := (st.getD n 0).toNat
    let y := st.getD (n - 1 - d) 0
    if op = 40 then (0, st.take n ++ [y]) else (0, (st.take n).take (n - 1 - d) ++ (st.take n).drop (n - d) ++ [y])
def doF (op : Int) (st : List Int) : Int × List Int :=
  if op = 40 ∨ op = 41 then farF op st
  else if op = 42 then (if st.length = 128 then (-3, st) else (0, st ++ [(st.length : Int)]))
  else
    let s := shapesF.getD (op - 28).toNat (0, [])
    if st.length < s.1 then (-4, st)
    else if op = 35 ∧ st.getD (st.length - 1) 0 = 0 then (0, st)
    else if 128 < st.length - s.1 + s.2.length then (-3, st)
    else (0, st.take (st.length - s.1) ++ s.2.map fun i => (st.drop (st.length - s.1)).getD i 0)
def doM (op : Int) : Mn Unit := fun r => if (doF op r.st).1 = 0 then (.ok (), { r with st := (doF op r.st).2 }) else (.bad (doF op r.st).1 false, { r with st := (doF op r.st).2 })

/-- an act: whether it leaves a loop -/
abbrev Den := Mn Bool
def plainD (m : Mn Unit) : Den := m.bind fun _ => .pure false
def primM (op : Int) : Mn Unit :=
  if manyF op = 0 then doM op
  else if manyF op = 1 then (takeM 1).bind fun l => (asksM (oneF op (l.getD 0 0)).2).bind fun _ => pushM (oneF op (l.getD 0 0)).1
  else (takeM 2).bind fun l => if l.getD 1 0 = 0 ∧ (op = 14 ∨ op = 15) then asksM (-10) else pushM (twoF op (l.getD 0 0) (l.getD 1 0))
def seqD : List Den → Den
  | [] => .pure false
  | d :: l => d.bind fun x => if x then .pure true else seqD l
def eitherD (y n : Den) : Den := popM.bind fun x => if x ≠ 0 then y else n
/-- rounds, each a step and then what a round is -/
def loopM {α β : Type} (round : α → Mn (α ⊕ β)) : Nat → α → Mn β
  | 0, _ => fun r => (.bad 0 true, r)
  | k + 1, a => stepM.bind fun _ => (round a).bind fun x => match x with
    | .inl a' => loopM round k a'
    | .inr b => .pure b
def loopD {α β : Type} (round : α → Mn (α ⊕ β)) (a : α) : Mn β := fun r => loopM round (r.fuel + 1 - r.steps) a r
/-- a body within a loop that is at a number -/
def inLoop (at_ : Int) (body : Den) : Den := fun r =>
  match body { r with loops := r.loops ++ [at_] } with
  | (.ok a, s) => (.ok a, { s with loops := s.loops.take r.loops.length })
  | (.bad e o, s) => (.bad e o, s)
def doRound (body : Den) (end_ at_ : Int) : Mn (Int ⊕ Unit) := (inLoop at_ body).bind fun l => .pure (if l || decide (wrap64 (at_ - end_) = -1) then .inr () else .inl (wrap64 (at_ + 1)))
def doU (body : Den) : Mn Unit := (takeM 2).bind fun l => if l.getD 0 0 = l.getD 1 0 then .pure () else loopD (doRound body (l.getD 0 0)) (l.getD 1 0)
def doD (body : Den) : Den := plainD (doU body)
def untilRound (body : Den) (_ : Unit) : Mn (Unit ⊕ Bool) := body.bind fun l => if l then .pure (.inr true) else popM.bind fun x => .pure (if x ≠ 0 then .inr false else .inl ())
def untilD (body : Den) : Den := loopD (untilRound body) ()
def whileRound (first second : Den) (_ : Unit) : Mn (Unit ⊕ Bool) := first.bind fun l => if l then .pure (.inr true) else popM.bind fun x => if x = 0 then .pure (.inr false) else second.bind fun l => .pure (if l then .inr true else .inl ())
def whileD (first second : Den) : Den := loopD (whileRound first second) ()
def caseD : List Den → Nat → Den
  | [], _ => .pure false
  | [d], _ => d.bind fun l => if l then .pure true else popM.bind fun _ => .pure false
  | d :: l, i => stepM.bind fun _ => (pushM i).bind fun _ => (takeM 2).bind fun y => if y.getD 0 0 = y.getD 1 0 then d else (pushM (y.getD 0 0)).bind fun _ => caseD l (i + 1)
def indexM : Mn Unit := fun r => if r.loops.length = 0 then (.bad (-26) false, r) else pushM (r.loops.getD (r.loops.length - 1) 0) r
def throwM : Mn Unit := popM.bind fun x => asksM x
def localM (n : Nat) : Mn Unit := fun r => pushM (r.locals.getD n 0) r
def setM (n : Nat) : Mn Unit := popM.bind fun x => fun r => (.ok (), { r with locals := r.locals.set n x })

/-- a node -/
structure NodeV where
  kind : Int
  n : Int
  kids : List Int
def NodeV.none : NodeV := ⟨0, 0, []⟩

def kindD (v : NodeV) (kids : List Den) : Den :=
  if v.kind = 1 then plainD (pushM v.n)
  else if v.kind = 2 then plainD (primM v.n)
  else if v.kind = 3 then seqD kids
  else if v.kind = 4 then eitherD (kids.getD 0 (.pure false)) (kids.getD 1 (.pure false))
  else if v.kind = 5 then doD (kids.getD 0 (.pure false))
  else if v.kind = 6 then untilD (kids.getD 0 (.pure false))
  else if v.kind = 7 then whileD (kids.getD 0 (.pure false)) (kids.getD 1 (.pure false))
  else if v.kind = 8 then plainD indexM
  else if v.kind = 9 then .pure true
  else if v.kind = 10 then plainD throwM
  else if v.kind = 11 then caseD kids 0
  else if v.kind = 12 then plainD (localM v.n.toNat)
  else plainD (setM v.n.toNat)
def nodeD (v : NodeV) (kids : List Den) : Den := stepM.bind fun _ => kindD v kids
/-- what the node at a place does, with so many levels below it -/
def denN (l : List NodeV) : Nat → Nat → Den
  | 0, _ => .pure false
  | d + 1, k => nodeD (l.getD k NodeV.none) ((l.getD k NodeV.none).kids.map fun i => denN l d i.toNat)

/-- what is told of a tree -/
structure MeantV where
  st : List Int
  code : Int
  done : Bool
  steps : Nat
def meanF (l : List NodeV) (locals : Nat) (cells : List Int) (fuel : Nat) : MeantV :=
  if cells.length < locals then ⟨[], -4, true, 0⟩ else
  match denN l l.length (l.length - 1) ⟨cells.take (cells.length - locals), cells.drop (cells.length - locals), [], 0, fuel, 0⟩ with
  | (.ok _, s) => ⟨s.st, 0, true, s.steps⟩
  | (.bad e o, s) => if o then ⟨[], 0, false, s.steps⟩ else if e = 0 then ⟨s.st, 0, true, s.steps⟩ else ⟨[], e, true, s.steps⟩

end Go.Proofs.YtnhhflnanogpjaaGreatDoor
