import Derived.Test.YtdokeddjcpnmiaaGreatDoorEn0
import Derived.Test.YtdokeddjcpnmiaaGreatDoorJStkA
import Derived.Test.YtdokeddjcpnmiaaGreatDoorJSrcX
/- The engine, plain: what a step makes of words, definitions, frames, a stack and an input. -/
namespace Go.Proofs.YtdokeddjcpnmiaaGreatDoor
open Go.RowKit
namespace En

structure M where
  words : List (Int × Int × Int)
  code : List Int
  ends : List Int
  fr : List Fr
  df : Int
  on : Int
  nx : Int
  S : PS
  I : Ins
abbrev St := Int × Int × Int
def ran : St := (1, 0, 0)
def stCut (n : Int) (l : List Int) : List Int := (l ++ List.replicate ((min (max n 0) 128).toNat - l.length) 0).take (min (max n 0) 128).toNat
def pushS (S : PS) (x : Int) : Int × PS := if S.st.length < 128 then (0, { S with st := S.st ++ [x] }) else (-3, S)
def M.push (m : M) (x : Int) : Int × M := ((pushS m.S x).1, { m with S := (pushS m.S x).2 })
def M.place (m : M) (d o : Int) : M := { m with df := d, on := o }
/-- the input, cut and sought -/
def backI (I : Ins) (b x : Int) : Ins :=
  let J := if b < I.outer.length then I.cutAll b.toNat else I
  if (J.outer.length : Int) = b then { J with cur := { J.cur with on := (max (min x J.cur.text.size) 0).toNat } } else J
def M.throw (m : M) (e : Int) : St × M :=
  let m := { m with df := 0, on := 0, nx := 0 }
  match catchF m.fr with
  | none => ((4, 0, e), { m with fr := [], S := { m.S with st := [] } })
  | some (f, r) => (ran, { m with fr := r, S := (pushS { m.S with st := stCut f.a m.S.st } e).2, I := backI m.I f.b f.x })
def M.done (r : Int × M) : St × M := if r.1 = 0 then (ran, r.2) else r.2.throw r.1
/-- something is done with cells that are taken, which are put back, if it goes wrong -/
def M.with_ (m : M) (n : Int) (do_ : List Int → M → Int × M) : St × M :=
  if n < 0 then m.throw 1 else if (m.S.st.length : Int) < n then m.throw (-4) else
    let l := m.S.st.drop (m.S.st.length - n.toNat)
    let r := do_ l { m with S := { m.S with st := m.S.st.take (m.S.st.length - n.toNat) } }
    if r.1 = 0 then (ran, r.2) else
      (if r.2.S.st.length + l.length ≤ 128 then { r.2 with S := { r.2.S with st := r.2.S.st ++ l } } else r.2).throw r.1
def M.pushFr (m : M) (f : Fr) : Int × M := if m.fr.length < 128 then (0, { m with fr := m.fr ++ [f] }) else (-5, m)
def M.call (m : M) (n : Int) : Int × M :=
  if n < 1 ∨ (m.ends.length : Int) < n then (-9, m) else
    let r := m.pushFr ⟨1, m.df, m.on, 0, 0, []⟩
    if r.1 = 0 then (0, r.2.place n 0) else r
def M.word (m : M) (xt : Int) : Option (Int × Int × Int) := if xt < 1 then none else m.words[(xt - 1).toNat]?
def M.pop (m : M) (k : Int) : Option (Fr × M) := if m.fr ≠ [] ∧ (topF m.fr).k = k then some (topF m.fr, { m with fr := m.fr.dropLast }) else none
def M.leave (m : M) : Int × M := match m.pop 3 with
  | some (_, m') => (0, m')
  | none => (-26, m)
def M.named (m : M) (x : Int) : Int × M := match m.word x with
  | some _ => (0, { m with nx := x })
  | none => (-9, m)
def M.index (m : M) (n : Nat) : St × M := if (indexF m.fr n).2 = 0 then M.done (m.push (indexF m.fr n).1) else m.throw (indexF m.fr n).2
def M.control (m : M) (n : Int) : St × M :=
  if n = 1 then m.with_ 1 (fun l m => m.pushFr ⟨2, 0, 0, l.getD 0 0, 0, []⟩)
  else if n = 2 then (match m.pop 2 with
    | some (f, m') => (let r := m'.push f.x; if r.1 = 0 then M.done r else M.done (r.1, (r.2.pushFr f).2))
    | none => m.throw (-6))
  else if n = 3 then (if (topF m.fr).k = 2 then M.done (m.push (topF m.fr).x) else m.throw (-6))
  else if n = 4 then m.index 0
  else if n = 5 then m.index 1
  else if n = 6 then M.done m.leave
  else if n = 7 then m.with_ 1 (fun l m => m.named (l.getD 0 0))
  else if n = 8 then m.with_ 1 (fun l m =>
    let r := m.named (l.getD 0 0)
    if r.1 ≠ 0 then r else if 126 < m.fr.length then (-5, { r.2 with nx := 0 }) else
      (0, { r.2 with fr := r.2.fr ++ [⟨1, m.df, m.on, 0, 0, []⟩, ⟨5, m.S.st.length, m.I.outer.length, m.I.cur.on, 0, []⟩], df := 0, on := 0 }))
  else (if m.S.st = [] then m.throw (-4) else M.done (m.S.st.getLastD 0, { m with S := { m.S with st := m.S.st.dropLast } }))
def M.deferred (m : M) (xt : Int) : St × M := if xt = 0 then m.throw (-32) else match m.word xt with
  | some _ => (ran, { m with nx := xt })
  | none => m.throw (-9)
def M.execute (D : Int → PS → Int × PS) (m : M) (xt : Int) : St × M := match m.word xt with
  | none => m.throw (-9)
  | some (k, n, w) =>
    if k = 1 then M.done ((D n m.S).1, { m with S := (D n m.S).2 })
    else if k = 5 then M.done (m.call n)
    else if k = 6 ∨ k = 9 then M.done (m.push w)
    else if k = 7 then (let r := m.push w; if r.1 ≠ 0 then m.throw r.1 else (let q := r.2.call n; if q.1 = 0 then (ran, q.2) else ({ q.2 with S := { q.2.S with st := q.2.S.st.dropLast } }).throw q.1))
    else if k = 8 then m.deferred n
    else if k = 2 then m.control n
    else ((2, k, n), m)
def M.returns (m : M) : St × M :=
  if m.fr = [] then ((5, 0, 0), m)
  else if (topF m.fr).k = 1 then (ran, { m with fr := m.fr.dropLast, df := (topF m.fr).a, on := (topF m.fr).b })
  else if (topF m.fr).k = 5 then (let r := m.push 0; if r.1 = 0 then (ran, { r.2 with fr := r.2.fr.dropLast }) else M.done r)
  else m.throw (-25)
/-- an instruction of a definition -/
def M.begin_ (m : M) (n : Int) : Nat := if n = 1 then 0 else (m.ends.getD (n - 2).toNat 0).toNat
def M.at_ (m : M) (n i : Int) : Option (Int × Int × Int) :=
  if n < 1 ∨ (m.ends.length : Int) < n ∨ i < 0 ∨ ((m.ends.getD (n - 1).toNat 0) - m.begin_ n).tdiv 2 ≤ i then none else
    let j := m.begin_ n + 2 * i.toNat
    some (m.code.getD j 0 % 256, m.code.getD j 0 / 256, m.code.getD (j + 1) 0)
def M.jump (m : M) (is_ : Bool) (to : Int) : Int × M := (0, if is_ then { m with on := to } else m)
def M.setTop (m : M) (f : Fr) : M := { m with fr := m.fr.dropLast ++ [f] }
def M.loop (m : M) (by_ to : Int) : Int × M :=
  if m.fr = [] ∨ (topF m.fr).k ≠ 3 then (-26, m) else
    let f := topF m.fr
    let left := wrap64 (f.x - f.y)
    if endsF left by_ then (0, { m with fr := m.fr.dropLast }) else (0, { m.setTop { f with x := wrap64 (f.x + by_) } with on := to })
/-- the locals of the definition that is gone through -/
def locals : List Fr → Option Nat
  | [] => none
  | f :: r => if f.k = 4 then some r.length else if f.k = 1 then none else locals r
def M.begins (m : M) (l : List Int) : Int × M := m.pushFr ⟨3, 0, 0, l.getD 1 0, l.getD 0 0, []⟩
def M.does (D : Int → PS → Int × PS) (m : M) (op a w : Int) : St × M :=
  if op = 1 then M.done (m.push w)
  else if op = 2 then m.execute D a
  else if op = 3 then M.done (m.jump true a)
  else if op = 4 then m.with_ 1 (fun l m => m.jump (l.getD 0 0 == 0) a)
  else if op = 5 then m.with_ 2 (fun l m => m.begins l)
  else if op = 6 then m.with_ 2 (fun l m => if l.getD 0 0 = l.getD 1 0 then m.jump true a else m.begins l)
  else if op = 7 then M.done (m.loop 1 a)
  else if op = 8 then m.with_ 1 (fun l m => m.loop (l.getD 0 0) a)
  else if op = 9 then M.done ((m.leave).1, if (m.leave).1 = 0 then { (m.leave).2 with on := a } else m)
  else if op = 10 then m.with_ 2 (fun l m => if l.getD 0 0 = l.getD 1 0 then (0, m) else (m.push (l.getD 0 0)).2.jump true a)
  else if op = 11 then m.with_ 1 (fun _ m => (0, m))
  else if op = 12 then m.with_ a (fun l m => m.pushFr ⟨4, 0, 0, 0, 0, l⟩)
  else if op = 13 then (match locals m.fr.reverse with
    | none => m.throw (-6)
    | some i => if 0 ≤ a ∧ a < (m.fr.getD i .none).l.length then M.done (m.push ((m.fr.getD i .none).l.getD a.toNat 0)) else m.throw (-6))
  else if op = 14 then m.with_ 1 (fun l m => match locals m.fr.reverse with
    | none => (-6, m)
    | some i => if 0 ≤ a ∧ a < (m.fr.getD i .none).l.length then (0, { m with fr := m.fr.set i { m.fr.getD i .none with l := (m.fr.getD i .none).l.set a.toNat (l.getD 0 0) } }) else (-6, m))
  else (ran, { m with fr := if (topF m.fr).k = 4 then m.fr.dropLast else m.fr, df := 0, on := 0 })
def M.step (D : Int → PS → Int × PS) (m : M) : St × M :=
  if m.nx ≠ 0 then { m with nx := 0 }.execute D m.nx
  else if (topF m.fr).k = 6 ∨ (topF m.fr).k = 7 then ((3, (topF m.fr).k, 0), m)
  else if m.df = 0 then m.returns
  else match m.at_ m.df m.on with
    | none => m.throw (-25)
    | some (op, a, w) => ({ m with on := m.on + 1 }).does D op a w
end En
end Go.Proofs.YtdokeddjcpnmiaaGreatDoor

/- The engine, plain: many steps; and what a loop makes. -/
namespace Go.Proofs.YtdokeddjcpnmiaaGreatDoor
open Go.RowKit
namespace En

def M.run (D : Int → PS → Int × PS) : Nat → M → St × M
  | 0, m => (ran, m)
  | n + 1, m => if (m.step D).1.1 ≠ 1 then m.step D else M.run D n (m.step D).2
theorem run_ran {D : Int → PS → Int × PS} {m m' : M} (h : m.step D = (ran, m')) (n : Nat) : M.run D (n + 1) m = M.run D n m' := by
  show (if (m.step D).1.1 ≠ 1 then m.step D else M.run D n (m.step D).2) = _
  rw [h, if_neg (by simp [ran])]
theorem run_stop {D : Int → PS → Int × PS} {m : M} {s : St} {m' : M} (h : m.step D = (s, m')) (hs : s.1 ≠ 1) (n : Nat) : M.run D (n + 1) m = (s, m') := by
  show (if (m.step D).1.1 ≠ 1 then m.step D else M.run D n (m.step D).2) = _
  rw [h, if_pos hs]
theorem run_mono {D : Int → PS → Int × PS} : ∀ (n k : Nat) (m : M), (M.run D n m).1.1 ≠ 1 → M.run D (n + k) m = M.run D n m
  | 0, _, _, h => absurd rfl h
  | n + 1, k, m, h => by
    rw [show n + 1 + k = (n + k) + 1 by omega]
    show (if (m.step D).1.1 ≠ 1 then m.step D else M.run D (n + k) (m.step D).2) = (if (m.step D).1.1 ≠ 1 then m.step D else M.run D n (m.step D).2)
    by_cases h1 : (m.step D).1.1 ≠ 1
    · rw [if_pos h1, if_pos h1]
    · rw [if_neg h1, if_neg h1]
      refine run_mono n k _ ?_
      have h2 : M.run D (n + 1) m = M.run D n (m.step D).2 := by
        show (if (m.step D).1.1 ≠ 1 then m.step D else M.run D n (m.step D).2) = _
        rw [if_neg h1]
      rw [h2] at h
      exact h
theorem run_le {D : Int → PS → Int × PS} {n N : Nat} {m : M} {r : St × M} (h : M.run D n m = r) (hr : r.1.1 ≠ 1) (hn : n ≤ N) : M.run D N m = r := by
  obtain ⟨k, rfl⟩ : ∃ k, N = n + k := ⟨N - n, by omega⟩
  rw [run_mono n k m (by rw [h]; exact hr), h]
theorem run_still {D : Int → PS → Int × PS} {n N : Nat} {m : M} (h : (M.run D N m).1.1 = 1) (hn : n ≤ N) : (M.run D n m).1.1 = 1 := by
  by_cases h1 : (M.run D n m).1.1 = 1
  · exact h1
  · rw [run_le rfl h1 hn] at h
    exact absurd h h1
theorem throw_some {m : M} {e : Int} {f : Fr} {r : List Fr} (h : catchF m.fr = some (f, r)) : m.throw e = (ran, { m with df := 0, on := 0, nx := 0, fr := r, S := (pushS { m.S with st := stCut f.a m.S.st } e).2, I := backI m.I f.b f.x }) := by
  unfold M.throw
  dsimp only
  rw [h]
theorem throw_none {m : M} {e : Int} (h : catchF m.fr = none) : m.throw e = ((4, 0, e), { m with df := 0, on := 0, nx := 0, fr := [], S := { m.S with st := [] } }) := by
  unfold M.throw
  dsimp only
  rw [h]
/-- a step at an instruction -/
theorem step_at {D : Int → PS → Int × PS} {m : M} {op a w : Int} (h0 : m.nx = 0) (h6 : (topF m.fr).k ≠ 6) (h7 : (topF m.fr).k ≠ 7) (hd : m.df ≠ 0) (ha : m.at_ m.df m.on = some (op, a, w)) :
    m.step D = ({ m with on := m.on + 1 }).does D op a w := by
  unfold M.step
  rw [if_neg (by rw [h0]; simp), if_neg (by rintro (h | h); exact h6 h; exact h7 h), if_neg hd, ha]
/-- and a step at a word that is next -/
theorem step_next {D : Int → PS → Int × PS} {m : M} (h0 : m.nx ≠ 0) : m.step D = { m with nx := 0 }.execute D m.nx := by
  unfold M.step
  rw [if_pos h0]
section
variable {D : Int → PS → Int × PS} (m : M) (st : List Int)
/-- the engine with this stack -/
def M.sk (m : M) (st : List Int) : M := { m with S := { m.S with st := st } }
theorem does_lit (w a : Int) (h : st.length < 128) : (m.sk st).does D 1 a w = (ran, m.sk (st ++ [w])) := by
  have hp : pushS { m.S with st := st } w = (0, { m.S with st := st ++ [w] }) := by unfold pushS; rw [if_pos h]
  show M.done ((pushS { m.S with st := st } w).1, { m with S := (pushS { m.S with st := st } w).2 }) = _
  rw [hp]
  rfl
theorem does_call (w a : Int) : (m.sk st).does D 2 a w = (m.sk st).execute D a := rfl
theorem does_jump (w a : Int) : m.does D 3 a w = (ran, { m with on := a }) := rfl
theorem with_ok (n : Nat) (do_ : List Int → M → Int × M) (l : List Int) (hl : l.length = n) (m' : M) (h : do_ l (m.sk st) = (0, m')) : (m.sk (st ++ l)).with_ n do_ = (ran, m') := by
  have h1 : (st ++ l).length - n = st.length := by rw [List.length_append, hl]; omega
  unfold M.with_
  rw [if_neg (by omega), if_neg (by show ¬ (((st ++ l).length : Nat) : Int) < n; rw [List.length_append]; omega)]
  show (if (do_ ((st ++ l).drop ((st ++ l).length - n)) { m.sk (st ++ l) with S := { m.S with st := (st ++ l).take ((st ++ l).length - n) } }).1 = 0 then _ else _) = _
  rw [h1, List.drop_left, List.take_left]
  rw [show ({ m.sk (st ++ l) with S := { m.S with st := st } } : M) = m.sk st from rfl, h]
  rw [if_pos rfl]
  show (ran, (do_ ((st ++ l).drop ((st ++ l).length - n)) { m.sk (st ++ l) with S := { m.S with st := (st ++ l).take ((st ++ l).length - n) } }).2) = _
  rw [h1, List.drop_left, List.take_left]
  rw [show ({ m.sk (st ++ l) with S := { m.S with st := st } } : M) = m.sk st from rfl, h]
theorem topF_app (F : List Fr) (f : Fr) : topF (F ++ [f]) = f := by simp [topF]
theorem drop_app1 (F : List Fr) (f : Fr) : (F ++ [f]).dropLast = F := by simp
/-- the engine with these frames -/
def M.fk (m : M) (F : List Fr) : M := { m with fr := F }
theorem does_zero (a w x : Int) : (m.sk (st ++ [x])).does D 4 a w = (ran, if x = 0 then { m.sk st with on := a } else m.sk st) := by
  show (m.sk (st ++ [x])).with_ (1 : Nat) (fun l m => m.jump (l.getD 0 0 == 0) a) = _
  rw [with_ok m st 1 _ [x] rfl _ rfl]
  congr 1
  by_cases h : x = 0
  · rw [if_pos h]; simp [h]
  · rw [if_neg h]; simp [h]
theorem does_do (a w x y : Int) (hf : m.fr.length < 128) : (m.sk (st ++ [y, x])).does D 5 a w = (ran, (m.sk st).fk (m.fr ++ [⟨3, 0, 0, x, y, []⟩])) := by
  show (m.sk (st ++ [y, x])).with_ (2 : Nat) (fun l m => m.begins l) = _
  refine with_ok m st 2 _ [y, x] rfl _ ?_
  show (m.sk st).pushFr ⟨3, 0, 0, x, y, []⟩ = _
  unfold M.pushFr
  rw [if_pos (show (m.sk st).fr.length < 128 from hf)]
  rfl
theorem does_qdo (a w x y : Int) (hf : m.fr.length < 128) (h : y ≠ x) : (m.sk (st ++ [y, x])).does D 6 a w = (ran, (m.sk st).fk (m.fr ++ [⟨3, 0, 0, x, y, []⟩])) := by
  show (m.sk (st ++ [y, x])).with_ (2 : Nat) (fun l m => if l.getD 0 0 = l.getD 1 0 then m.jump true a else m.begins l) = _
  refine with_ok m st 2 _ [y, x] rfl _ ?_
  show (if y = x then (m.sk st).jump true a else (m.sk st).pushFr ⟨3, 0, 0, x, y, []⟩) = _
  rw [if_neg h]
  unfold M.pushFr
  rw [if_pos (show (m.sk st).fr.length < 128 from hf)]
  rfl
theorem does_qdo0 (a w x : Int) : (m.sk (st ++ [x, x])).does D 6 a w = (ran, { m.sk st with on := a }) := by
  show (m.sk (st ++ [x, x])).with_ (2 : Nat) (fun l m => if l.getD 0 0 = l.getD 1 0 then m.jump true a else m.begins l) = _
  refine with_ok m st 2 _ [x, x] rfl _ ?_
  show (if x = x then (m.sk st).jump true a else (m.sk st).pushFr ⟨3, 0, 0, x, x, []⟩) = _
  rw [if_pos rfl]
  rfl
theorem does_plus (a w x y k : Int) (F : List Fr) (hF : m.fr = F ++ [⟨3, 0, 0, x, y, []⟩]) : (m.sk (st ++ [k])).does D 8 a w =
    (ran, if endsF (wrap64 (x - y)) k then (m.sk st).fk F else { (m.sk st).fk (F ++ [⟨3, 0, 0, wrap64 (x + k), y, []⟩]) with on := a }) := by
  show (m.sk (st ++ [k])).with_ (1 : Nat) (fun l m => m.loop (l.getD 0 0) a) = _
  refine with_ok m st 1 _ [k] rfl _ ?_
  show (m.sk st).loop k a = _
  unfold M.loop
  rw [show (m.sk st).fr = F ++ [⟨3, 0, 0, x, y, []⟩] from hF, topF_app, if_neg (by simp)]
  dsimp only
  by_cases h : endsF (wrap64 (x - y)) k = true
  · rw [if_pos h, if_pos h]
    unfold M.fk
    rw [drop_app1]
  · rw [if_neg h, if_neg h]
    unfold M.fk M.setTop
    rw [show (m.sk st).fr = F ++ [⟨3, 0, 0, x, y, []⟩] from hF, drop_app1]
theorem does_leave (a w : Int) (f : Fr) (F : List Fr) (hF : m.fr = F ++ [f]) (hk : f.k = 3) : m.does D 9 a w = (ran, { m.fk F with on := a }) := by
  have hl : m.leave = (0, m.fk F) := by
    unfold M.leave M.pop
    rw [hF, topF_app, if_pos ⟨by simp, hk⟩, drop_app1]
    rfl
  show M.done ((m.leave).1, if (m.leave).1 = 0 then { (m.leave).2 with on := a } else m) = _
  rw [hl]
  rfl
theorem does_drop (a w x : Int) : (m.sk (st ++ [x])).does D 11 a w = (ran, m.sk st) :=
  with_ok m st 1 (fun _ m => (0, m)) [x] rfl _ rfl
theorem does_of (a w x y : Int) (h : st.length < 128) : (m.sk (st ++ [x, y])).does D 10 a w = (ran, if x = y then m.sk st else { m.sk (st ++ [x]) with on := a }) := by
  show (m.sk (st ++ [x, y])).with_ (2 : Nat) (fun l m => if l.getD 0 0 = l.getD 1 0 then (0, m) else (m.push (l.getD 0 0)).2.jump true a) = _
  refine with_ok m st 2 _ [x, y] rfl _ ?_
  show (if x = y then (0, m.sk st) else ((m.sk st).push x).2.jump true a) = _
  by_cases hx : x = y
  · rw [if_pos hx, if_pos hx]
  · rw [if_neg hx, if_neg hx]
    unfold M.push pushS
    rw [show (m.sk st).S.st.length = st.length from rfl, if_pos h]
    rfl
theorem does_exit (a w : Int) (h : (topF m.fr).k ≠ 4) : m.does D 15 a w = (ran, m.place 0 0) := by
  show (ran, { m with fr := if (topF m.fr).k = 4 then m.fr.dropLast else m.fr, df := 0, on := 0 }) = _
  rw [if_neg h]
  rfl
/-- a definition is left -/
theorem step_back {F : List Fr} {f : Fr} (h0 : m.nx = 0) (hd : m.df = 0) (hF : m.fr = F ++ [f]) (hk : f.k = 1) : m.step D = (ran, (m.fk F).place f.a f.b) := by
  unfold M.step
  rw [if_neg (by rw [h0]; simp), hF, topF_app, if_neg (by rw [hk]; simp), if_pos hd]
  unfold M.returns
  rw [hF, topF_app, if_neg (by simp), if_pos hk, drop_app1]
  rfl
theorem step_halt (h0 : m.nx = 0) (hd : m.df = 0) (hF : m.fr = []) : m.step D = ((5, 0, 0), m) := by
  unfold M.step
  rw [if_neg (by rw [h0]; simp), hF, if_neg (by decide), if_pos hd]
  unfold M.returns
  rw [hF, if_pos rfl]
/-- words -/
theorem exec_prim (xt n w : Int) (hw : m.word xt = some (1, n, w)) : m.execute D xt = M.done ((D n m.S).1, { m with S := (D n m.S).2 }) := by
  unfold M.execute
  rw [hw]
  rfl
theorem exec_ok (xt n w : Int) (st' : List Int) (hw : m.word xt = some (1, n, w)) (hD : D n { m.S with st := st } = (0, { m.S with st := st' })) : (m.sk st).execute D xt = (ran, m.sk st') := by
  rw [exec_prim (m.sk st) xt n w hw]
  show M.done ((D n { m.S with st := st }).1, { m with S := (D n { m.S with st := st }).2 }) = _
  rw [hD]
  rfl
theorem exec_colon (xt n w : Int) (hw : m.word xt = some (5, n, w)) (h1 : 1 ≤ n) (h2 : n ≤ m.ends.length) (hf : m.fr.length < 128) : m.execute D xt = (ran, (m.fk (m.fr ++ [⟨1, m.df, m.on, 0, 0, []⟩])).place n 0) := by
  unfold M.execute
  rw [hw]
  show M.done (m.call n) = _
  unfold M.call
  rw [if_neg (by omega)]
  unfold M.pushFr
  rw [if_pos hf]
  rfl
theorem exec_cell (xt n w k : Int) (hw : m.word xt = some (k, n, w)) (hk : k = 6 ∨ k = 9) (h : st.length < 128) : (m.sk st).execute D xt = (ran, m.sk (st ++ [w])) := by
  unfold M.execute
  rw [show (m.sk st).word xt = some (k, n, w) from hw]
  have hp : M.done ((m.sk st).push w) = (ran, m.sk (st ++ [w])) := by
    unfold M.push pushS
    rw [show (m.sk st).S.st.length = st.length from rfl, if_pos h]
    rfl
  dsimp only
  rcases hk with rfl | rfl <;> exact hp
theorem exec_ctl (xt n w : Int) (hw : m.word xt = some (2, n, w)) : m.execute D xt = m.control n := by
  unfold M.execute
  rw [hw]
  rfl
theorem exec_defer (xt n w : Int) (v : Int × Int × Int) (hw : m.word xt = some (8, n, w)) (hn : n ≠ 0) (hv : m.word n = some v) : m.execute D xt = (ran, { m with nx := n }) := by
  unfold M.execute
  rw [hw]
  show m.deferred n = _
  unfold M.deferred
  rw [if_neg hn, hv]
theorem ctl_i (x y : Int) (F : List Fr) (hF : m.fr = F ++ [⟨3, 0, 0, x, y, []⟩]) (h : st.length < 128) : (m.sk st).control 4 = (ran, m.sk (st ++ [x])) := by
  show (m.sk st).index 0 = _
  have hi : indexF (m.sk st).fr 0 = (x, 0) := by
    unfold indexF
    rw [show (m.sk st).fr = F ++ [⟨3, 0, 0, x, y, []⟩] from hF]
    have hg : (F ++ [(⟨3, 0, 0, x, y, []⟩ : Fr)]).getD ((F ++ [(⟨3, 0, 0, x, y, []⟩ : Fr)]).length - 1 - 0) .none = ⟨3, 0, 0, x, y, []⟩ := by
      simp [List.getD_eq_getElem?_getD]
    rw [if_pos, hg]
    refine ⟨fun i hi _ => ?_, by simp⟩
    obtain rfl : i = 0 := by omega
    rw [hg]
  unfold M.index
  rw [hi, if_pos rfl]
  unfold M.push pushS
  rw [show (m.sk st).S.st.length = st.length from rfl, if_pos h]
  rfl
theorem ctl_toR (x : Int) (hf : m.fr.length < 128) : (m.sk (st ++ [x])).control 1 = (ran, (m.sk st).fk (m.fr ++ [⟨2, 0, 0, x, 0, []⟩])) := by
  show (m.sk (st ++ [x])).with_ (1 : Nat) (fun l m => m.pushFr ⟨2, 0, 0, l.getD 0 0, 0, []⟩) = _
  refine with_ok m st 1 _ [x] rfl _ ?_
  show (m.sk st).pushFr ⟨2, 0, 0, x, 0, []⟩ = _
  unfold M.pushFr
  rw [if_pos (show (m.sk st).fr.length < 128 from hf)]
  rfl
theorem ctl_fromR (f : Fr) (F : List Fr) (hF : m.fr = F ++ [f]) (hk : f.k = 2) (h : st.length < 128) : (m.sk st).control 2 = (ran, (m.sk (st ++ [f.x])).fk F) := by
  have hp : (m.sk st).pop 2 = some (f, (m.sk st).fk F) := by
    unfold M.pop
    rw [show (m.sk st).fr = F ++ [f] from hF, topF_app, if_pos ⟨by simp, hk⟩, drop_app1]
    rfl
  unfold M.control
  rw [if_neg (by decide), if_pos rfl, hp]
  dsimp only
  have hq : ((m.sk st).fk F).push f.x = (0, (m.sk (st ++ [f.x])).fk F) := by
    unfold M.push pushS
    rw [show ((m.sk st).fk F).S.st.length = st.length from rfl, if_pos h]
    rfl
  rw [hq]
  rfl
theorem ctl_copyR (f : Fr) (F : List Fr) (hF : m.fr = F ++ [f]) (hk : f.k = 2) (h : st.length < 128) : (m.sk st).control 3 = (ran, m.sk (st ++ [f.x])) := by
  unfold M.control
  rw [if_neg (by decide), if_neg (by decide), if_pos rfl, show (m.sk st).fr = F ++ [f] from hF, topF_app, if_pos hk]
  unfold M.push pushS
  rw [show (m.sk st).S.st.length = st.length from rfl, if_pos h]
  rfl
end
end En
end Go.Proofs.YtdokeddjcpnmiaaGreatDoor

/- The engine, plain: a definition that is gone through, instruction by instruction. -/
namespace Go.Proofs.YtdokeddjcpnmiaaGreatDoor
open Go.RowKit
namespace En

/-- a definition as it is laid down -/
def enc (x : Int × Int × Int) : List Int := [x.1 + 256 * x.2.1, x.2.2]
def codeOf (L : List (Int × Int × Int)) : List Int := L.flatMap enc
theorem codeOf_len (L : List (Int × Int × Int)) : (codeOf L).length = 2 * L.length := by
  induction L with
  | nil => rfl
  | cons x r ih =>
    unfold codeOf at *
    rw [List.flatMap_cons, List.length_append, ih, List.length_cons]
    show 2 + _ = _
    omega
theorem codeOf_get : ∀ (L : List (Int × Int × Int)) (o : Nat) (x : Int × Int × Int), L[o]? = some x → (codeOf L).getD (2 * o) 0 = x.1 + 256 * x.2.1 ∧ (codeOf L).getD (2 * o + 1) 0 = x.2.2
  | [], o, x, h => by simp at h
  | y :: r, 0, x, h => by
    simp at h
    subst h
    exact ⟨rfl, rfl⟩
  | y :: r, o + 1, x, h => by
    have h1 := codeOf_get r o x (by simpa using h)
    have e : codeOf (y :: r) = (y.1 + 256 * y.2.1) :: y.2.2 :: codeOf r := rfl
    rw [e, show 2 * (o + 1) = (2 * o + 1) + 1 by omega]
    simp only [List.getD_cons_succ]
    exact h1
/-- a definition lies there -/
def DefAt (m : M) (n : Int) (L : List (Int × Int × Int)) : Prop := ∀ (o : Nat) (x : Int × Int × Int), L[o]? = some x → m.at_ n o = some x
theorem defAt_of {m : M} {n : Nat} {L : List (Int × Int × Int)} {pre post : List Int} {b : Nat} (h1 : 1 ≤ n) (h2 : n ≤ m.ends.length) (hb : m.begin_ n = b) (he : m.ends.getD (n - 1) 0 = ((b + 2 * L.length : Nat) : Int)) (hc : m.code = pre ++ codeOf L ++ post) (hp : pre.length = b)
    (hop : ∀ x ∈ L, 0 ≤ x.1 ∧ x.1 < 256) : DefAt m n L := by
  intro o x hx
  have ho : o < L.length := (List.getElem?_eq_some_iff.1 hx).1
  have hm : x ∈ L := List.mem_of_getElem? hx
  obtain ⟨g1, g2⟩ := codeOf_get L o x hx
  have hl := codeOf_len L
  have hop := hop x hm
  unfold M.at_
  rw [hb]
  have e1 : ((n : Int) - 1).toNat = n - 1 := by omega
  rw [e1, he]
  rw [if_neg (by
    rintro (h | h | h | h)
    · omega
    · omega
    · omega
    · have : (((b + 2 * L.length : Nat) : Int) - (b : Nat)).tdiv 2 = L.length := by
        rw [show (((b + 2 * L.length : Nat) : Int) - (b : Nat)) = ((2 * L.length : Nat) : Int) by omega]
        rw [show (2 : Int) = ((2 : Nat) : Int) from rfl, ← Int.ofNat_tdiv, Nat.mul_div_cancel_left _ (by decide)]
      omega)]
  have k1 : m.code.getD (b + 2 * ((o : Int)).toNat) 0 = x.1 + 256 * x.2.1 := by
    rw [hc, Int.toNat_natCast, ← hp, List.append_assoc, List.getD_eq_getElem?_getD, List.getElem?_append_right (by omega), Nat.add_sub_cancel_left, List.getElem?_append_left (by omega), ← List.getD_eq_getElem?_getD]
    exact g1
  have k2 : m.code.getD (b + 2 * ((o : Int)).toNat + 1) 0 = x.2.2 := by
    rw [hc, Int.toNat_natCast, ← hp, List.append_assoc, List.getD_eq_getElem?_getD, Nat.add_assoc, List.getElem?_append_right (by omega), Nat.add_sub_cancel_left, List.getElem?_append_left (by omega), ← List.getD_eq_getElem?_getD]
    exact g2
  dsimp only
  rw [k1, k2]
  obtain ⟨op, a, w⟩ := x
  dsimp only at *
  rw [show (op + 256 * a) % 256 = op by omega, show (op + 256 * a) / 256 = a by omega]
/-- the engine in it -/
def M.go (m : M) (n o : Int) (st : List Int) (F : List Fr) : M := { (m.sk st).fk F with df := n, on := o, nx := 0 }
/-- nothing reads -/
def NoRead (F : List Fr) : Prop := (topF F).k ≠ 6 ∧ (topF F).k ≠ 7
section
variable {D : Int → PS → Int × PS} {m : M} {n : Int} {L : List (Int × Int × Int)} (hA : DefAt m n L) (hn : n ≠ 0) {F : List Fr} (hF : NoRead F) (k : Nat) (o : Nat) (st : List Int)
include hA hn hF
theorem go_step (op a w : Int) (ho : L[o]? = some (op, a, w)) : (m.go n o st F).step D = (m.go n ((o + 1 : Nat) : Int) st F).does D op a w := by
  rw [step_at (m := m.go n o st F) (op := op) (a := a) (w := w) rfl hF.1 hF.2 hn (hA o _ ho)]
  rfl
theorem go_lit (a w : Int) (ho : L[o]? = some (1, a, w)) (hs : st.length < 128) : M.run D (k + 1) (m.go n o st F) = M.run D k (m.go n ((o + 1 : Nat) : Int) (st ++ [w]) F) :=
  run_ran ((go_step hA hn hF o st 1 a w ho).trans (does_lit { m.fk F with df := n, on := ((o + 1 : Nat) : Int), nx := 0 } st w a hs)) k
theorem go_jump (a w : Int) (ho : L[o]? = some (3, a, w)) : M.run D (k + 1) (m.go n o st F) = M.run D k (m.go n a st F) :=
  run_ran ((go_step hA hn hF o st 3 a w ho).trans rfl) k
theorem go_zero (a w x : Int) (ho : L[o]? = some (4, a, w)) : M.run D (k + 1) (m.go n o (st ++ [x]) F) = M.run D k (m.go n (if x = 0 then a else ((o + 1 : Nat) : Int)) st F) := by
  refine run_ran ((go_step hA hn hF o (st ++ [x]) 4 a w ho).trans ((does_zero { m.fk F with df := n, on := ((o + 1 : Nat) : Int), nx := 0 } st a w x).trans ?_)) k
  by_cases hx : x = 0
  · rw [if_pos hx, if_pos hx]; rfl
  · rw [if_neg hx, if_neg hx]; rfl
theorem go_of (a w x y : Int) (ho : L[o]? = some (10, a, w)) (hs : st.length < 128) : M.run D (k + 1) (m.go n o (st ++ [x, y]) F) = M.run D k (if x = y then m.go n ((o + 1 : Nat) : Int) st F else m.go n a (st ++ [x]) F) := by
  refine run_ran ((go_step hA hn hF o (st ++ [x, y]) 10 a w ho).trans ((does_of { m.fk F with df := n, on := ((o + 1 : Nat) : Int), nx := 0 } st a w x y hs).trans ?_)) k
  by_cases hx : x = y
  · rw [if_pos hx, if_pos hx]; rfl
  · rw [if_neg hx, if_neg hx]; rfl
theorem go_drop (a w x : Int) (ho : L[o]? = some (11, a, w)) : M.run D (k + 1) (m.go n o (st ++ [x]) F) = M.run D k (m.go n ((o + 1 : Nat) : Int) st F) :=
  run_ran ((go_step hA hn hF o (st ++ [x]) 11 a w ho).trans (does_drop { m.fk F with df := n, on := ((o + 1 : Nat) : Int), nx := 0 } st a w x)) k
theorem go_exit (a w : Int) (ho : L[o]? = some (15, a, w)) (h4 : (topF F).k ≠ 4) : M.run D (k + 1) (m.go n o st F) = M.run D k (m.go 0 0 st F) :=
  run_ran ((go_step hA hn hF o st 15 a w ho).trans (does_exit (m.go n ((o + 1 : Nat) : Int) st F) a w h4)) k
theorem go_prim (w xt c v : Int) (st' : List Int) (ho : L[o]? = some (2, xt, w)) (hw : m.word xt = some (1, c, v)) (hD : D c { m.S with st := st } = (0, { m.S with st := st' })) :
    M.run D (k + 1) (m.go n o st F) = M.run D k (m.go n ((o + 1 : Nat) : Int) st' F) :=
  run_ran ((go_step hA hn hF o st 2 xt w ho).trans (exec_ok { m.fk F with df := n, on := ((o + 1 : Nat) : Int), nx := 0 } st xt c v st' hw hD)) k
theorem go_cell (w xt c v x : Int) (ho : L[o]? = some (2, xt, w)) (hw : m.word xt = some (x, c, v)) (hx : x = 6 ∨ x = 9) (hs : st.length < 128) :
    M.run D (k + 1) (m.go n o st F) = M.run D k (m.go n ((o + 1 : Nat) : Int) (st ++ [v]) F) :=
  run_ran ((go_step hA hn hF o st 2 xt w ho).trans (exec_cell { m.fk F with df := n, on := ((o + 1 : Nat) : Int), nx := 0 } st xt c v x hw hx hs)) k
theorem go_toR (w xt v x : Int) (ho : L[o]? = some (2, xt, w)) (hw : m.word xt = some (2, 1, v)) (hf : F.length < 128) :
    M.run D (k + 1) (m.go n o (st ++ [x]) F) = M.run D k (m.go n ((o + 1 : Nat) : Int) st (F ++ [⟨2, 0, 0, x, 0, []⟩])) :=
  run_ran ((go_step hA hn hF o (st ++ [x]) 2 xt w ho).trans ((exec_ctl (m.go n ((o + 1 : Nat) : Int) (st ++ [x]) F) xt 1 v hw).trans (ctl_toR { m.fk F with df := n, on := ((o + 1 : Nat) : Int), nx := 0 } st x hf))) k
theorem go_defer (w xt c v : Int) (u : Int × Int × Int) (ho : L[o]? = some (2, xt, w)) (hw : m.word xt = some (8, c, v)) (hc : c ≠ 0) (hu : m.word c = some u) :
    M.run D (k + 1) (m.go n o st F) = M.run D k { m.go n ((o + 1 : Nat) : Int) st F with nx := c } :=
  run_ran ((go_step hA hn hF o st 2 xt w ho).trans (exec_defer (m.go n ((o + 1 : Nat) : Int) st F) xt c v u hw hc hu)) k
theorem go_call (w xt c v : Int) (ho : L[o]? = some (2, xt, w)) (hw : m.word xt = some (5, c, v)) (h1 : 1 ≤ c) (h2 : c ≤ m.ends.length) (hf : F.length < 128) :
    M.run D (k + 1) (m.go n o st F) = M.run D k (m.go c 0 st (F ++ [⟨1, n, ((o + 1 : Nat) : Int), 0, 0, []⟩])) :=
  run_ran ((go_step hA hn hF o st 2 xt w ho).trans (exec_colon (m.go n ((o + 1 : Nat) : Int) st F) xt c v hw h1 h2 hf)) k
end
section
variable {D : Int → PS → Int × PS} {m : M} (k : Nat) (st : List Int) {n : Int} {L : List (Int × Int × Int)} (hA : DefAt m n L) (hn : n ≠ 0) {F : List Fr} {f : Fr} (o : Nat)
theorem go_back (hk : f.k = 1) : M.run D (k + 1) (m.go 0 0 st (F ++ [f])) = M.run D k (m.go f.a f.b st F) :=
  run_ran (step_back (m.go 0 0 st (F ++ [f])) rfl rfl rfl hk) k
theorem go_halt : M.run D (k + 1) (m.go 0 0 st []) = ((5, 0, 0), m.go 0 0 st []) :=
  run_stop (step_halt (m.go 0 0 st []) rfl rfl rfl) (show (5 : Int) ≠ 1 from by decide) k
/-- a word that is next: a definition -/
theorem next_call (a b xt c v : Int) (hx : xt ≠ 0) (hw : m.word xt = some (5, c, v)) (h1 : 1 ≤ c) (h2 : c ≤ m.ends.length) (hf : F.length < 128) :
    M.run D (k + 1) { m.go a b st F with nx := xt } = M.run D k (m.go c 0 st (F ++ [⟨1, a, b, 0, 0, []⟩])) :=
  run_ran ((step_next hx).trans (exec_colon (m.go a b st F) xt c v hw h1 h2 hf)) k
theorem next_cell (a b xt c v x : Int) (hx : xt ≠ 0) (hw : m.word xt = some (x, c, v)) (hk : x = 6 ∨ x = 9) (hs : st.length < 128) :
    M.run D (k + 1) { m.go a b st F with nx := xt } = M.run D k (m.go a b (st ++ [v]) F) :=
  run_ran ((step_next hx).trans (exec_cell { m.fk F with df := a, on := b, nx := 0 } st xt c v x hw hk hs)) k
include hA hn
theorem go_fromR (w xt v : Int) (hk : f.k = 2) (ho : L[o]? = some (2, xt, w)) (hw : m.word xt = some (2, 2, v)) (hs : st.length < 128) :
    M.run D (k + 1) (m.go n o st (F ++ [f])) = M.run D k (m.go n ((o + 1 : Nat) : Int) (st ++ [f.x]) F) := by
  have hF : NoRead (F ++ [f]) := by unfold NoRead; rw [topF_app, hk]; decide
  exact run_ran ((go_step hA hn hF o st 2 xt w ho).trans ((exec_ctl (m.go n ((o + 1 : Nat) : Int) st (F ++ [f])) xt 2 v hw).trans (ctl_fromR { m.fk (F ++ [f]) with df := n, on := ((o + 1 : Nat) : Int), nx := 0 } st f F rfl hk hs))) k
theorem go_copyR (w xt v : Int) (hk : f.k = 2) (ho : L[o]? = some (2, xt, w)) (hw : m.word xt = some (2, 3, v)) (hs : st.length < 128) :
    M.run D (k + 1) (m.go n o st (F ++ [f])) = M.run D k (m.go n ((o + 1 : Nat) : Int) (st ++ [f.x]) (F ++ [f])) := by
  have hF : NoRead (F ++ [f]) := by unfold NoRead; rw [topF_app, hk]; decide
  exact run_ran ((go_step hA hn hF o st 2 xt w ho).trans ((exec_ctl (m.go n ((o + 1 : Nat) : Int) st (F ++ [f])) xt 3 v hw).trans (ctl_copyR { m.fk (F ++ [f]) with df := n, on := ((o + 1 : Nat) : Int), nx := 0 } st f F rfl hk hs))) k
end
end En
end Go.Proofs.YtdokeddjcpnmiaaGreatDoor

/- EngineBranches, plain: of cells that are asked for, each way is gone. -/
namespace Go.Proofs.YtdokeddjcpnmiaaGreatDoor
open Go.RowKit
namespace En

/-- what is laid down for a cell -/
def bItem (i : Nat) (at_ : Nat) (c : Int) : List (Int × Int × Int) :=
  if i % 2 = 0 then [(1, 0, c), (4, (at_ + 4 : Nat), 0), (1, 0, 7), (3, (at_ + 5 : Nat), 0), (1, 0, 9)]
  else [(1, 0, c), (1, 0, 0), (10, (at_ + 5 : Nat), 0), (1, 0, 9), (3, (at_ + 7 : Nat), 0), (11, 0, 0), (1, 0, 7)]
def bLen (i : Nat) : Nat := if i % 2 = 0 then 5 else 7
theorem bItem_len (i at_ : Nat) (c : Int) : (bItem i at_ c).length = bLen i := by
  unfold bItem bLen
  split <;> rfl
def bFrom : Nat → Nat → List Int → List (Int × Int × Int)
  | _, _, [] => []
  | i, at_, c :: r => bItem i at_ c ++ bFrom (i + 1) (at_ + bLen i) r
def wantB (c : Int) : Int := if c = 0 then 9 else 7
theorem get_pre {α : Type} {pre X : List α} {j : Nat} {x : α} (h : X[j]? = some x) : (pre ++ X)[pre.length + j]? = some x := by
  rw [List.getElem?_append_right (by omega), Nat.add_sub_cancel_left]
  exact h
section
variable {D : Int → PS → Int × PS} {m : M} {n : Int} {L : List (Int × Int × Int)} (hA : DefAt m n L) (hn : n ≠ 0) {F : List Fr} (hF : NoRead F)
include hA hn hF
theorem branch_run : ∀ (ys : List Int) (i : Nat) (pre post : List (Int × Int × Int)) (st : List Int), L = pre ++ (bFrom i pre.length ys ++ post) → st.length + ys.length ≤ 100 →
    ∃ t, t ≤ 5 * ys.length ∧ ∀ k, M.run D (k + t) (m.go n pre.length st F) = M.run D k (m.go n ((pre.length + (bFrom i pre.length ys).length : Nat) : Int) (st ++ ys.map wantB) F)
  | [], i, pre, post, st, _, _ => ⟨0, by simp, fun k => by simp [bFrom]⟩
  | c :: r, i, pre, post, st, hL, hs => by
    have hs' : st.length + r.length + 1 ≤ 100 := by rw [List.length_cons] at hs; omega
    have hg : ∀ j x, (bItem i pre.length c ++ (bFrom (i + 1) (pre.length + bLen i) r ++ post))[j]? = some x → L[pre.length + j]? = some x := fun j x hx => by
      rw [hL]
      refine get_pre ?_
      rw [show bFrom i pre.length (c :: r) = bItem i pre.length c ++ bFrom (i + 1) (pre.length + bLen i) r from rfl, List.append_assoc]
      exact hx
    have hone : ∃ t, t ≤ 5 ∧ ∀ k, M.run D (k + t) (m.go n pre.length st F) = M.run D k (m.go n ((pre.length + bLen i : Nat) : Int) (st ++ [wantB c]) F) := by
      by_cases hi : i % 2 = 0
      · have hb : bItem i pre.length c = [(1, 0, c), (4, ((pre.length + 4 : Nat) : Int), 0), (1, 0, 7), (3, ((pre.length + 5 : Nat) : Int), 0), (1, 0, 9)] := if_pos hi
        have hl : bLen i = 5 := if_pos hi
        rw [hb] at hg
        rw [hl]
        by_cases hc : c = 0
        · refine ⟨3, by omega, fun k => ?_⟩
          have g1 := go_lit (D := D) hA hn hF (k + 2) pre.length st 0 c (hg 0 _ rfl) (by omega)
          have g2 := go_zero (D := D) hA hn hF (k + 1) (pre.length + 1) st (pre.length + 4 : Nat) 0 c (hg 1 _ rfl)
          have g3 := go_lit (D := D) hA hn hF k (pre.length + 4) st 0 9 (hg 4 _ rfl) (by omega)
          rw [if_pos hc] at g2
          rw [show wantB c = 9 from if_pos hc]
          exact g1.trans (g2.trans g3)
        · refine ⟨4, by omega, fun k => ?_⟩
          have g1 := go_lit (D := D) hA hn hF (k + 3) pre.length st 0 c (hg 0 _ rfl) (by omega)
          have g2 := go_zero (D := D) hA hn hF (k + 2) (pre.length + 1) st (pre.length + 4 : Nat) 0 c (hg 1 _ rfl)
          have g3 := go_lit (D := D) hA hn hF (k + 1) (pre.length + 2) st 0 7 (hg 2 _ rfl) (by omega)
          have g4 := go_jump (D := D) hA hn hF k (pre.length + 3) (st ++ [7]) (pre.length + 5 : Nat) 0 (hg 3 _ rfl)
          rw [if_neg hc] at g2
          rw [show wantB c = 7 from if_neg hc]
          exact g1.trans (g2.trans (g3.trans g4))
      · have hb : bItem i pre.length c = [(1, 0, c), (1, 0, 0), (10, ((pre.length + 5 : Nat) : Int), 0), (1, 0, 9), (3, ((pre.length + 7 : Nat) : Int), 0), (11, 0, 0), (1, 0, 7)] := if_neg hi
        have hl : bLen i = 7 := if_neg hi
        rw [hb] at hg
        rw [hl]
        refine ⟨5, by omega, fun k => ?_⟩
        have g1 := go_lit (D := D) hA hn hF (k + 4) pre.length st 0 c (hg 0 _ rfl) (by omega)
        have g2 := go_lit (D := D) hA hn hF (k + 3) (pre.length + 1) (st ++ [c]) 0 0 (hg 1 _ rfl) (by simp; omega)
        have g3 := go_of (D := D) hA hn hF (k + 2) (pre.length + 2) st (pre.length + 5 : Nat) 0 c 0 (hg 2 _ rfl) (by omega)
        rw [List.append_assoc] at g2
        by_cases hc : c = 0
        · have g4 := go_lit (D := D) hA hn hF (k + 1) (pre.length + 3) st 0 9 (hg 3 _ rfl) (by omega)
          have g5 := go_jump (D := D) hA hn hF k (pre.length + 4) (st ++ [9]) (pre.length + 7 : Nat) 0 (hg 4 _ rfl)
          rw [if_pos hc] at g3
          rw [show wantB c = 9 from if_pos hc]
          exact g1.trans (g2.trans (g3.trans (g4.trans g5)))
        · have g4 := go_drop (D := D) hA hn hF (k + 1) (pre.length + 5) st 0 0 c (hg 5 _ rfl)
          have g5 := go_lit (D := D) hA hn hF k (pre.length + 6) st 0 7 (hg 6 _ rfl) (by omega)
          rw [if_neg hc] at g3
          rw [show wantB c = 7 from if_neg hc]
          exact g1.trans (g2.trans (g3.trans (g4.trans g5)))
    obtain ⟨t1, ht1, h1⟩ := hone
    have hlen : (pre ++ bItem i pre.length c).length = pre.length + bLen i := by rw [List.length_append, bItem_len]
    obtain ⟨t2, ht2, h2⟩ := branch_run r (i + 1) (pre ++ bItem i pre.length c) post (st ++ [wantB c]) (by
      rw [hL, hlen, show bFrom i pre.length (c :: r) = bItem i pre.length c ++ bFrom (i + 1) (pre.length + bLen i) r from rfl, List.append_assoc, List.append_assoc]) (by simp; omega)
    refine ⟨t2 + t1, by simp; omega, fun k => ?_⟩
    rw [hlen] at h2
    rw [← Nat.add_assoc, h1 (k + t2), h2 k]
    congr 2
    · rw [show bFrom i pre.length (c :: r) = bItem i pre.length c ++ bFrom (i + 1) (pre.length + bLen i) r from rfl, List.length_append, bItem_len, Nat.add_assoc]
    · simp
end
/-- THE LAW, plain -/
theorem branches_law {D : Int → PS → Int × PS} {m : M} (ys : List Int) (hy : ys.length ≤ 20) (hA : DefAt m 1 (bFrom 0 0 ys ++ [(15, 0, 0)])) (x v : Int) (hx : x ≠ 0) (hw : m.word x = some (5, 1, v)) (he : 1 ≤ m.ends.length) :
    M.run D 300 { m.go 0 0 [] [] with nx := x } = ((5, 0, 0), m.go 0 0 (ys.map wantB) []) := by
  have hF : NoRead ([] ++ [(⟨1, 0, 0, 0, 0, []⟩ : Fr)]) := by unfold NoRead; decide
  obtain ⟨t, ht, hr⟩ := branch_run (D := D) hA (by decide) hF ys 0 [] [(15, 0, 0)] [] rfl (by simp; omega)
  have g0 := next_call (D := D) (m := m) (3 + t) [] (F := []) 0 0 x 1 v hx hw (by decide) (by omega) (by decide)
  have g1 := hr 3
  have g2 := go_exit (D := D) hA (by decide) hF 2 (bFrom 0 0 ys).length (ys.map wantB) 0 0 (by simp) (by decide)
  have g3 := go_back (D := D) (m := m) 1 (ys.map wantB) (F := []) (f := ⟨1, 0, 0, 0, 0, []⟩) rfl
  have g4 := go_halt (D := D) (m := m) 0 (ys.map wantB)
  simp only [List.length_nil, Nat.zero_add, List.nil_append] at g1
  refine run_le (n := 3 + t + 1) (g0.trans (g1.trans (g2.trans (g3.trans g4)))) (show (5 : Int) ≠ 1 from by decide) (by omega)
end En
end Go.Proofs.YtdokeddjcpnmiaaGreatDoor

/- Which definitions may be, plain. -/
namespace Go.Proofs.YtdokeddjcpnmiaaGreatDoor
open Go.RowKit
namespace En

def insKind (op : Int) : Int :=
  if op = 3 ∨ op = 4 ∨ op = 6 ∨ op = 7 ∨ op = 8 ∨ op = 9 ∨ op = 10 then 1 else if op = 2 then 2 else if op = 12 then 3 else if op = 13 ∨ op = 14 then 4 else 0
/-- where it goes on behind an instruction, and how many loops are open there -/
def stepsF (op a at_ loops : Int) : List (Int × Int) :=
  if op = 15 then []
  else if op = 3 then [(a, loops)]
  else if op = 9 then [(a, loops - 1)]
  else if op = 4 ∨ op = 10 then [(at_ + 1, loops), (a, loops)]
  else if op = 5 then [(at_ + 1, loops + 1)]
  else if op = 6 then [(at_ + 1, loops + 1), (a, loops)]
  else if op = 7 ∨ op = 8 then [(at_ + 1, loops - 1), (a, loops)]
  else [(at_ + 1, loops)]
def opAt (L : List (Int × Int × Int)) (i : Nat) : Int × Int × Int := L.getD i (0, 0, 0)
def loopsGo (L : List (Int × Int × Int)) : Nat → List Int → List (Int × Int) → Option (List Int)
  | 0, _, _ => none
  | f + 1, tab, todo => match todo.getLast? with
    | none => some tab
    | some (a, l) =>
      if a < 0 ∨ (L.length : Int) ≤ a ∨ l < 0 then none
      else if tab.getD a.toNat 0 = l then loopsGo L f tab todo.dropLast
      else if 0 ≤ tab.getD a.toNat 0 then none
      else loopsGo L f (tab.set a.toNat l) (todo.dropLast ++ stepsF (opAt L a.toNat).1 (opAt L a.toNat).2.1 a l)
def loopsF (L : List (Int × Int × Int)) : Option (List Int) := if L = [] then none else loopsGo L (3 * L.length + 3) (List.replicate L.length (-1)) [(0, 0)]
def lowF (k : Int) : Int := if k = 2 ∨ k = 3 then 1 else 0
def highF (L : List (Int × Int × Int)) (words k : Int) : Int :=
  if k = 1 then L.length - 1 else if k = 2 then words else if k = 3 then 16 else if k = 4 then (if (opAt L 0).1 = 12 then (opAt L 0).2.1 else 0) - 1 else 0
/-- an instruction at a place may be -/
def oneMay (L : List (Int × Int × Int)) (words : Int) (tab : List Int) (i : Nat) : Prop :=
  let x := opAt L i
  1 ≤ x.1 ∧ x.1 < 16 ∧ (x.1 = 1 ∨ x.2.2 = 0) ∧ lowF (insKind x.1) ≤ x.2.1 ∧ x.2.1 ≤ highF L words (insKind x.1) ∧ ¬ (x.1 = 12 ∧ 0 < i) ∧ ¬ (x.1 = 15 ∧ i + 1 = L.length ∧ 0 < tab.getD i 0)
def mayF (L : List (Int × Int × Int)) (words : Int) : Prop :=
  ∃ tab, loopsF L = some tab ∧ L.length ≤ 500 ∧ ((opAt L (L.length - 1)).1 = 15 ∨ (opAt L (L.length - 1)).1 = 3) ∧ ∀ i, i < L.length → oneMay L words tab i

/-- code that goes straight on -/
theorem straight_go (L : List (Int × Int × Int)) (n : Nat) (hn : L.length = n + 1) (h1 : ∀ i, i < n → stepsF (opAt L i).1 (opAt L i).2.1 i 0 = [((i : Int) + 1, 0)]) (h2 : (opAt L n).1 = 15) : ∀ (j : Nat) (f : Nat), j ≤ n → n - j + 2 ≤ f →
    loopsGo L f (List.replicate j 0 ++ List.replicate (n + 1 - j) (-1)) [((j : Int), 0)] = some (List.replicate (n + 1) 0)
  | j, 0, _, hf => absurd hf (by omega)
  | j, f + 1, hj, hf => by
    have hg : (List.replicate j (0 : Int) ++ List.replicate (n + 1 - j) (-1)).getD j 0 = -1 := by
      rw [List.getD_eq_getElem?_getD, List.getElem?_append_right (by simp), List.length_replicate, Nat.sub_self, List.getElem?_replicate, if_pos (by omega)]
      rfl
    have hset : (List.replicate j (0 : Int) ++ List.replicate (n + 1 - j) (-1)).set j 0 = List.replicate (j + 1) 0 ++ List.replicate (n + 1 - (j + 1)) (-1) := by
      rw [List.set_append_right _ _ (by simp), List.length_replicate, Nat.sub_self]
      obtain ⟨r, hr⟩ : ∃ r, n + 1 - j = r + 1 := ⟨n - j, by omega⟩
      rw [hr, List.replicate_succ, List.set_cons_zero, show n + 1 - (j + 1) = r by omega, List.replicate_succ']
      simp
    show (if (j : Int) < 0 ∨ (L.length : Int) ≤ j ∨ (0 : Int) < 0 then none else if (List.replicate j (0 : Int) ++ List.replicate (n + 1 - j) (-1)).getD ((j : Int)).toNat 0 = 0 then _ else if 0 ≤ (List.replicate j (0 : Int) ++ List.replicate (n + 1 - j) (-1)).getD ((j : Int)).toNat 0 then none else _) = _
    rw [if_neg (by omega), Int.toNat_natCast, hg, if_neg (by decide), if_neg (by decide), hset]
    by_cases hjn : j = n
    · subst hjn
      rw [show stepsF (opAt L j).1 (opAt L j).2.1 j 0 = [] by unfold stepsF; rw [if_pos h2]]
      obtain ⟨f', rfl⟩ : ∃ f', f = f' + 1 := ⟨f - 1, by omega⟩
      show some _ = _
      rw [Nat.sub_self, List.replicate_zero, List.append_nil]
    · rw [h1 j (by omega)]
      have hi := straight_go L n hn h1 h2 (j + 1) f (by omega) (by omega)
      exact hi
theorem straight_loops (L : List (Int × Int × Int)) (n : Nat) (hn : L.length = n + 1) (h1 : ∀ i, i < n → stepsF (opAt L i).1 (opAt L i).2.1 i 0 = [((i : Int) + 1, 0)]) (h2 : (opAt L n).1 = 15) : loopsF L = some (List.replicate (n + 1) 0) := by
  unfold loopsF
  rw [if_neg (by intro h; rw [h] at hn; simp at hn), hn]
  exact straight_go L n hn h1 h2 0 _ (Nat.zero_le _) (by omega)
end En
end Go.Proofs.YtdokeddjcpnmiaaGreatDoor

/- EngineCells, plain: cells that are put aside come back the last one first. -/
namespace Go.Proofs.YtdokeddjcpnmiaaGreatDoor
open Go.RowKit
namespace En

/-- a word that pushes a cell, or stands for one that does -/
def Pushes (m : M) (u c : Int) : Prop := (∃ k n, m.word u = some (k, n, c) ∧ (k = 6 ∨ k = 9)) ∨ ∃ w v k n, m.word u = some (8, w, v) ∧ w ≠ 0 ∧ m.word w = some (k, n, c) ∧ (k = 6 ∨ k = 9)
def putL (us : List (Int × Int)) : List (Int × Int × Int) := us.flatMap fun x => [(2, x.1, 0), (2, 108, 0)]
def getL (k : Nat) : List (Int × Int × Int) := (List.replicate k [((2 : Int), (110 : Int), (0 : Int)), (2, 109, 0)]).flatten
def cellFr (c : Int) : Fr := ⟨2, 0, 0, c, 0, []⟩
theorem putL_len (us : List (Int × Int)) : (putL us).length = 2 * us.length := by
  induction us with
  | nil => rfl
  | cons x r ih =>
    unfold putL at *
    rw [List.flatMap_cons, List.length_append, ih]
    show 2 + 2 * r.length = 2 * (r.length + 1)
    omega
theorem getL_len (k : Nat) : (getL k).length = 2 * k := by
  induction k with
  | zero => rfl
  | succ k ih =>
    unfold getL at *
    rw [List.replicate_succ, List.flatten_cons, List.length_append, ih]
    show 2 + _ = _
    omega
section
variable {D : Int → PS → Int × PS} {m : M} {n : Int} {L : List (Int × Int × Int)} (hA : DefAt m n L) (hn : n ≠ 0)
include hA hn
theorem push_run {F : List Fr} (hF : NoRead F) (o : Nat) (st : List Int) (hs : st.length < 128) (u c w : Int) (ho : L[o]? = some (2, u, w)) (hu : Pushes m u c) :
    ∃ t, t ≤ 2 ∧ ∀ k, M.run D (k + t) (m.go n o st F) = M.run D k (m.go n ((o + 1 : Nat) : Int) (st ++ [c]) F) := by
  rcases hu with ⟨x, y, h1, h2⟩ | ⟨v, z, x, y, h1, h2, h3, h4⟩
  · exact ⟨1, by omega, fun k => go_cell hA hn hF k o st w u y c x ho h1 h2 hs⟩
  · exact ⟨2, by omega, fun k => (go_defer hA hn hF (k + 1) o st w u v z _ ho h1 h2 h3).trans (next_cell k st n ((o + 1 : Nat) : Int) v y c x h2 h3 h4 hs)⟩
theorem put_run (h108 : m.word 108 = some (2, 1, 0)) (st : List Int) (hs : st.length < 100) : ∀ (us : List (Int × Int)) (pre post : List (Int × Int × Int)) (F : List Fr), L = pre ++ (putL us ++ post) → NoRead F → F.length + us.length ≤ 100 → (∀ x ∈ us, Pushes m x.1 x.2) →
    ∃ t, t ≤ 3 * us.length ∧ ∀ k, M.run D (k + t) (m.go n pre.length st F) = M.run D k (m.go n ((pre.length + 2 * us.length : Nat) : Int) st (F ++ us.map fun x => cellFr x.2))
  | [], pre, post, F, _, _, _, _ => ⟨0, by simp, fun k => by simp⟩
  | (u, c) :: r, pre, post, F, hL, hF, hl, hp => by
    have hl' : F.length + r.length + 1 ≤ 100 := by rw [List.length_cons] at hl; omega
    have hg : ∀ j x, ([((2 : Int), u, (0 : Int)), (2, 108, 0)] ++ (putL r ++ post))[j]? = some x → L[pre.length + j]? = some x := fun j x hx => by
      rw [hL]
      refine get_pre ?_
      exact hx
    obtain ⟨t1, ht1, h1⟩ := push_run (D := D) hA hn hF pre.length st (by omega) u c 0 (hg 0 _ rfl) (hp (u, c) (by simp))
    have h2 := fun k => go_toR (D := D) hA hn hF k (pre.length + 1) st 0 108 0 c (hg 1 _ rfl) h108 (by omega)
    have hlen : (pre ++ [((2 : Int), u, (0 : Int)), (2, 108, 0)]).length = pre.length + 2 := by simp
    obtain ⟨t2, ht2, h3⟩ := put_run h108 st hs r (pre ++ [((2 : Int), u, (0 : Int)), (2, 108, 0)]) post (F ++ [cellFr c]) (by
      rw [hL, List.append_assoc]; rfl) (by unfold NoRead; rw [topF_app]; exact ⟨show (2 : Int) ≠ 6 from by decide, show (2 : Int) ≠ 7 from by decide⟩) (by rw [List.length_append]; simp; omega) (fun x hx => hp x (List.mem_cons_of_mem _ hx))
    refine ⟨t2 + 1 + t1, by rw [List.length_cons]; omega, fun k => ?_⟩
    rw [hlen] at h3
    rw [show k + (t2 + 1 + t1) = k + t2 + 1 + t1 by omega, h1, h2]
    refine (h3 k).trans ?_
    congr 2
    · simp only [List.length_cons]; omega
    · simp
theorem get_run (h109 : m.word 109 = some (2, 2, 0)) (h110 : m.word 110 = some (2, 3, 0)) : ∀ (cs : List Int) (pre post : List (Int × Int × Int)) (st : List Int) (F : List Fr), L = pre ++ (getL cs.length ++ post) → st.length + 2 * cs.length ≤ 100 →
    ∀ k, M.run D (k + 2 * cs.length) (m.go n pre.length st (F ++ (cs.reverse.map cellFr))) = M.run D k (m.go n ((pre.length + 2 * cs.length : Nat) : Int) (st ++ cs.flatMap fun c => [c, c]) F)
  | [], pre, post, st, F, _, _, k => by simp
  | c :: r, pre, post, st, F, hL, hl, k => by
    have hl' : st.length + 2 * r.length + 2 ≤ 100 := by rw [List.length_cons] at hl; omega
    have hg : ∀ j x, ([((2 : Int), (110 : Int), (0 : Int)), (2, 109, 0)] ++ (getL r.length ++ post))[j]? = some x → L[pre.length + j]? = some x := fun j x hx => by
      rw [hL]
      refine get_pre ?_
      exact hx
    have e : F ++ ((c :: r).reverse.map cellFr) = (F ++ r.reverse.map cellFr) ++ [cellFr c] := by simp
    have h1 := go_copyR (D := D) (k + 2 * r.length + 1) st hA hn (F := F ++ r.reverse.map cellFr) (f := cellFr c) pre.length 0 110 0 rfl (hg 0 _ rfl) h110 (by omega)
    have h2 := go_fromR (D := D) (k + 2 * r.length) (st ++ [c]) hA hn (F := F ++ r.reverse.map cellFr) (f := cellFr c) (pre.length + 1) 0 109 0 rfl (hg 1 _ rfl) h109 (by simp; omega)
    have hlen : (pre ++ [((2 : Int), (110 : Int), (0 : Int)), (2, 109, 0)]).length = pre.length + 2 := by simp
    have h3 := get_run h109 h110 r (pre ++ [((2 : Int), (110 : Int), (0 : Int)), (2, 109, 0)]) post (st ++ [c] ++ [c]) F (by
      rw [hL, List.append_assoc]; rfl) (by simp; omega) k
    rw [hlen] at h3
    rw [e, show k + 2 * (c :: r).length = k + 2 * r.length + 1 + 1 by rw [List.length_cons]; omega]
    refine h1.trans (h2.trans (h3.trans ?_))
    congr 2
    · simp only [List.length_cons]; omega
    · simp
end
/-- THE LAW, plain -/
theorem cells_law {D : Int → PS → Int × PS} {m : M} (us : List (Int × Int)) (hy : us.length ≤ 20) (hA : DefAt m 1 (putL us ++ (getL us.length ++ [(15, 0, 0)]))) (x v : Int) (hx : x ≠ 0) (hw : m.word x = some (5, 1, v)) (he : 1 ≤ m.ends.length)
    (h108 : m.word 108 = some (2, 1, 0)) (h109 : m.word 109 = some (2, 2, 0)) (h110 : m.word 110 = some (2, 3, 0)) (hp : ∀ x ∈ us, Pushes m x.1 x.2) :
    M.run D 300 { m.go 0 0 [] [] with nx := x } = ((5, 0, 0), m.go 0 0 ((us.map (·.2)).reverse.flatMap fun c => [c, c]) []) := by
  have hF : NoRead ([] ++ [(⟨1, 0, 0, 0, 0, []⟩ : Fr)]) := by unfold NoRead; decide
  obtain ⟨t, ht, hr⟩ := put_run (D := D) hA (by decide) h108 [] (by simp) us [] _ _ rfl hF (by simp; omega) hp
  have g0 := next_call (D := D) (m := m) (3 + 2 * us.length + t) [] (F := []) 0 0 x 1 v hx hw (by decide) (by omega) (by decide)
  have g1 := hr (3 + 2 * us.length)
  have g2 := get_run (D := D) hA (by decide) h109 h110 (us.map (·.2)).reverse (putL us) [(15, 0, 0)] [] ([] ++ [(⟨1, 0, 0, 0, 0, []⟩ : Fr)]) (by simp) (by simp; omega) 3
  have g3 := go_exit (D := D) hA (by decide) hF 2 (2 * us.length + 2 * us.length) ((us.map (·.2)).reverse.flatMap fun c => [c, c]) 0 0 (by
    rw [show 2 * us.length + 2 * us.length = (putL us).length + 2 * us.length by rw [putL_len]]
    refine get_pre ?_
    rw [show 2 * us.length = (getL us.length).length + 0 by rw [getL_len]; rfl]
    exact get_pre rfl) (by decide)
  have g4 := go_back (D := D) (m := m) 1 ((us.map (·.2)).reverse.flatMap fun c => [c, c]) (F := []) (f := ⟨1, 0, 0, 0, 0, []⟩) rfl
  have g5 := go_halt (D := D) (m := m) 0 ((us.map (·.2)).reverse.flatMap fun c => [c, c])
  rw [List.length_reverse, List.length_map, List.reverse_reverse, List.map_map, putL_len] at g2
  simp only [List.length_nil, Nat.zero_add, List.nil_append] at g1 g2
  refine run_le (n := 3 + 2 * us.length + t + 1) (g0.trans (g1.trans (g2.trans (g3.trans (g4.trans g5))))) (show (5 : Int) ≠ 1 from by decide) (by omega)
/-- a word that stands for none is wrong -/
theorem none_law {D : Int → PS → Int × PS} {m : M} (st : List Int) (x v : Int) (hx : x ≠ 0) (hw : m.word x = some (8, 0, v)) (k : Nat) :
    M.run D (k + 1) { m.go 0 0 st [] with nx := x } = ((4, 0, -32), m.go 0 0 [] []) := by
  refine run_stop ((step_next hx).trans ?_) (show (4 : Int) ≠ 1 from by decide) k
  unfold M.execute
  rw [show ({ ({ m.go 0 0 st [] with nx := x } : M) with nx := 0 } : M).word x = some (8, 0, v) from hw]
  rfl
end En
end Go.Proofs.YtdokeddjcpnmiaaGreatDoor

/- EngineDeep, plain: calls one within the other, as deep as there may be. -/
namespace Go.Proofs.YtdokeddjcpnmiaaGreatDoor
open Go.RowKit
namespace En

def tok : Fr := ⟨6, 0, 0, 0, 0, []⟩
def callFr (a b : Int) : Fr := ⟨1, a, b, 0, 0, []⟩
def deepL (self : Int) : List (Int × Int × Int) := [(2, 28, 0), (4, 4, 0), (2, 5, 0), (2, self, 0), (15, 0, 0)]
/-- a word is caught -/
theorem ctl_catch {m : M} (st : List Int) (x : Int) (v : Int × Int × Int) (hw : m.word x = some v) (hf : m.fr.length ≤ 126) : (m.sk (st ++ [x])).control 8 =
    (ran, { (m.sk st).fk (m.fr ++ [callFr m.df m.on, ⟨5, st.length, m.I.outer.length, m.I.cur.on, 0, []⟩]) with df := 0, on := 0, nx := x }) := by
  have key : (m.sk (st ++ [x])).control 8 = (m.sk (st ++ [x])).with_ (1 : Nat) (fun l m =>
    let r := m.named (l.getD 0 0)
    if r.1 ≠ 0 then r else if 126 < m.fr.length then (-5, { r.2 with nx := 0 }) else
      (0, { r.2 with fr := r.2.fr ++ [⟨1, m.df, m.on, 0, 0, []⟩, ⟨5, m.S.st.length, m.I.outer.length, m.I.cur.on, 0, []⟩], df := 0, on := 0 })) := rfl
  rw [key]
  refine with_ok m st 1 _ [x] rfl _ ?_
  have hn : (m.sk st).named ([x].getD 0 0) = (0, { m.sk st with nx := x }) := by
    show (m.sk st).named x = _
    unfold M.named
    rw [show (m.sk st).word x = some v from hw]
  dsimp only
  rw [hn]
  dsimp only
  rw [if_neg (by simp), if_neg (by show ¬ 126 < m.fr.length; omega)]
  rfl
section
variable {D : Int → PS → Int × PS} {m : M} {self : Int} (hA : DefAt m 1 (deepL self)) (h28 : m.word 28 = some (1, 28, 0)) (h5 : m.word 5 = some (1, 5, 0)) (hs : m.word self = some (5, 1, 0)) (he : 1 ≤ m.ends.length)
  (d28 : ∀ x, D 28 { m.S with st := [x] } = (0, { m.S with st := [x, x] })) (d5 : ∀ x, D 5 { m.S with st := [x] } = (0, { m.S with st := [wrap64 (x - 1)] }))
include hA h28 h5 hs he d28 d5
omit h5 hs he d5 in
theorem deep_ask (k : Nat) (F : List Fr) (a b x : Int) : M.run D (k + 2) (m.go 1 0 [x] (F ++ [callFr a b])) = M.run D k (m.go 1 (if x = 0 then 4 else 2) [x] (F ++ [callFr a b])) := by
  have hF : NoRead (F ++ [callFr a b]) := by unfold NoRead; rw [topF_app]; exact ⟨show (1 : Int) ≠ 6 from by decide, show (1 : Int) ≠ 7 from by decide⟩
  have g1 := go_prim (D := D) hA (by decide) hF (k + 1) 0 [x] 0 28 28 0 [x, x] rfl h28 (d28 x)
  have g2 := go_zero (D := D) hA (by decide) hF k 1 [x] 4 0 x rfl
  exact g1.trans g2
theorem deep_down (k : Nat) (F : List Fr) (a b x : Int) (hx : x ≠ 0) (hF : (F ++ [callFr a b]).length < 128) :
    M.run D (k + 4) (m.go 1 0 [x] (F ++ [callFr a b])) = M.run D k (m.go 1 0 [wrap64 (x - 1)] (F ++ [callFr a b] ++ [callFr 1 4])) := by
  have hR : NoRead (F ++ [callFr a b]) := by unfold NoRead; rw [topF_app]; exact ⟨show (1 : Int) ≠ 6 from by decide, show (1 : Int) ≠ 7 from by decide⟩
  have g1 := deep_ask hA h28 d28 (k + 2) F a b x
  rw [if_neg hx] at g1
  have g2 := go_prim (D := D) hA (by decide) hR (k + 1) 2 [x] 0 5 5 0 [wrap64 (x - 1)] rfl h5 (d5 x)
  have g3 := go_call (D := D) hA (by decide) hR k 3 [wrap64 (x - 1)] 0 self 1 0 rfl hs (by decide) (by omega) hF
  exact g1.trans (g2.trans g3)
omit h28 h5 hs he d28 d5 in
theorem deep_up (k : Nat) (F : List Fr) (a b : Int) (st : List Int) : M.run D (k + 2) (m.go 1 4 st (F ++ [callFr a b])) = M.run D k (m.go a b st F) := by
  have hR : NoRead (F ++ [callFr a b]) := by unfold NoRead; rw [topF_app]; exact ⟨show (1 : Int) ≠ 6 from by decide, show (1 : Int) ≠ 7 from by decide⟩
  have g1 := go_exit (D := D) hA (by decide) hR (k + 1) 4 st 0 0 rfl (by rw [topF_app]; exact show (1 : Int) ≠ 4 from by decide)
  have g2 := go_back (D := D) (m := m) k st (F := F) (f := callFr a b) rfl
  exact g1.trans g2
/-- all of them, when it ends in time -/
theorem deep_all : ∀ (n : Nat) (k : Nat) (F : List Fr) (a b : Int), F.length + n ≤ 127 → M.run D (k + (6 * n + 4)) (m.go 1 0 [(n : Int)] (F ++ [callFr a b])) = M.run D k (m.go a b [0] F)
  | 0, k, F, a, b, _ => by
    have g1 := deep_ask hA h28 d28 (k + 2) F a b 0
    rw [if_pos rfl] at g1
    exact g1.trans (deep_up hA k F a b [0])
  | n + 1, k, F, a, b, h => by
    have g1 := deep_down hA h28 h5 hs he d28 d5 (k + 2 + (6 * n + 4)) F a b ((n + 1 : Nat) : Int) (by omega) (by rw [List.length_append]; simp; omega)
    have hb : 0 ≤ (n : Int) ∧ (n : Int) ≤ 1000 := by omega
    rw [show wrap64 (((n + 1 : Nat) : Int) - 1) = (n : Int) by unfold wrap64; omega] at g1
    have g2 := deep_all n (k + 2) (F ++ [callFr a b]) 1 4 (by rw [List.length_append]; simp; omega)
    have g3 := deep_up hA k F a b [0] (D := D)
    rw [show k + (6 * (n + 1) + 4) = k + 2 + (6 * n + 4) + 4 by omega]
    exact g1.trans (g2.trans g3)
/-- and so many of them -/
theorem deep_some : ∀ (j : Nat) (k : Nat) (F : List Fr) (a b x : Int), F.length + j ≤ 127 → (j : Int) ≤ x → x ≤ 1000 → ∃ R, R.length = j ∧ (∀ f ∈ R, f.k = 1) ∧ ∃ a' b', M.run D (k + 4 * j) (m.go 1 0 [x] (F ++ [callFr a b])) = M.run D k (m.go 1 0 [x - j] (F ++ R ++ [callFr a' b']))
  | 0, k, F, a, b, x, _, _, _ => ⟨[], rfl, by simp, a, b, by simp⟩
  | j + 1, k, F, a, b, x, h, hx, h9 => by
    have g1 := deep_down hA h28 h5 hs he d28 d5 (k + 4 * j) F a b x (by omega) (by rw [List.length_append]; simp; omega)
    rw [show wrap64 (x - 1) = x - 1 by unfold wrap64; omega] at g1
    obtain ⟨R, h1, h2, a', b', h3⟩ := deep_some j k (F ++ [callFr a b]) 1 4 (x - 1) (by rw [List.length_append]; simp; omega) (by omega) (by omega)
    refine ⟨callFr a b :: R, by simp [h1], fun f hf => ?_, a', b', ?_⟩
    · rcases List.mem_cons.1 hf with rfl | hf
      · rfl
      · exact h2 f hf
    · rw [show k + 4 * (j + 1) = k + 4 * j + 4 by omega]
      refine g1.trans (h3.trans ?_)
      rw [show x - 1 - (j : Int) = x - ((j + 1 : Nat) : Int) by omega]
      simp
/-- THE LAW, plain -/
theorem deep_law (n : Nat) (hn : n ≤ 150) (hc : m.word 115 = some (2, 8, 0)) (hself : self ≠ 0) :
    ∃ (st : List Int) (J : Ins), M.run D 2000 { m.go 0 0 [(n : Int), self] [tok] with nx := 115 } = ((3, 6, 0), ({ m with I := J } : M).go 0 0 st [tok]) ∧ st.length = 2 ∧ (n ≤ 124 → st = [0, 0]) ∧ (125 ≤ n → st.getD 1 0 = -5) := by
  obtain ⟨C, hC⟩ : ∃ C : Fr, (⟨5, ([(n : Int)] : List Int).length, m.I.outer.length, m.I.cur.on, 0, []⟩ : Fr) = C := ⟨_, rfl⟩
  have hCk : C.k = 5 := by rw [← hC]
  have hCa : C.a = 1 := by rw [← hC]; rfl
  have g0 : ∀ k, M.run D (k + 1) { m.go 0 0 [(n : Int), self] [tok] with nx := 115 } = M.run D k { m.go 0 0 [(n : Int)] [tok, callFr 0 0, C] with nx := self } := fun k => by
    have h1 : ({ m.go 0 0 [(n : Int), self] [tok] with nx := 115 } : M).step D = (ran, { m.go 0 0 [(n : Int)] [tok, callFr 0 0, C] with nx := self }) := by
      refine (step_next (show (115 : Int) ≠ 0 by decide)).trans ?_
      show M.execute D (m.go 0 0 [(n : Int), self] [tok]) 115 = _
      rw [exec_ctl (m.go 0 0 [(n : Int), self] [tok]) 115 8 0 hc]
      have h2 := ctl_catch (m := { m.fk [tok] with df := 0, on := 0, nx := 0 }) [(n : Int)] self (5, 1, 0) hs (by show ([tok] : List Fr).length ≤ 126; decide)
      refine h2.trans ?_
      rw [← hC]
      rfl
    exact run_ran h1 k
  have g1 := fun k => next_call (D := D) (m := m) k [(n : Int)] (F := [tok, callFr 0 0, C]) 0 0 self 1 0 hself hs (by decide) (by omega) (by show (3 : Nat) < 128; decide)
  have gw : ∀ (J : Ins) (st : List Int) (k : Nat), M.run D (k + 1) (({ m with I := J } : M).go 0 0 st [tok]) = ((3, 6, 0), ({ m with I := J } : M).go 0 0 st [tok]) := fun J st k => by
    refine run_stop ?_ (show (3 : Int) ≠ 1 from by decide) k
    unfold M.step
    rw [if_neg (by simp [M.go]), if_pos (.inl rfl)]
    rfl
  by_cases h124 : n ≤ 124
  · refine ⟨[0, 0], m.I, ?_, rfl, fun _ => rfl, fun g => absurd g (by omega)⟩
    have g2 := deep_all hA h28 h5 hs he d28 d5 n 3 [tok, callFr 0 0, C] 0 0 (by show 3 + n ≤ 127; omega)
    have h3 : (m.go 0 0 [0] [tok, callFr 0 0, C]).step D = (ran, m.go 0 0 [0, 0] [tok, callFr 0 0]) := by
      unfold M.step
      have ht : topF (m.go 0 0 [0] [tok, callFr 0 0, C]).fr = C := rfl
      rw [if_neg (by simp [M.go]), ht, if_neg (by rw [hCk]; decide), if_pos (show (m.go 0 0 [0] [tok, callFr 0 0, C]).df = 0 from rfl)]
      unfold M.returns
      rw [ht, if_neg (by simp [M.go, M.fk]), if_neg (by rw [hCk]; decide), if_pos hCk]
      rfl
    have g3 := run_ran h3 2
    have g4 := go_back (D := D) (m := m) 1 [0, 0] (F := [tok]) (f := callFr 0 0) rfl
    have g5 := gw m.I [0, 0] 0
    exact run_le (n := 3 + (6 * n + 4) + 1 + 1) ((g0 _).trans ((g1 _).trans (g2.trans (g3.trans (g4.trans g5))))) (show (3 : Int) ≠ 1 from by decide) (by omega)
  · obtain ⟨R, hR1, hR2, a', b', g2⟩ := deep_some hA h28 h5 hs he d28 d5 124 6 [tok, callFr 0 0, C] 0 0 (n : Int) (by show 3 + 124 ≤ 127; decide) (by omega) (by omega)
    have g3 := deep_ask hA h28 d28 4 ([tok, callFr 0 0, C] ++ R) a' b' ((n : Int) - (124 : Nat))
    rw [if_neg (by omega)] at g3
    have hRd : NoRead ([tok, callFr 0 0, C] ++ R ++ [callFr a' b']) := by unfold NoRead; rw [topF_app]; exact ⟨show (1 : Int) ≠ 6 from by decide, show (1 : Int) ≠ 7 from by decide⟩
    have g4 := go_prim (D := D) hA (by decide) hRd 3 2 [(n : Int) - (124 : Nat)] 0 5 5 0 [wrap64 ((n : Int) - (124 : Nat) - 1)] rfl h5 (d5 _)
    have hw : wrap64 ((n : Int) - (124 : Nat) - 1) = (n : Int) - 125 := by unfold wrap64; omega
    rw [hw] at g4
    have h5' : (m.go 1 ((2 + 1 : Nat) : Int) [(n : Int) - 125] ([tok, callFr 0 0, C] ++ R ++ [callFr a' b'])).step D =
        (ran, ({ m with I := backI m.I C.b C.x } : M).go 0 0 [(n : Int) - 125, -5] [tok, callFr 0 0]) := by
      rw [go_step (D := D) hA (by decide) hRd 3 [(n : Int) - 125] 2 self 0 rfl]
      show M.execute D _ self = _
      unfold M.execute
      rw [show (m.go 1 ((3 + 1 : Nat) : Int) [(n : Int) - 125] ([tok, callFr 0 0, C] ++ R ++ [callFr a' b'])).word self = some (5, 1, 0) from hs]
      dsimp only
      rw [if_neg (by decide), if_pos rfl]
      unfold M.call
      rw [if_neg (by show ¬ ((1 : Int) < 1 ∨ (m.ends.length : Int) < 1); omega)]
      have hpf : ∀ f, (m.go 1 ((3 + 1 : Nat) : Int) [(n : Int) - 125] ([tok, callFr 0 0, C] ++ R ++ [callFr a' b'])).pushFr f = (-5, m.go 1 ((3 + 1 : Nat) : Int) [(n : Int) - 125] ([tok, callFr 0 0, C] ++ R ++ [callFr a' b'])) := fun f =>
        if_neg (by show ¬ (([tok, callFr 0 0, C] ++ R ++ [callFr a' b'] : List Fr).length < 128); rw [List.length_append, List.length_append, hR1]; show ¬ (3 + 124 + 1 < 128); decide)
      rw [hpf]
      dsimp only
      rw [if_neg (by decide)]
      have hcat : catchF (m.go 1 ((3 + 1 : Nat) : Int) [(n : Int) - 125] ([tok, callFr 0 0, C] ++ R ++ [callFr a' b'])).fr = some (C, [tok, callFr 0 0]) := by
        show catchF ([tok, callFr 0 0, C] ++ R ++ [callFr a' b']) = _
        rw [show ([tok, callFr 0 0, C] ++ R ++ [callFr a' b'] : List Fr) = [tok, callFr 0 0] ++ C :: (R ++ [callFr a' b']) by simp]
        refine catchF_last hCk fun f hf => ?_
        rcases List.mem_append.1 hf with hf | hf
        · rw [hR2 f hf]; decide
        · simp at hf; subst hf; exact show (1 : Int) ≠ 5 from by decide
      have hd : M.done (-5, m.go 1 ((3 + 1 : Nat) : Int) [(n : Int) - 125] ([tok, callFr 0 0, C] ++ R ++ [callFr a' b'])) = M.throw _ (-5) := if_neg (show ¬ ((-5 : Int) = 0) from by decide)
      rw [hd, throw_some hcat, hCa]
      rfl
    refine ⟨[(n : Int) - 125, -5], backI m.I C.b C.x, ?_, rfl, fun g => absurd g h124, fun _ => rfl⟩
    have g5 := run_ran h5' 2
    have g6 := go_back (D := D) (m := { m with I := backI m.I C.b C.x }) 1 [(n : Int) - 125, -5] (F := [tok]) (f := callFr 0 0) rfl
    have g7 := gw (backI m.I C.b C.x) [(n : Int) - 125, -5] 0
    exact run_le (n := 6 + 4 * 124 + 1 + 1) ((g0 _).trans ((g1 _).trans (g2.trans (g3.trans (g4.trans (g5.trans (g6.trans g7))))))) (show (3 : Int) ≠ 1 from by decide) (by decide)
end
end En
end Go.Proofs.YtdokeddjcpnmiaaGreatDoor

/- EngineCatches, plain: a code that is thrown is caught. -/
namespace Go.Proofs.YtdokeddjcpnmiaaGreatDoor
open Go.RowKit
namespace En

theorem stCut_app (st r : List Int) (h : st.length ≤ 128) : stCut st.length (st ++ r) = st := by
  unfold stCut
  rw [show (min (max (st.length : Int) 0) 128).toNat = st.length by omega, List.append_assoc, List.take_left]
section
variable {D : Int → PS → Int × PS} {m : M} {n : Int} {L : List (Int × Int × Int)} (hA : DefAt m n L) (hn : n ≠ 0)
include hA hn
theorem go_throw {F r : List Fr} {C : Fr} (hF : NoRead F) (hc : catchF F = some (C, r)) (k : Nat) (o : Nat) (st st' : List Int) (w xt v e : Int) (ho : L[o]? = some (2, xt, w)) (hw : m.word xt = some (2, 9, v)) (he : e ≠ 0) (hs : stCut C.a st = st') (hl : st'.length < 128) :
    M.run D (k + 1) (m.go n o (st ++ [e]) F) = M.run D k (({ m with I := backI m.I C.b C.x } : M).go 0 0 (st' ++ [e]) r) := by
  refine run_ran ((go_step hA hn hF o (st ++ [e]) 2 xt w ho).trans ((exec_ctl (m.go n ((o + 1 : Nat) : Int) (st ++ [e]) F) xt 9 v hw).trans ?_)) k
  show (if (st ++ [e]) = [] then M.throw _ (-4) else M.done ((st ++ [e]).getLastD 0, { m.go n ((o + 1 : Nat) : Int) (st ++ [e]) F with S := { m.S with st := (st ++ [e]).dropLast } })) = _
  rw [if_neg (by simp), show (st ++ [e]).dropLast = st by simp, show (st ++ [e]).getLastD 0 = e by simp]
  rw [show M.done (e, ({ m.go n ((o + 1 : Nat) : Int) (st ++ [e]) F with S := { m.S with st := st } } : M)) = M.throw _ e from if_neg he]
  rw [throw_some (show catchF (({ m.go n ((o + 1 : Nat) : Int) (st ++ [e]) F with S := { m.S with st := st } } : M)).fr = some (C, r) from hc)]
  have hp : pushS { m.S with st := stCut C.a st } e = (0, { m.S with st := st' ++ [e] }) := by
    rw [hs]
    unfold pushS
    rw [if_pos hl]
  show (ran, ({ m.go n ((o + 1 : Nat) : Int) (st ++ [e]) F with df := 0, on := 0, nx := 0, fr := r, S := (pushS { m.S with st := stCut C.a st } e).2, I := backI m.I C.b C.x } : M)) = _
  rw [hp]
  rfl
theorem lits_run {F : List Fr} (hF : NoRead F) (w : Int) : ∀ (j : Nat) (pre post : List (Int × Int × Int)) (st : List Int), L = pre ++ (List.replicate j ((1 : Int), (0 : Int), w) ++ post) → st.length + j ≤ 100 → ∀ k,
    M.run D (k + j) (m.go n pre.length st F) = M.run D k (m.go n ((pre.length + j : Nat) : Int) (st ++ List.replicate j w) F)
  | 0, pre, post, st, _, _, k => by simp
  | j + 1, pre, post, st, hL, hs, k => by
    have hg : L[pre.length + 0]? = some (1, 0, w) := by rw [hL]; exact get_pre rfl
    have g1 := go_lit (D := D) hA hn hF (k + j) pre.length st 0 w hg (by omega)
    have hlen : (pre ++ [((1 : Int), (0 : Int), w)]).length = pre.length + 1 := by simp
    have g2 := lits_run hF w j (pre ++ [((1 : Int), (0 : Int), w)]) post (st ++ [w]) (by rw [hL, List.append_assoc, List.replicate_succ]; rfl) (by simp; omega) k
    rw [hlen] at g2
    rw [← Nat.add_assoc k j 1]
    refine g1.trans (g2.trans ?_)
    congr 2
    · omega
    · simp [List.replicate_succ]
theorem rs_run (xt : Int) (hw : m.word xt = some (2, 1, 0)) (w : Int) : ∀ (j : Nat) (pre post : List (Int × Int × Int)) (F : List Fr) (st : List Int), L = pre ++ ((List.replicate j [((1 : Int), (0 : Int), w), (2, xt, 0)]).flatten ++ post) → NoRead F → F.length + j ≤ 100 → st.length < 100 → ∀ k,
    M.run D (k + 2 * j) (m.go n pre.length st F) = M.run D k (m.go n ((pre.length + 2 * j : Nat) : Int) st (F ++ List.replicate j (cellFr w)))
  | 0, pre, post, F, st, _, _, _, _, k => by simp
  | j + 1, pre, post, F, st, hL, hF, hf, hs, k => by
    have hg : ∀ i x, ([((1 : Int), (0 : Int), w), (2, xt, 0)] ++ ((List.replicate j [((1 : Int), (0 : Int), w), (2, xt, 0)]).flatten ++ post))[i]? = some x → L[pre.length + i]? = some x := fun i x hx => by
      rw [hL]
      refine get_pre ?_
      rw [List.replicate_succ]
      exact hx
    have g1 := go_lit (D := D) hA hn hF (k + 2 * j + 1) pre.length st 0 w (hg 0 _ rfl) (by omega)
    have g2 := go_toR (D := D) hA hn hF (k + 2 * j) (pre.length + 1) st 0 xt 0 w (hg 1 _ rfl) hw (by omega)
    have hlen : (pre ++ [((1 : Int), (0 : Int), w), (2, xt, 0)]).length = pre.length + 2 := by simp
    have g3 := rs_run xt hw w j (pre ++ [((1 : Int), (0 : Int), w), (2, xt, 0)]) post (F ++ [cellFr w]) st (by rw [hL, List.append_assoc, List.replicate_succ]; rfl) (by unfold NoRead; rw [topF_app]; exact ⟨show (2 : Int) ≠ 6 from by decide, show (2 : Int) ≠ 7 from by decide⟩) (by rw [List.length_append]; simp; omega) hs k
    rw [hlen] at g3
    rw [show k + 2 * (j + 1) = k + 2 * j + 1 + 1 by omega]
    refine g1.trans (g2.trans (g3.trans ?_))
    congr 2
    · omega
    · simp [List.replicate_succ]
end
theorem wait_tok {D : Int → PS → Int × PS} {m : M} (st : List Int) (k : Nat) : M.run D (k + 1) (m.go 0 0 st [tok]) = ((3, 6, 0), m.go 0 0 st [tok]) := by
  refine run_stop ?_ (show (3 : Int) ≠ 1 from by decide) k
  unfold M.step
  rw [if_neg (by simp [M.go]), if_pos (.inl rfl)]
  rfl
/-- what the law lays down -/
def catchL (n1 n2 : Nat) (code : Int) : List (Int × Int × Int) :=
  if code = 0 then [(15, 0, 0)] else (List.replicate n1 [((1 : Int), (0 : Int), (1 : Int)), (2, 1, 0)]).flatten ++ (List.replicate n2 ((1 : Int), (0 : Int), (2 : Int)) ++ [(1, 0, code), (2, 2, 0), (15, 0, 0)])
theorem flat_len (n1 : Nat) (x y : Int × Int × Int) : (List.replicate n1 [x, y]).flatten.length = 2 * n1 := by
  induction n1 with
  | zero => rfl
  | succ n ih =>
    rw [List.replicate_succ, List.flatten_cons, List.length_append, ih]
    show 2 + 2 * n = 2 * (n + 1)
    omega
/-- THE LAW, plain -/
theorem catch_law {D : Int → PS → Int × PS} {m : M} (n1 n2 : Nat) (code : Int) (h1 : n1 ≤ 30) (h2 : n2 ≤ 30) (hA : DefAt m 1 (catchL n1 n2 code)) (he : 1 ≤ m.ends.length) (x : Int) (hx : x ≠ 0) (hw : m.word x = some (5, 1, 0)) (w1 : m.word 1 = some (2, 1, 0)) (w2 : m.word 2 = some (2, 9, 0))
    (st : List Int) (hs : st.length ≤ 20) (B X : Int) :
    M.run D 200 { m.go 0 0 st [tok, callFr 0 0, ⟨5, st.length, B, X, 0, []⟩] with nx := x } = ((3, 6, 0), (if code = 0 then m else { m with I := backI m.I B X }).go 0 0 (st ++ [code]) [tok]) := by
  obtain ⟨C, hC⟩ : ∃ C : Fr, (⟨5, st.length, B, X, 0, []⟩ : Fr) = C := ⟨_, rfl⟩
  have hCk : C.k = 5 := by rw [← hC]
  have hCa : C.a = st.length := by rw [← hC]
  have hCb : C.b = B := by rw [← hC]
  have hCx : C.x = X := by rw [← hC]
  rw [hC]
  have g0 := fun k => next_call (D := D) (m := m) k st (F := [tok, callFr 0 0, C]) 0 0 x 1 0 hx hw (by decide) (by omega) (by show (3 : Nat) < 128; decide)
  have hF : NoRead ([tok, callFr 0 0, C] ++ [callFr 0 0]) := by unfold NoRead; rw [topF_app]; exact ⟨show (1 : Int) ≠ 6 from by decide, show (1 : Int) ≠ 7 from by decide⟩
  by_cases hc : code = 0
  · rw [if_pos hc]
    subst hc
    have hL : catchL n1 n2 0 = [(15, 0, 0)] := rfl
    rw [hL] at hA
    have g1 := go_exit (D := D) hA (by decide) hF 4 0 st 0 0 rfl (by rw [topF_app]; exact show (1 : Int) ≠ 4 from by decide)
    have g2 := go_back (D := D) (m := m) 3 st (F := [tok, callFr 0 0, C]) (f := callFr 0 0) rfl
    have h3 : (m.go 0 0 st [tok, callFr 0 0, C]).step D = (ran, m.go 0 0 (st ++ [0]) [tok, callFr 0 0]) := by
      unfold M.step
      have ht : topF (m.go 0 0 st [tok, callFr 0 0, C]).fr = C := rfl
      rw [if_neg (by simp [M.go]), ht, if_neg (by rw [hCk]; decide), if_pos (show (m.go 0 0 st [tok, callFr 0 0, C]).df = 0 from rfl)]
      unfold M.returns
      rw [ht, if_neg (by simp [M.go, M.fk]), if_neg (by rw [hCk]; decide), if_pos hCk]
      have hp : (m.go 0 0 st [tok, callFr 0 0, C]).push 0 = (0, m.go 0 0 (st ++ [0]) [tok, callFr 0 0, C]) := by
        unfold M.push pushS
        rw [if_pos (show (m.go 0 0 st [tok, callFr 0 0, C]).S.st.length < 128 by show st.length < 128; omega)]
        rfl
      rw [hp]
      rfl
    have g3 := run_ran h3 2
    have g4 := go_back (D := D) (m := m) 1 (st ++ [0]) (F := [tok]) (f := callFr 0 0) rfl
    have g5 := wait_tok (D := D) (m := m) (st ++ [0]) 0
    exact run_le (n := 5 + 1) ((g0 _).trans (g1.trans (g2.trans (g3.trans (g4.trans g5))))) (show (3 : Int) ≠ 1 from by decide) (by decide)
  · rw [if_neg hc]
    have hL : catchL n1 n2 code = (List.replicate n1 [((1 : Int), (0 : Int), (1 : Int)), (2, 1, 0)]).flatten ++ (List.replicate n2 ((1 : Int), (0 : Int), (2 : Int)) ++ [(1, 0, code), (2, 2, 0), (15, 0, 0)]) := if_neg hc
    rw [hL] at hA
    have g1 := rs_run (D := D) hA (by decide) 1 w1 1 n1 [] _ ([tok, callFr 0 0, C] ++ [callFr 0 0]) st rfl hF (by show 4 + n1 ≤ 100; omega) (by omega) (4 + n2)
    have hF2 : NoRead ([tok, callFr 0 0, C] ++ [callFr 0 0] ++ List.replicate n1 (cellFr 1)) := by
      unfold NoRead
      rcases Nat.eq_zero_or_pos n1 with h0 | h0
      · subst h0
        rw [List.replicate_zero, List.append_nil]
        exact hF
      · obtain ⟨j, rfl⟩ : ∃ j, n1 = j + 1 := ⟨n1 - 1, by omega⟩
        rw [List.replicate_succ', ← List.append_assoc, topF_app]
        exact ⟨show (2 : Int) ≠ 6 from by decide, show (2 : Int) ≠ 7 from by decide⟩
    have g2 := lits_run (D := D) hA (by decide) hF2 2 n2 (List.replicate n1 [((1 : Int), (0 : Int), (1 : Int)), (2, 1, 0)]).flatten _ st rfl (by omega) 4
    have hg : ∀ i y, ([((1 : Int), (0 : Int), code), (2, 2, 0), (15, 0, 0)])[i]? = some y → ((List.replicate n1 [((1 : Int), (0 : Int), (1 : Int)), (2, 1, 0)]).flatten ++ (List.replicate n2 ((1 : Int), (0 : Int), (2 : Int)) ++ [((1 : Int), (0 : Int), code), (2, 2, 0), (15, 0, 0)]))[2 * n1 + n2 + i]? = some y := fun i y hy => by
      have e1 : 2 * n1 + n2 + i = (List.replicate n1 [((1 : Int), (0 : Int), (1 : Int)), (2, 1, 0)]).flatten.length + ((List.replicate n2 ((1 : Int), (0 : Int), (2 : Int))).length + i) := by rw [flat_len, List.length_replicate]; omega
      rw [e1]
      exact get_pre (get_pre hy)
    have g3 := go_lit (D := D) hA (by decide) hF2 3 (2 * n1 + n2) (st ++ List.replicate n2 2) 0 code (hg 0 _ rfl) (by simp; omega)
    have hcat : catchF ([tok, callFr 0 0, C] ++ [callFr 0 0] ++ List.replicate n1 (cellFr 1)) = some (C, [tok, callFr 0 0]) := by
      rw [show ([tok, callFr 0 0, C] ++ [callFr 0 0] ++ List.replicate n1 (cellFr 1) : List Fr) = [tok, callFr 0 0] ++ C :: (callFr 0 0 :: List.replicate n1 (cellFr 1)) by simp]
      refine catchF_last hCk fun f hf => ?_
      rcases List.mem_cons.1 hf with rfl | hf
      · exact show (1 : Int) ≠ 5 from by decide
      · rw [List.eq_of_mem_replicate hf]; exact show (2 : Int) ≠ 5 from by decide
    have g4 := go_throw (D := D) hA (by decide) hF2 hcat 2 (2 * n1 + n2 + 1) (st ++ List.replicate n2 2) st 0 2 0 code (hg 1 _ rfl) w2 hc (by rw [hCa]; exact stCut_app st _ (by omega)) (by omega)
    rw [hCb, hCx] at g4
    have g5 := go_back (D := D) (m := { m with I := backI m.I B X }) 1 (st ++ [code]) (F := [tok]) (f := callFr 0 0) rfl
    have g6 := wait_tok (D := D) (m := { m with I := backI m.I B X }) (st ++ [code]) 0
    rw [flat_len] at g2
    simp only [List.length_nil, Nat.zero_add] at g1
    exact run_le (n := 4 + n2 + 2 * n1 + 1) ((g0 _).trans (g1.trans (g2.trans (g3.trans (g4.trans (g5.trans g6)))))) (show (3 : Int) ≠ 1 from by decide) (by omega)
end En
end Go.Proofs.YtdokeddjcpnmiaaGreatDoor

/- EngineLocals, plain: locals are the cells that were there; each call has its own. -/
namespace Go.Proofs.YtdokeddjcpnmiaaGreatDoor
open Go.RowKit
namespace En

def locFr (l : List Int) : Fr := ⟨4, 0, 0, 0, 0, l⟩
theorem noread_loc (F : List Fr) (l : List Int) : NoRead (F ++ [locFr l]) := by
  unfold NoRead
  rw [topF_app]
  exact ⟨show (4 : Int) ≠ 6 from by decide, show (4 : Int) ≠ 7 from by decide⟩
theorem locals_app (F : List Fr) (l : List Int) : locals (F ++ [locFr l]).reverse = some F.length := by
  rw [List.reverse_append]
  show locals (locFr l :: F.reverse) = _
  unfold locals
  rw [if_pos (show (locFr l).k = 4 from rfl), List.length_reverse]
theorem get_app (F : List Fr) (f : Fr) : (F ++ [f]).getD F.length .none = f := by
  rw [List.getD_eq_getElem?_getD, List.getElem?_append_right (Nat.le_refl _), Nat.sub_self]
  rfl
theorem set_app (F : List Fr) (f g : Fr) : (F ++ [f]).set F.length g = F ++ [g] := by
  rw [List.set_append_right _ _ (Nat.le_refl _), Nat.sub_self]
  rfl
section
variable {D : Int → PS → Int × PS} {m : M} {n : Int} {L : List (Int × Int × Int)} (hA : DefAt m n L) (hn : n ≠ 0) {F : List Fr} (k : Nat) (o : Nat) (st : List Int)
include hA hn
theorem go_locals (hF : NoRead F) (l : List Int) (w : Int) (ho : L[o]? = some (12, ((l.length : Nat) : Int), w)) (hf : F.length < 128) : M.run D (k + 1) (m.go n o (st ++ l) F) = M.run D k (m.go n ((o + 1 : Nat) : Int) st (F ++ [locFr l])) := by
  refine run_ran ((go_step hA hn hF o (st ++ l) 12 _ w ho).trans ?_) k
  show (({ m.fk F with df := n, on := ((o + 1 : Nat) : Int), nx := 0 } : M).sk (st ++ l)).with_ l.length (fun l m => m.pushFr ⟨4, 0, 0, 0, 0, l⟩) = _
  refine with_ok _ st l.length _ l rfl _ ?_
  show M.pushFr _ _ = _
  unfold M.pushFr
  exact if_pos hf
theorem go_local (l : List Int) (i : Nat) (v w : Int) (hi : l[i]? = some v) (ho : L[o]? = some (13, ((i : Nat) : Int), w)) (hs : st.length < 128) : M.run D (k + 1) (m.go n o st (F ++ [locFr l])) = M.run D k (m.go n ((o + 1 : Nat) : Int) (st ++ [v]) (F ++ [locFr l])) := by
  refine run_ran ((go_step hA hn (noread_loc F l) o st 13 _ w ho).trans ?_) k
  have hil := (List.getElem?_eq_some_iff.1 hi).1
  have key : (m.go n ((o + 1 : Nat) : Int) st (F ++ [locFr l])).does D 13 (i : Nat) w = (match locals (F ++ [locFr l]).reverse with
    | none => M.throw (m.go n ((o + 1 : Nat) : Int) st (F ++ [locFr l])) (-6)
    | some j => if 0 ≤ ((i : Nat) : Int) ∧ ((i : Nat) : Int) < ((F ++ [locFr l]).getD j .none).l.length then M.done ((m.go n ((o + 1 : Nat) : Int) st (F ++ [locFr l])).push (((F ++ [locFr l]).getD j .none).l.getD ((i : Nat) : Int).toNat 0)) else M.throw (m.go n ((o + 1 : Nat) : Int) st (F ++ [locFr l])) (-6)) := rfl
  rw [key, locals_app]
  dsimp only
  rw [get_app, if_pos ⟨by omega, by show (i : Int) < l.length; omega⟩, Int.toNat_natCast]
  rw [show (locFr l).l.getD i 0 = v by show l.getD i 0 = v; rw [List.getD_eq_getElem?_getD, hi]; rfl]
  unfold M.push pushS
  rw [if_pos (show (m.go n ((o + 1 : Nat) : Int) st (F ++ [locFr l])).S.st.length < 128 from hs)]
  rfl
theorem go_to (l : List Int) (i : Nat) (x w : Int) (hi : i < l.length) (ho : L[o]? = some (14, ((i : Nat) : Int), w)) : M.run D (k + 1) (m.go n o (st ++ [x]) (F ++ [locFr l])) = M.run D k (m.go n ((o + 1 : Nat) : Int) st (F ++ [locFr (l.set i x)])) := by
  refine run_ran ((go_step hA hn (noread_loc F l) o (st ++ [x]) 14 _ w ho).trans ?_) k
  have key : (m.go n ((o + 1 : Nat) : Int) (st ++ [x]) (F ++ [locFr l])).does D 14 (i : Nat) w = (({ m.fk (F ++ [locFr l]) with df := n, on := ((o + 1 : Nat) : Int), nx := 0 } : M).sk (st ++ [x])).with_ (1 : Nat) (fun l m => match locals m.fr.reverse with
    | none => (-6, m)
    | some j => if 0 ≤ ((i : Nat) : Int) ∧ ((i : Nat) : Int) < (m.fr.getD j .none).l.length then (0, { m with fr := m.fr.set j { m.fr.getD j .none with l := (m.fr.getD j .none).l.set ((i : Nat) : Int).toNat (l.getD 0 0) } }) else (-6, m)) := rfl
  rw [key]
  refine with_ok _ st 1 _ [x] rfl _ ?_
  dsimp only
  rw [show (({ m.fk (F ++ [locFr l]) with df := n, on := ((o + 1 : Nat) : Int), nx := 0 } : M).sk st).fr = F ++ [locFr l] from rfl, locals_app]
  dsimp only
  rw [get_app, if_pos ⟨by omega, by show (i : Int) < l.length; omega⟩, Int.toNat_natCast, set_app]
  rfl
theorem go_exit4 (l : List Int) (a w : Int) (ho : L[o]? = some (15, a, w)) : M.run D (k + 1) (m.go n o st (F ++ [locFr l])) = M.run D k (m.go 0 0 st F) := by
  refine run_ran ((go_step hA hn (noread_loc F l) o st 15 a w ho).trans ?_) k
  show (ran, ({ m.go n ((o + 1 : Nat) : Int) st (F ++ [locFr l]) with fr := if (topF (F ++ [locFr l])).k = 4 then (F ++ [locFr l]).dropLast else F ++ [locFr l], df := 0, on := 0 } : M)) = _
  rw [topF_app, if_pos (show (locFr l).k = 4 from rfl), drop_app1]
  rfl
/-- all locals, one by one -/
theorem locals_run (hs : st.length < 50) (l : List Int) (hl : l.length ≤ 40) : ∀ (j : Nat) (i : Nat) (pre post : List (Int × Int × Int)), i + j = l.length → L = pre ++ (((List.range' i j).map fun i => ((13 : Int), ((i : Nat) : Int), (0 : Int))) ++ post) → ∀ k,
    M.run D (k + j) (m.go n pre.length (st ++ l.take i) (F ++ [locFr l])) = M.run D k (m.go n ((pre.length + j : Nat) : Int) (st ++ l) (F ++ [locFr l]))
  | 0, i, pre, post, hij, _, k => by
    rw [List.take_of_length_le (by omega)]
    rfl
  | j + 1, i, pre, post, hij, hL, k => by
    have hg : L[pre.length + 0]? = some (13, ((i : Nat) : Int), 0) := by rw [hL]; exact get_pre rfl
    have hi : i < l.length := by omega
    have g1 := go_local (D := D) hA hn (F := F) (k + j) pre.length (st ++ l.take i) l i l[i] 0 (List.getElem?_eq_getElem hi) hg (by rw [List.length_append, List.length_take]; omega)
    have hlen : (pre ++ [((13 : Int), ((i : Nat) : Int), (0 : Int))]).length = pre.length + 1 := by simp
    have g2 := locals_run hs l hl j (i + 1) (pre ++ [((13 : Int), ((i : Nat) : Int), (0 : Int))]) post (by omega) (by rw [hL, List.append_assoc]; rfl) k
    rw [hlen, show l.take (i + 1) = l.take i ++ [l[i]] by rw [List.take_add_one, List.getElem?_eq_getElem hi]; rfl, ← List.append_assoc] at g2
    rw [← Nat.add_assoc k j 1]
    refine g1.trans (g2.trans ?_)
    congr 2
    omega
end
def innerL : List (Int × Int × Int) := [(12, ((1 : Nat) : Int), 0), (1, 0, 77), (14, ((0 : Nat) : Int), 0), (15, 0, 0)]
def localL (c : Nat) (x : Int) (k : Nat) (inn : Int) : List (Int × Int × Int) := [(12, ((c : Nat) : Int), 0), (1, 0, x), (14, ((k : Nat) : Int), 0), (1, 0, 5), (2, inn, 0)] ++ (((List.range' 0 c).map fun i => ((13 : Int), ((i : Nat) : Int), (0 : Int))) ++ [(15, 0, 0)])
/-- THE LAW, plain -/
theorem locals_law {D : Int → PS → Int × PS} {m : M} (y : List Int) (h1 : 1 ≤ y.length) (h2 : y.length ≤ 16) (k : Nat) (hk : k < y.length) (x inn w : Int) (hI : DefAt m 1 innerL) (hA : DefAt m 2 (localL y.length x k inn)) (he : 2 ≤ m.ends.length)
    (hi : m.word inn = some (5, 1, 0)) (hw : m.word w = some (5, 2, 0)) (hw0 : w ≠ 0) :
    M.run D 200 { m.go 0 0 y [] with nx := w } = ((5, 0, 0), m.go 0 0 (y.set k x) []) := by
  have hc : NoRead ([] ++ [callFr 0 0]) := by unfold NoRead; decide
  have hc2 : ∀ l, NoRead ([] ++ [callFr 0 0] ++ [locFr l] ++ [callFr 2 5]) := fun l => by unfold NoRead; rw [topF_app]; exact ⟨show (1 : Int) ≠ 6 from by decide, show (1 : Int) ≠ 7 from by decide⟩
  have g0 := fun k => next_call (D := D) (m := m) k y (F := []) 0 0 w 2 0 hw0 hw (by decide) (by omega) (by decide)
  have g1 := fun k => go_locals (D := D) hA (by decide) k 0 [] hc y 0 rfl (by decide)
  have g2 := fun k => go_lit (D := D) hA (by decide) (noread_loc ([] ++ [callFr 0 0]) y) k 1 [] 0 x rfl (by decide)
  have g3 := fun j => go_to (D := D) hA (by decide) (F := [] ++ [callFr 0 0]) j 2 [] y k x 0 hk rfl
  have g4 := fun j => go_lit (D := D) hA (by decide) (noread_loc ([] ++ [callFr 0 0]) (y.set k x)) j 3 [] 0 5 rfl (by decide)
  have g5 := fun j => go_call (D := D) hA (by decide) (noread_loc ([] ++ [callFr 0 0]) (y.set k x)) j 4 ([] ++ [5]) 0 inn 1 0 rfl hi (by decide) (by omega) (by simp)
  have i1 := fun j => go_locals (D := D) hI (by decide) j 0 [] (hc2 (y.set k x)) [5] 0 rfl (by simp)
  have i2 := fun j => go_lit (D := D) hI (by decide) (noread_loc ([] ++ [callFr 0 0] ++ [locFr (y.set k x)] ++ [callFr 2 5]) [5]) j 1 [] 0 77 rfl (by decide)
  have i3 := fun j => go_to (D := D) hI (by decide) (F := [] ++ [callFr 0 0] ++ [locFr (y.set k x)] ++ [callFr 2 5]) j 2 [] [5] 0 77 0 (by decide) rfl
  have i4 := fun j => go_exit4 (D := D) hI (by decide) (F := [] ++ [callFr 0 0] ++ [locFr (y.set k x)] ++ [callFr 2 5]) j 3 [] ([5].set 0 77) 0 0 rfl
  have i5 := fun j => go_back (D := D) (m := m) j [] (F := [] ++ [callFr 0 0] ++ [locFr (y.set k x)]) (f := callFr 2 5) rfl
  have hlen : (y.set k x).length = y.length := by simp
  have g6 := fun j => locals_run (D := D) hA (by decide) (F := [] ++ [callFr 0 0]) [] (by decide) (y.set k x) (by omega) y.length 0 [(12, ((y.length : Nat) : Int), 0), (1, 0, x), (14, ((k : Nat) : Int), 0), (1, 0, 5), (2, inn, 0)] [(15, 0, 0)] (by omega) rfl j
  have hend : (localL y.length x k inn)[5 + y.length]? = some (15, 0, 0) := by
    unfold localL
    refine get_pre (pre := [((12 : Int), ((y.length : Nat) : Int), (0 : Int)), (1, 0, x), (14, ((k : Nat) : Int), 0), (1, 0, 5), (2, inn, 0)]) ?_
    simp
  have g7 := fun j => go_exit4 (D := D) hA (by decide) (F := [] ++ [callFr 0 0]) j (5 + y.length) (y.set k x) (y.set k x) 0 0 hend
  have g8 := fun j => go_back (D := D) (m := m) j (y.set k x) (F := []) (f := callFr 0 0) rfl
  have g9 := go_halt (D := D) (m := m) 0 (y.set k x)
  refine run_le (n := 0 + 1 + 1 + 1 + y.length + 1 + 1 + 1 + 1 + 1 + 1 + 1 + 1 + 1 + 1 + 1) ?_ (show (5 : Int) ≠ 1 from by decide) (by omega)
  exact (g0 _).trans ((g1 _).trans ((g2 _).trans ((g3 _).trans ((g4 _).trans ((g5 _).trans ((i1 _).trans ((i2 _).trans ((i3 _).trans ((i4 _).trans ((i5 _).trans ((g6 _).trans ((g7 _).trans ((g8 _).trans g9)))))))))))))
end En
end Go.Proofs.YtdokeddjcpnmiaaGreatDoor

/- EngineLoops, plain: what the loop makes is what the law sums up. -/
namespace Go.Proofs.YtdokeddjcpnmiaaGreatDoor
open Go.RowKit
namespace En

/-- the definition -/
def codeL (q b a c k : Int) : List Int := [1, 0, 1, b, 1, a, q, 0, 28418, 0, 2818, 0, 28418, 0, 1, c, 5378, 0, 2820, 0, 3337, 0, 1, k, 1032, 0, 15, 0]
structure LoopOk (D : Int → PS → Int × PS) (m : M) (q b a c k : Int) : Prop where
  code : m.code = codeL q b a c k
  ends : m.ends = [28]
  wi : m.word 111 = some (2, 4, 0)
  wp : m.word 11 = some (1, 11, 0)
  we : m.word 21 = some (1, 21, 0)
  dp : ∀ st x y, st.length + 2 ≤ 128 → D 11 { m.S with st := st ++ [x, y] } = (0, { m.S with st := st ++ [wrap64 (x + y)] })
  de : ∀ st x y, st.length + 2 ≤ 128 → D 21 { m.S with st := st ++ [x, y] } = (0, { m.S with st := st ++ [truthF (decide (x = y))] })
/-- the engine in it -/
def M.lp (m : M) (o : Int) (st : List Int) (F : List Fr) : M := { (m.sk st).fk F with df := 1, on := o, nx := 0 }
def cal : Fr := ⟨1, 0, 0, 0, 0, []⟩
def lpf (i b : Int) : Fr := ⟨3, 0, 0, i, b, []⟩
theorem lp6 (i b : Int) : (topF [cal, lpf i b]).k ≠ 6 := show (3 : Int) ≠ 6 from by decide
theorem lp7 (i b : Int) : (topF [cal, lpf i b]).k ≠ 7 := show (3 : Int) ≠ 7 from by decide
section
variable {D : Int → PS → Int × PS} {m : M} {q b a c k : Int} (h : LoopOk D m q b a c k)
include h
theorem LoopOk.at_ (o : Nat) (ho : o < 14) (st : List Int) (F : List Fr) : (m.lp o st F).at_ 1 o = some ((codeL q b a c k).getD (2 * o) 0 % 256, (codeL q b a c k).getD (2 * o) 0 / 256, (codeL q b a c k).getD (2 * o + 1) 0) := by
  unfold M.at_ M.begin_
  rw [show (m.lp o st F).ends = [28] from h.ends, show (m.lp o st F).code = codeL q b a c k from h.code]
  rw [if_neg (by
    rintro (h1 | h1 | h1 | h1)
    · omega
    · simp at h1
    · omega
    · have : (([28] : List Int).getD ((1 : Int) - 1).toNat 0 - ((if (1 : Int) = 1 then 0 else (([28] : List Int).getD ((1 : Int) - 2).toNat 0).toNat : Nat) : Int)).tdiv 2 = 14 := by decide
      omega)]
  simp
theorem LoopOk.step (o : Nat) (ho : o < 14) (st : List Int) (F : List Fr) (h6 : (topF F).k ≠ 6) (h7 : (topF F).k ≠ 7) (op x w : Int)
    (he : ((codeL q b a c k).getD (2 * o) 0 % 256, (codeL q b a c k).getD (2 * o) 0 / 256, (codeL q b a c k).getD (2 * o + 1) 0) = (op, x, w)) :
    (m.lp o st F).step D = (m.lp ((o + 1 : Nat) : Int) st F).does D op x w := by
  rw [step_at (m := m.lp o st F) (op := op) (a := x) (w := w) rfl h6 h7 (by simp [M.lp]) (by
    show (m.lp o st F).at_ 1 o = _
    rw [h.at_ o ho st F, he])]
  rfl
theorem LoopOk.lit (o : Nat) (ho : o < 14) (st : List Int) (F : List Fr) (h6 : (topF F).k ≠ 6) (h7 : (topF F).k ≠ 7) (x w : Int) (hs : st.length < 128)
    (he : ((codeL q b a c k).getD (2 * o) 0 % 256, (codeL q b a c k).getD (2 * o) 0 / 256, (codeL q b a c k).getD (2 * o + 1) 0) = (1, x, w)) :
    (m.lp o st F).step D = (ran, m.lp ((o + 1 : Nat) : Int) (st ++ [w]) F) := by
  rw [h.step o ho st F h6 h7 1 x w he]
  exact does_lit { m.fk F with df := 1, on := ((o + 1 : Nat) : Int), nx := 0 } st w x hs
theorem LoopOk.call_i (o : Nat) (ho : o < 14) (st : List Int) (i : Int) (hs : st.length < 128)
    (he : ((codeL q b a c k).getD (2 * o) 0 % 256, (codeL q b a c k).getD (2 * o) 0 / 256, (codeL q b a c k).getD (2 * o + 1) 0) = (2, 111, 0)) :
    (m.lp o st [cal, lpf i b]).step D = (ran, m.lp ((o + 1 : Nat) : Int) (st ++ [i]) [cal, lpf i b]) := by
  rw [h.step o ho st _ (lp6 _ _) (lp7 _ _) 2 111 0 he]
  show (m.lp _ st _).execute D 111 = _
  rw [exec_ctl (m.lp _ st _) 111 4 0 h.wi]
  exact ctl_i { m.fk [cal, lpf i b] with df := 1, on := ((o + 1 : Nat) : Int), nx := 0 } st i b [cal] rfl hs
theorem LoopOk.prim (o : Nat) (ho : o < 14) (st st' : List Int) (F : List Fr) (h6 : (topF F).k ≠ 6) (h7 : (topF F).k ≠ 7) (xt n : Int)
    (he : ((codeL q b a c k).getD (2 * o) 0 % 256, (codeL q b a c k).getD (2 * o) 0 / 256, (codeL q b a c k).getD (2 * o + 1) 0) = (2, xt, 0)) (hw : m.word xt = some (1, n, 0))
    (hD : D n { m.S with st := st } = (0, { m.S with st := st' })) : (m.lp o st F).step D = (ran, m.lp ((o + 1 : Nat) : Int) st' F) := by
  rw [h.step o ho st _ h6 h7 2 xt 0 he]
  show (m.lp _ st _).execute D xt = _
  exact exec_ok { m.fk F with df := 1, on := ((o + 1 : Nat) : Int), nx := 0 } st xt n 0 st' hw hD
/-- to the question -/
theorem LoopOk.ask (n : Nat) (s i : Int) : M.run D (n + 6) (m.lp 4 [s] [cal, lpf i b]) = M.run D n (if i = c then m.lp 10 [wrap64 (s + i)] [cal, lpf i b] else m.lp 11 [wrap64 (s + i)] [cal, lpf i b]) := by
  have g1 := run_ran (h.call_i 4 (by decide) [s] i (by simp) rfl) (n + 5)
  have g2 := run_ran (h.prim 5 (by decide) ([s] ++ [i]) [wrap64 (s + i)] _ (lp6 i b) (lp7 i b) 11 11 rfl h.wp (h.dp [] s i (by simp))) (n + 4)
  have g3 := run_ran (h.call_i 6 (by decide) [wrap64 (s + i)] i (by simp) rfl) (n + 3)
  have g4 := run_ran (h.lit 7 (by decide) ([wrap64 (s + i)] ++ [i]) _ (lp6 i b) (lp7 i b) 0 c (by simp) rfl) (n + 2)
  have g5 := run_ran (h.prim 8 (by decide) ([wrap64 (s + i)] ++ [i] ++ [c]) ([wrap64 (s + i)] ++ [truthF (decide (i = c))]) _ (lp6 i b) (lp7 i b) 21 21 rfl h.we (h.de [wrap64 (s + i)] i c (by simp))) (n + 1)
  refine g1.trans (g2.trans (g3.trans (g4.trans (g5.trans ?_))))
  have hz : (m.lp (9 : Nat) ([wrap64 (s + i)] ++ [truthF (decide (i = c))]) [cal, lpf i b]).step D = (ran, if i = c then m.lp 10 [wrap64 (s + i)] [cal, lpf i b] else m.lp 11 [wrap64 (s + i)] [cal, lpf i b]) := by
    rw [h.step 9 (by decide) _ _ (lp6 _ _) (lp7 _ _) 4 11 0 rfl]
    rw [show (m.lp ((9 + 1 : Nat) : Int) ([wrap64 (s + i)] ++ [truthF (decide (i = c))]) [cal, lpf i b]) = ({ m.fk [cal, lpf i b] with df := 1, on := 10, nx := 0 } : M).sk ([wrap64 (s + i)] ++ [truthF (decide (i = c))]) from rfl, does_zero]
    by_cases hi : i = c
    · rw [if_pos hi, if_neg (by rw [decide_eq_true hi]; decide)]
      rfl
    · rw [if_neg hi, if_pos (by rw [decide_eq_false hi]; decide)]
      rfl
  exact run_ran hz n
theorem LoopOk.left (n : Nat) (s i : Int) : M.run D (n + 1) (m.lp 10 [s] [cal, lpf i b]) = M.run D n (m.lp 13 [s] [cal]) := by
  have hz : (m.lp (10 : Nat) [s] [cal, lpf i b]).step D = (ran, m.lp 13 [s] [cal]) := by
    rw [h.step 10 (by decide) _ _ (lp6 _ _) (lp7 _ _) 9 13 0 rfl]
    rw [does_leave (m.lp ((10 + 1 : Nat) : Int) [s] [cal, lpf i b]) 13 0 (lpf i b) [cal] rfl rfl]
    rfl
  exact run_ran hz n
theorem LoopOk.more (n : Nat) (s i : Int) : M.run D (n + 2) (m.lp 11 [s] [cal, lpf i b]) = M.run D n (if endsF (wrap64 (i - b)) k then m.lp 13 [s] [cal] else m.lp 4 [s] [cal, lpf (wrap64 (i + k)) b]) := by
  have h1 := run_ran (h.lit 11 (by decide) [s] [cal, lpf i b] (lp6 _ _) (lp7 _ _) 0 k (by simp) rfl) (n + 1)
  have hz : (m.lp (12 : Nat) ([s] ++ [k]) [cal, lpf i b]).step D = (ran, if endsF (wrap64 (i - b)) k then m.lp 13 [s] [cal] else m.lp 4 [s] [cal, lpf (wrap64 (i + k)) b]) := by
    rw [h.step 12 (by decide) _ _ (lp6 _ _) (lp7 _ _) 8 4 0 rfl]
    rw [show (m.lp ((12 + 1 : Nat) : Int) ([s] ++ [k]) [cal, lpf i b]) = ({ m.fk [cal, lpf i b] with df := 1, on := 13, nx := 0 } : M).sk ([s] ++ [k]) from rfl, does_plus { m.fk [cal, lpf i b] with df := 1, on := 13, nx := 0 } [s] 4 0 i b k [cal] rfl]
    by_cases he : endsF (wrap64 (i - b)) k = true
    · rw [if_pos he, if_pos he]; rfl
    · rw [if_neg he, if_neg he]; rfl
  exact h1.trans (run_ran hz n)
theorem LoopOk.end_ (n : Nat) (s : Int) : M.run D (n + 3) (m.lp 13 [s] [cal]) = ((5, 0, 0), { m.lp 0 [s] [] with df := 0 }) := by
  have hz : (m.lp (13 : Nat) [s] [cal]).step D = (ran, { m.lp 0 [s] [cal] with df := 0 }) := by
    rw [h.step 13 (by decide) _ _ (by decide) (by decide) 15 0 0 rfl, does_exit (m.lp ((13 + 1 : Nat) : Int) [s] [cal]) 0 0 (show (1 : Int) ≠ 4 from by decide)]
    rfl
  have h1 := run_ran hz (n + 2)
  have hb := step_back (D := D) { m.lp 0 [s] [cal] with df := 0 } (F := []) (f := cal) rfl rfl rfl rfl
  have h2 := run_ran hb (n + 1)
  have hh := step_halt (D := D) ((({ m.lp 0 [s] [cal] with df := 0 } : M).fk []).place cal.a cal.b) rfl rfl rfl
  have h3 := run_stop hh (by decide) n
  exact h1.trans (h2.trans h3)
/-- a round -/
theorem LoopOk.round (n : Nat) (s i : Int) (hi : i ≠ c) : M.run D (n + 8) (m.lp 4 [s] [cal, lpf i b]) = M.run D n (if endsF (wrap64 (i - b)) k then m.lp 13 [wrap64 (s + i)] [cal] else m.lp 4 [wrap64 (s + i)] [cal, lpf (wrap64 (i + k)) b]) := by
  have h1 := h.ask (n + 2) s i
  rw [if_neg hi] at h1
  exact h1.trans (h.more n _ i)
theorem LoopOk.last (n : Nat) (s i : Int) (hi : i = c) : M.run D (n + 10) (m.lp 4 [s] [cal, lpf i b]) = ((5, 0, 0), { m.lp 0 [wrap64 (s + i)] [] with df := 0 }) := by
  have h1 := h.ask (n + 4) s i
  rw [if_pos hi] at h1
  exact h1.trans ((h.left (n + 3) _ i).trans (h.end_ n _))
end
/-- what the law sums up: f rounds at most, at i, so much so far; is it left early? -/
def wantG (e b k : Int) : Nat → Int → Int → Int × Bool
  | 0, _, s => (s, false)
  | f + 1, i, s =>
    if e ≠ 0 ∧ (200 : Int) - (f + 1 : Nat) = e then (wrap64 (s + i), true)
    else if i < b ∧ i + k ≥ b then (wrap64 (s + i), false)
    else wantG e b k f (i + k) (wrap64 (s + i))
/-- it comes to an end in so many rounds -/
def brk (e b k : Int) : Nat → Int → Prop
  | 0, _ => False
  | f + 1, i => (e ≠ 0 ∧ (200 : Int) - (f + 1 : Nat) = e) ∨ (i < b ∧ i + k ≥ b) ∨ brk e b k f (i + k)
theorem ends_of (i b k : Int) (hi : -100000 ≤ i ∧ i ≤ 100000) (hb : -100 ≤ b ∧ b ≤ 100) (hk : 1 ≤ k ∧ k ≤ 5) : endsF (wrap64 (i - b)) k = decide (i < b ∧ i + k ≥ b) := by
  unfold endsF
  rw [show wrap64 (i - b) = i - b by unfold wrap64; omega, show wrap64 (i - b + k) = i - b + k by unfold wrap64; omega]
  rw [decide_eq_true (by omega : k ≥ 0)]
  by_cases h1 : i < b
  · rw [decide_eq_true (by omega : i - b < 0)]
    by_cases h2 : i + k ≥ b
    · rw [decide_eq_false (by omega : ¬ i - b + k < 0), decide_eq_true (⟨h1, h2⟩ : i < b ∧ i + k ≥ b)]; rfl
    · rw [decide_eq_true (by omega : i - b + k < 0), decide_eq_false (fun h => h2 h.2 : ¬ (i < b ∧ i + k ≥ b))]; rfl
  · rw [decide_eq_false (by omega : ¬ i - b < 0), decide_eq_false (fun h => h1 h.1 : ¬ (i < b ∧ i + k ≥ b))]; rfl
section
variable {D : Int → PS → Int × PS} {m : M} {q b a c k e : Int} (h : LoopOk D m q b a c k)
include h
theorem loop_want (hb : -100 ≤ b ∧ b ≤ 100) (ha : -100 ≤ a ∧ a ≤ 100) (hk : 1 ≤ k ∧ k ≤ 5) (he : 0 ≤ e ∧ e ≤ 8) (hc : c = if e = 0 then -1000 else a + e * k) :
    ∀ (f : Nat) (i s : Int), f ≤ 200 → i = a + (200 - f) * k → brk e b k f i → ∃ s', (wantG e b k f i s).1 = s' ∧ M.run D (8 * f + 11) (m.lp 4 [s] [cal, lpf i b]) = ((5, 0, 0), { m.lp 0 [s'] [] with df := 0 })
  | 0, _, _, _, _, hbr => hbr.elim
  | f + 1, i, s, hf, hi, hbr => by
    have hkm : ((200 : Int) - (f + 1 : Nat)) * k ≤ 1000 ∧ 0 ≤ ((200 : Int) - (f + 1 : Nat)) * k := by
      have h1 : 0 ≤ (200 : Int) - (f + 1 : Nat) := by omega
      have h2 : ((200 : Int) - (f + 1 : Nat)) * k ≤ 200 * k := Int.mul_le_mul_of_nonneg_right (by omega) (by omega)
      have h3 : 0 ≤ ((200 : Int) - (f + 1 : Nat)) * k := Int.mul_nonneg h1 (by omega)
      omega
    have hib : -100000 ≤ i ∧ i ≤ 100000 := by omega
    have hE := ends_of i b k hib hb hk
    have hic : i = c ↔ (e ≠ 0 ∧ (200 : Int) - (f + 1 : Nat) = e) := by
      rw [hc, hi]
      by_cases h0 : e = 0
      · rw [if_pos h0]
        exact ⟨fun g => by omega, fun g => absurd h0 g.1⟩
      · rw [if_neg h0]
        refine ⟨fun g => ⟨h0, ?_⟩, fun g => by rw [g.2]⟩
        have : ((200 : Int) - (f + 1 : Nat)) * k = e * k := by omega
        exact Int.eq_of_mul_eq_mul_right (by omega) this
    by_cases h1 : e ≠ 0 ∧ (200 : Int) - (f + 1 : Nat) = e
    · refine ⟨wrap64 (s + i), ?_, ?_⟩
      · show (if e ≠ 0 ∧ (200 : Int) - (f + 1 : Nat) = e then _ else _ : Int × Bool).1 = _
        rw [if_pos h1]
      · exact run_le (h.last 0 s i (hic.2 h1)) (show (5 : Int) ≠ 1 from by decide) (by omega)
    · have hne : i ≠ c := fun g => h1 (hic.1 g)
      by_cases h2 : i < b ∧ i + k ≥ b
      · refine ⟨wrap64 (s + i), ?_, ?_⟩
        · show (if e ≠ 0 ∧ (200 : Int) - (f + 1 : Nat) = e then _ else if i < b ∧ i + k ≥ b then _ else _ : Int × Bool).1 = _
          rw [if_neg h1, if_pos h2]
        · have hr := h.round 3 s i hne
          rw [hE, decide_eq_true h2, if_pos rfl] at hr
          exact run_le (hr.trans (h.end_ 0 _)) (show (5 : Int) ≠ 1 from by decide) (by omega)
      · have hbr' : brk e b k f (i + k) := by
          rcases hbr with g | g | g
          · exact absurd g h1
          · exact absurd g h2
          · exact g
        obtain ⟨s', hs, hrun⟩ := loop_want hb ha hk he hc f (i + k) (wrap64 (s + i)) (by omega) (by
          rw [hi, show (200 : Int) - (f : Nat) = ((200 : Int) - (f + 1 : Nat)) + 1 by omega, Int.add_mul]; omega) hbr'
        refine ⟨s', ?_, ?_⟩
        · show (if e ≠ 0 ∧ (200 : Int) - (f + 1 : Nat) = e then _ else if i < b ∧ i + k ≥ b then _ else wantG e b k f (i + k) (wrap64 (s + i)) : Int × Bool).1 = _
          rw [if_neg h1, if_neg h2]
          exact hs
        · have hr := h.round (8 * f + 11) s i hne
          rw [hE, decide_eq_false h2, if_neg (by decide), show wrap64 (i + k) = i + k by unfold wrap64; omega] at hr
          rw [show 8 * (f + 1) + 11 = 8 * f + 11 + 8 by omega]
          exact hr.trans hrun
/-- one that never comes to an end goes on -/
theorem loop_on (hb : -100 ≤ b ∧ b ≤ 100) (hk : 1 ≤ k ∧ k ≤ 5) (hc : c = -1000) (n : Nat) : ∀ (i s : Int), b ≤ i → i ≤ 10000 - 5 * n → (M.run D (8 * n) (m.lp 4 [s] [cal, lpf i b])).1.1 = 1 := by
  induction n with
  | zero => intro _ _ _ _; rfl
  | succ n ih =>
    intro i s h1 h2
    have hE := ends_of i b k (by omega) hb hk
    have hr := h.round (8 * n) s i (by omega)
    rw [hE, decide_eq_false (by omega), if_neg (by decide), show wrap64 (i + k) = i + k by unfold wrap64; omega] at hr
    rw [show 8 * (n + 1) = 8 * n + 8 by omega, hr]
    exact ih (i + k) _ (by omega) (by omega)
end
theorem brk_less (e b k : Int) (hk : 1 ≤ k) : ∀ (f : Nat) (i : Int), i < b → b - i ≤ f → brk e b k f i
  | 0, i, h1, h2 => absurd h1 (by omega)
  | f + 1, i, h1, h2 => by
    by_cases h3 : i + k ≥ b
    · exact .inr (.inl ⟨h1, h3⟩)
    · exact .inr (.inr (brk_less e b k hk f (i + k) (by omega) (by omega)))
theorem brk_early (e b k : Int) (he : 1 ≤ e) (h2 : e < 200) (f : Nat) : ∀ (i : Int), 200 - (f : Int) ≤ e → brk e b k f i := by
  induction f with
  | zero => intro i h1; exact absurd h1 (by omega)
  | succ f ih =>
    intro i h1
    by_cases h3 : (200 : Int) - (f + 1 : Nat) = e
    · exact .inl ⟨by omega, h3⟩
    · exact .inr (.inr (ih (i + k) (by omega)))
section
variable {D : Int → PS → Int × PS} {m : M} {q b a c k e : Int} (h : LoopOk D m q b a c k)
include h
/-- ahead of the loop -/
theorem LoopOk.start (n : Nat) (x w : Int) (hx : x ≠ 0) (hw : m.word x = some (5, 1, w)) : M.run D (n + 4) { (m.sk []).fk [] with df := 0, on := 0, nx := x } = M.run D n (m.lp 3 [0, b, a] [cal]) := by
  have hz : ({ (m.sk []).fk [] with df := 0, on := 0, nx := x } : M).step D = (ran, m.lp (0 : Nat) [] [cal]) := by
    rw [step_next hx]
    rw [exec_colon ({ (m.sk []).fk [] with df := 0, on := 0, nx := 0 } : M) x 1 w hw (by decide) (by show (1 : Int) ≤ (m.ends.length : Nat); rw [h.ends]; decide) (by show ([] : List Fr).length < 128; decide)]
    rfl
  have g0 := run_ran hz (n + 3)
  have g1 := run_ran (h.lit 0 (by decide) [] [cal] (by decide) (by decide) 0 0 (by simp) rfl) (n + 2)
  have g2 := run_ran (h.lit 1 (by decide) ([] ++ [0]) [cal] (by decide) (by decide) 0 b (by simp) rfl) (n + 1)
  have g3 := run_ran (h.lit 2 (by decide) ([] ++ [0] ++ [b]) [cal] (by decide) (by decide) 0 a (by simp) rfl) n
  exact g0.trans (g1.trans (g2.trans g3))
theorem LoopOk.do_ (n : Nat) (hq : q = 5) : M.run D (n + 1) (m.lp 3 [0, b, a] [cal]) = M.run D n (m.lp 4 [0] [cal, lpf a b]) := by
  subst hq
  have hz : (m.lp (3 : Nat) [0, b, a] [cal]).step D = (ran, m.lp 4 [0] [cal, lpf a b]) := by
    rw [h.step 3 (by decide) _ _ (by decide) (by decide) 5 0 0 rfl]
    exact does_do { m.fk [cal] with df := 1, on := 4, nx := 0 } [0] 0 0 a b (by show ([cal] : List Fr).length < 128; decide)
  exact run_ran hz n
theorem LoopOk.qdo (n : Nat) (hq : q = 3334) (hab : a ≠ b) : M.run D (n + 1) (m.lp 3 [0, b, a] [cal]) = M.run D n (m.lp 4 [0] [cal, lpf a b]) := by
  subst hq
  have hz : (m.lp (3 : Nat) [0, b, a] [cal]).step D = (ran, m.lp 4 [0] [cal, lpf a b]) := by
    rw [h.step 3 (by decide) _ _ (by decide) (by decide) 6 13 0 rfl]
    exact does_qdo { m.fk [cal] with df := 1, on := 4, nx := 0 } [0] 13 0 a b (by show ([cal] : List Fr).length < 128; decide) (fun g => hab g.symm)
  exact run_ran hz n
theorem LoopOk.qdo0 (n : Nat) (hq : q = 3334) (hab : a = b) : M.run D (n + 1) (m.lp 3 [0, b, a] [cal]) = M.run D n (m.lp 13 [0] [cal]) := by
  subst hq hab
  have hz : (m.lp (3 : Nat) [0, a, a] [cal]).step D = (ran, m.lp 13 [0] [cal]) := by
    rw [h.step 3 (by decide) _ _ (by decide) (by decide) 6 13 0 rfl]
    exact does_qdo0 { m.fk [cal] with df := 1, on := 4, nx := 0 } [0] 13 0 a
  exact run_ran hz n
/-- THE LAW, plain -/
theorem loops_law (asks : Bool) (hq : q = if asks then 3334 else 5) (hb : -100 ≤ b ∧ b ≤ 100) (ha : -100 ≤ a ∧ a ≤ 100) (hk : 1 ≤ k ∧ k ≤ 5) (he : 0 ≤ e ∧ e ≤ 8) (hc : c = if e = 0 then -1000 else a + e * k) (hd : b - a ≤ 190)
    (x w : Int) (hx : x ≠ 0) (hw : m.word x = some (5, 1, w)) :
    let want := if asks = true ∧ a = b then 0 else (wantG e b k 200 a 0).1
    ((a < b ∨ (asks = true ∧ a = b) ∨ 1 ≤ e) → M.run D 2000 { (m.sk []).fk [] with df := 0, on := 0, nx := x } = ((5, 0, 0), { m.lp 0 [want] [] with df := 0 })) ∧
    (¬ (a < b ∨ (asks = true ∧ a = b) ∨ 1 ≤ e) → (M.run D 2000 { (m.sk []).fk [] with df := 0, on := 0, nx := x }).1.1 = 1) := by
  intro want
  by_cases h1 : asks = true ∧ a = b
  · have hq' : q = 3334 := by rw [hq, if_pos h1.1]
    refine ⟨fun _ => ?_, fun g => absurd (.inr (.inl h1)) g⟩
    rw [show want = 0 from if_pos h1]
    have g := (h.start 4 x w hx hw).trans ((h.qdo0 3 hq' h1.2).trans (h.end_ 0 0))
    exact run_le g (show (5 : Int) ≠ 1 from by decide) (by decide)
  · have hw' : want = (wantG e b k 200 a 0).1 := if_neg h1
    have hdo : ∀ n, M.run D (n + 1) (m.lp 3 [0, b, a] [cal]) = M.run D n (m.lp 4 [0] [cal, lpf a b]) := fun n => by
      cases hs : asks with
      | false => exact h.do_ n (by rw [hq, hs]; rfl)
      | true => exact h.qdo n (by rw [hq, hs]; rfl) (fun g => h1 ⟨hs, g⟩)
    refine ⟨fun g => ?_, fun g => ?_⟩
    · have hbr : brk e b k 200 a := by
        rcases g with g | g | g
        · exact brk_less e b k hk.1 200 a g (by omega)
        · exact absurd g h1
        · exact brk_early e b k g (by omega) 200 a (by omega)
      obtain ⟨s', hs, hr⟩ := loop_want h hb ha hk he hc 200 a 0 (Nat.le_refl _) (by omega) hbr
      rw [hw', hs]
      exact run_le ((h.start (8 * 200 + 11 + 1) x w hx hw).trans ((hdo _).trans hr)) (show (5 : Int) ≠ 1 from by decide) (by decide)
    · have h2 : b ≤ a := by omega
      have h3 : c = -1000 := by rw [hc, if_pos (by omega)]
      have hr := loop_on h hb hk h3 250 a 0 h2 (by omega)
      refine run_still (N := 8 * 250 + 1 + 4) ?_ (by decide)
      rw [h.start (8 * 250 + 1) x w hx hw, hdo]
      exact hr
end
end En
end Go.Proofs.YtdokeddjcpnmiaaGreatDoor

/- The definitions of the laws may be, plain. -/
namespace Go.Proofs.YtdokeddjcpnmiaaGreatDoor
open Go.RowKit
namespace En

/-- an instruction of code that goes straight on -/
def PlainOk (words locals_ : Int) (i : Nat) (x : Int × Int × Int) : Prop :=
  (x.1 = 1 ∧ x.2.1 = 0) ∨ (x.1 = 2 ∧ 1 ≤ x.2.1 ∧ x.2.1 ≤ words ∧ x.2.2 = 0) ∨ (x.1 = 11 ∧ x.2.1 = 0 ∧ x.2.2 = 0) ∨ (x.1 = 12 ∧ i = 0 ∧ 1 ≤ x.2.1 ∧ x.2.1 ≤ 16 ∧ x.2.2 = 0) ∨ ((x.1 = 13 ∨ x.1 = 14) ∧ 0 ≤ x.2.1 ∧ x.2.1 < locals_ ∧ x.2.2 = 0)
theorem straight_may (L : List (Int × Int × Int)) (words locals_ : Int) (n : Nat) (hn : L.length = n + 1) (h5 : n + 1 ≤ 500) (hl : locals_ ≤ if (opAt L 0).1 = 12 then (opAt L 0).2.1 else 0) (h2 : opAt L n = (15, 0, 0)) (h : ∀ i, i < n → PlainOk words locals_ i (opAt L i)) : mayF L words := by
  have hs : ∀ i, i < n → stepsF (opAt L i).1 (opAt L i).2.1 i 0 = [((i : Int) + 1, 0)] := fun i hi => by
    have hp := h i hi
    unfold PlainOk at hp
    have hop : (opAt L i).1 = 1 ∨ (opAt L i).1 = 2 ∨ (opAt L i).1 = 11 ∨ (opAt L i).1 = 12 ∨ (opAt L i).1 = 13 ∨ (opAt L i).1 = 14 := by omega
    unfold stepsF
    rw [if_neg (by omega), if_neg (by omega), if_neg (by omega), if_neg (by omega), if_neg (by omega), if_neg (by omega), if_neg (by omega)]
  refine ⟨_, straight_loops L n hn hs (by rw [h2]), by omega, .inl (by rw [hn, Nat.add_sub_cancel, h2]), fun i hi => ?_⟩
  unfold oneMay
  by_cases hin : i = n
  · subst hin
    dsimp only
    rw [h2]
    dsimp only
    have hr : (List.replicate (i + 1) (0 : Int)).getD i 0 = 0 := by
      rw [List.getD_eq_getElem?_getD, List.getElem?_replicate]
      split <;> rfl
    rw [hr]
    refine ⟨by decide, by decide, .inr rfl, by decide, ?_, fun g => absurd g.1 (by decide), fun g => absurd g.2.2 (by decide)⟩
    show (0 : Int) ≤ highF L words 0
    exact Int.le_refl 0
  · have hp := h i (by omega)
    unfold PlainOk at hp
    dsimp only
    rcases hp with ⟨p1, p2⟩ | ⟨p1, p2, p3, p4⟩ | ⟨p1, p2, p3⟩ | ⟨p1, p2, p3, p4, p5⟩ | ⟨p1, p2, p3, p4⟩
    · rw [p1, p2]
      refine ⟨by decide, by decide, .inl rfl, by decide, Int.le_refl 0, fun g => absurd g.1 (by decide), fun g => absurd g.1 (by decide)⟩
    · rw [p1, p4]
      exact ⟨by decide, by decide, .inr rfl, p2, p3, fun g => absurd g.1 (by decide), fun g => absurd g.1 (by decide)⟩
    · rw [p1, p2, p3]
      exact ⟨by decide, by decide, .inr rfl, by decide, Int.le_refl 0, fun g => absurd g.1 (by decide), fun g => absurd g.1 (by decide)⟩
    · rw [p1, p5]
      exact ⟨by decide, by decide, .inr rfl, p3, p4, fun g => absurd g.2 (by omega), fun g => absurd g.1 (by decide)⟩
    · have hk : insKind (opAt L i).1 = 4 := by rcases p1 with p1 | p1 <;> rw [p1] <;> rfl
      rw [hk, p4]
      refine ⟨by omega, by omega, .inr rfl, p2, ?_, by omega, by omega⟩
      show (opAt L i).2.1 ≤ (if (opAt L 0).1 = 12 then (opAt L 0).2.1 else 0) - 1
      omega
theorem opAt_of {L : List (Int × Int × Int)} {i : Nat} {x : Int × Int × Int} (h : L[i]? = some x) : opAt L i = x := by
  unfold opAt
  rw [List.getD_eq_getElem?_getD, h]
  rfl
theorem all_plain {words locals_ : Int} (X : List (Int × Int × Int)) (n : Nat) (hX : X.length = n) (r : Int × Int × Int) (h : ∀ i x, X[i]? = some x → PlainOk words locals_ i x) : ∀ i, i < n → PlainOk words locals_ i (opAt (X ++ [r]) i) := fun i hi => by
  have hx : (X ++ [r])[i]? = some X[i] := by rw [List.getElem?_append_left (by omega), List.getElem?_eq_getElem (by omega)]
  rw [opAt_of hx]
  exact h i _ (List.getElem?_eq_getElem (by omega))
theorem any_plain {words locals_ : Int} (X : List (Int × Int × Int)) (h : ∀ x ∈ X, (x.1 = 1 ∧ x.2.1 = 0) ∨ (x.1 = 2 ∧ 1 ≤ x.2.1 ∧ x.2.1 ≤ words ∧ x.2.2 = 0)) : ∀ i x, X[i]? = some x → PlainOk words locals_ i x := fun i x hx => by
  rcases h x (List.mem_of_getElem? hx) with g | g
  · exact .inl g
  · exact .inr (.inl g)
/-- the definitions of EngineCatches, EngineCells -/
theorem plain_may (X : List (Int × Int × Int)) (words : Int) (hX : X.length ≤ 499) (h : ∀ x ∈ X, (x.1 = 1 ∧ x.2.1 = 0) ∨ (x.1 = 2 ∧ 1 ≤ x.2.1 ∧ x.2.1 ≤ words ∧ x.2.2 = 0)) : mayF (X ++ [(15, 0, 0)]) words := by
  refine straight_may _ words 0 X.length (by simp) (by omega) ?_ (opAt_of (by simp)) (all_plain X X.length rfl _ (any_plain X h))
  rw [if_neg]
  · exact Int.le_refl 0
  · cases X with
    | nil => decide
    | cons y r =>
      rcases h y (by simp) with g | g
      · show ¬ y.1 = 12
        omega
      · show ¬ y.1 = 12
        omega
theorem shown_may (words : Int) : mayF [(1, 0, 5), (15, 0, 0)] words := plain_may [(1, 0, 5)] words (by decide) (fun x hx => by simp at hx; subst hx; exact .inl ⟨rfl, rfl⟩)
theorem catch_may (n1 n2 : Nat) (code words : Int) (h1 : n1 ≤ 30) (h2 : n2 ≤ 30) (hw : 3 ≤ words) : mayF (catchL n1 n2 code) words := by
  unfold catchL
  by_cases hc : code = 0
  · rw [if_pos hc]
    exact plain_may [] words (by decide) (fun x hx => by cases hx)
  · rw [if_neg hc]
    have e : (List.replicate n1 [((1 : Int), (0 : Int), (1 : Int)), (2, 1, 0)]).flatten ++ (List.replicate n2 ((1 : Int), (0 : Int), (2 : Int)) ++ [(1, 0, code), (2, 2, 0), (15, 0, 0)]) =
      ((List.replicate n1 [((1 : Int), (0 : Int), (1 : Int)), (2, 1, 0)]).flatten ++ (List.replicate n2 ((1 : Int), (0 : Int), (2 : Int)) ++ [(1, 0, code), (2, 2, 0)])) ++ [(15, 0, 0)] := by simp
    rw [e]
    refine plain_may _ words ?_ ?_
    · rw [List.length_append, List.length_append, flat_len, List.length_replicate]
      show 2 * n1 + (n2 + 2) ≤ 499
      omega
    · intro x hx
      rcases List.mem_append.1 hx with hx | hx
      · rw [List.mem_flatten] at hx
        obtain ⟨l, hl, hx⟩ := hx
        rw [List.eq_of_mem_replicate hl] at hx
        simp at hx
        rcases hx with rfl | rfl
        · exact .inl ⟨rfl, rfl⟩
        · exact .inr ⟨rfl, by decide, by show (1 : Int) ≤ words; omega, rfl⟩
      · rcases List.mem_append.1 hx with hx | hx
        · rw [List.eq_of_mem_replicate hx]
          exact .inl ⟨rfl, rfl⟩
        · simp at hx
          rcases hx with rfl | rfl
          · exact .inl ⟨rfl, rfl⟩
          · exact .inr ⟨rfl, by decide, by show (2 : Int) ≤ words; omega, rfl⟩
theorem cells_may (us : List (Int × Int)) (words : Int) (hy : us.length ≤ 20) (hw : 110 ≤ words) (h : ∀ x ∈ us, 1 ≤ x.1 ∧ x.1 ≤ words) : mayF (putL us ++ (getL us.length ++ [(15, 0, 0)])) words := by
  rw [← List.append_assoc]
  refine plain_may _ words ?_ ?_
  · rw [List.length_append, putL_len, getL_len]; omega
  · intro x hx
    rcases List.mem_append.1 hx with hx | hx
    · unfold putL at hx
      rw [List.mem_flatMap] at hx
      obtain ⟨u, hu, hx⟩ := hx
      have := h u hu
      simp at hx
      rcases hx with rfl | rfl
      · exact .inr ⟨rfl, this.1, this.2, rfl⟩
      · exact .inr ⟨rfl, by decide, by show (108 : Int) ≤ words; omega, rfl⟩
    · unfold getL at hx
      rw [List.mem_flatten] at hx
      obtain ⟨l, hl, hx⟩ := hx
      rw [List.eq_of_mem_replicate hl] at hx
      simp at hx
      rcases hx with rfl | rfl
      · exact .inr ⟨rfl, by decide, by show (110 : Int) ≤ words; omega, rfl⟩
      · exact .inr ⟨rfl, by decide, by show (109 : Int) ≤ words; omega, rfl⟩
theorem inner_may (words : Int) : mayF innerL words := by
  refine straight_may innerL words 1 3 rfl (by decide) (by decide) rfl (fun i hi => ?_)
  rcases (by omega : i = 0 ∨ i = 1 ∨ i = 2) with rfl | rfl | rfl
  · exact .inr (.inr (.inr (.inl ⟨rfl, rfl, by decide, by decide, rfl⟩)))
  · exact .inl ⟨rfl, rfl⟩
  · exact .inr (.inr (.inr (.inr ⟨.inr rfl, by decide, by decide, rfl⟩)))
theorem local_may (c : Nat) (x : Int) (k : Nat) (inn words : Int) (h1 : 1 ≤ c) (h2 : c ≤ 16) (hk : k < c) (hi : 1 ≤ inn ∧ inn ≤ words) : mayF (localL c x k inn) words := by
  have e : localL c x k inn = ([((12 : Int), ((c : Nat) : Int), (0 : Int)), (1, 0, x), (14, ((k : Nat) : Int), 0), (1, 0, 5), (2, inn, 0)] ++ ((List.range' 0 c).map fun i => ((13 : Int), ((i : Nat) : Int), (0 : Int)))) ++ [(15, 0, 0)] := by
    unfold localL
    rw [List.append_assoc]
  rw [e]
  obtain ⟨X, hX⟩ : ∃ X, ([((12 : Int), ((c : Nat) : Int), (0 : Int)), (1, 0, x), (14, ((k : Nat) : Int), 0), (1, 0, 5), (2, inn, 0)] ++ ((List.range' 0 c).map fun i => ((13 : Int), ((i : Nat) : Int), (0 : Int)))) = X := ⟨_, rfl⟩
  have hl : X.length = 5 + c := by rw [← hX, List.length_append, List.length_map, List.length_range']; rfl
  have h0 : opAt (X ++ [(15, 0, 0)]) 0 = (12, (c : Int), 0) := by rw [← hX]; rfl
  rw [hX]
  refine straight_may _ words c (5 + c) (by simp [hl]) (by omega) (by rw [h0]; exact Int.le_refl _) (opAt_of (by rw [← hl]; simp)) (all_plain X (5 + c) hl _ (fun i y hy => ?_))
  rw [← hX] at hy
  rcases Nat.lt_or_ge i 5 with h5 | h5
  · rw [List.getElem?_append_left (by simpa using h5)] at hy
    rcases (by omega : i = 0 ∨ i = 1 ∨ i = 2 ∨ i = 3 ∨ i = 4) with rfl | rfl | rfl | rfl | rfl <;> cases hy
    · exact .inr (.inr (.inr (.inl ⟨rfl, rfl, by show 1 ≤ (c : Int); omega, by show (c : Int) ≤ 16; omega, rfl⟩)))
    · exact .inl ⟨rfl, rfl⟩
    · exact .inr (.inr (.inr (.inr ⟨.inr rfl, by show 0 ≤ (k : Int); omega, by show (k : Int) < c; omega, rfl⟩)))
    · exact .inl ⟨rfl, rfl⟩
    · exact .inr (.inl ⟨rfl, hi.1, hi.2, rfl⟩)
  · rw [List.getElem?_append_right (by simpa using h5)] at hy
    have hm := List.mem_of_getElem? hy
    rw [List.mem_map] at hm
    obtain ⟨j, hj, rfl⟩ := hm
    have := (List.mem_range'_1.1 hj)
    exact .inr (.inr (.inr (.inr ⟨.inl rfl, by show 0 ≤ (j : Int); omega, by show (j : Int) < c; omega, rfl⟩)))
theorem loops_same (L L' : List (Int × Int × Int)) (hl : L.length = L'.length) (h : ∀ i t l, stepsF (opAt L i).1 (opAt L i).2.1 t l = stepsF (opAt L' i).1 (opAt L' i).2.1 t l) : ∀ (f : Nat) (tab : List Int) (todo : List (Int × Int)), loopsGo L f tab todo = loopsGo L' f tab todo
  | 0, _, _ => rfl
  | f + 1, tab, todo => by
    unfold loopsGo
    cases todo.getLast? with
    | none => rfl
    | some x =>
      obtain ⟨a, l⟩ := x
      dsimp only
      rw [hl, h, loops_same L L' hl h f tab todo.dropLast, loops_same L L' hl h f _ _]
theorem loops_same' (L L' : List (Int × Int × Int)) (hl : L.length = L'.length) (h : ∀ i, i < L.length → ∀ t l, stepsF (opAt L i).1 (opAt L i).2.1 t l = stepsF (opAt L' i).1 (opAt L' i).2.1 t l) : loopsF L = loopsF L' := by
  have h' : ∀ i t l, stepsF (opAt L i).1 (opAt L i).2.1 t l = stepsF (opAt L' i).1 (opAt L' i).2.1 t l := fun i t l => by
    rcases Nat.lt_or_ge i L.length with hi | hi
    · exact h i hi t l
    · unfold opAt
      rw [List.getD_eq_getElem?_getD, List.getD_eq_getElem?_getD, List.getElem?_eq_none hi, List.getElem?_eq_none (by omega)]
  unfold loopsF
  rw [hl, loops_same L L' hl h']
  cases L with
  | nil => cases L' with
    | nil => rfl
    | cons y r => simp at hl
  | cons x q => cases L' with
    | nil => simp at hl
    | cons y r => rw [if_neg (by simp), if_neg (by simp)]
theorem one_of {L : List (Int × Int × Int)} {words : Int} {tab : List Int} {i : Nat} (op a w : Int) (h : opAt L i = (op, a, w)) (h1 : 1 ≤ op ∧ op < 16) (h3 : op = 1 ∨ w = 0) (h4 : lowF (insKind op) ≤ a) (h5 : a ≤ highF L words (insKind op)) (h6 : op ≠ 12 ∨ i = 0) (h7 : op ≠ 15 ∨ tab.getD i 0 = 0) : oneMay L words tab i := by
  unfold oneMay
  rw [h]
  refine ⟨h1.1, h1.2, h3, h4, h5, ?_, ?_⟩
  · rintro ⟨g1, g2⟩
    rcases h6 with g | g
    · exact g g1
    · omega
  · rintro ⟨g1, _, g2⟩
    rcases h7 with g | g
    · exact g g1
    · omega
/-- the loop's, and the deep call's definitions, whatever cells they push -/
def loopL (asks : Bool) (b a c k : Int) : List (Int × Int × Int) := [(1, 0, 0), (1, 0, b), (1, 0, a), (if asks then 6 else 5, if asks then 13 else 0, 0), (2, 111, 0), (2, 11, 0), (2, 111, 0), (1, 0, c), (2, 21, 0), (4, 11, 0), (9, 13, 0), (1, 0, k), (8, 4, 0), (15, 0, 0)]
theorem loop_tab (asks : Bool) : loopsF (loopL asks 0 0 0 0) = some [0, 0, 0, 0, 1, 1, 1, 1, 1, 1, 1, 1, 1, 0] := by cases asks <;> decide +kernel
theorem loop_may (asks : Bool) (b a c k words : Int) (hw : 111 ≤ words) : mayF (loopL asks b a c k) words := by
  have hlen : (loopL asks b a c k).length = 14 := rfl
  refine ⟨[0, 0, 0, 0, 1, 1, 1, 1, 1, 1, 1, 1, 1, 0], ?_, by rw [hlen]; decide, .inl rfl, fun i hi => ?_⟩
  · rw [loops_same' (loopL asks b a c k) (loopL asks 0 0 0 0) rfl (fun i hi t l => ?_), loop_tab]
    have hi : i < 14 := hi
    rcases (by omega : i = 0 ∨ i = 1 ∨ i = 2 ∨ i = 3 ∨ i = 4 ∨ i = 5 ∨ i = 6 ∨ i = 7 ∨ i = 8 ∨ i = 9 ∨ i = 10 ∨ i = 11 ∨ i = 12 ∨ i = 13) with rfl | rfl | rfl | rfl | rfl | rfl | rfl | rfl | rfl | rfl | rfl | rfl | rfl | rfl <;> rfl
  · have hi : i < 14 := hi
    have hh : highF (loopL asks b a c k) words 1 = 13 := rfl
    have h2 : highF (loopL asks b a c k) words 2 = words := rfl
    have h0 : highF (loopL asks b a c k) words 0 = 0 := rfl
    rcases (by omega : i = 0 ∨ i = 1 ∨ i = 2 ∨ i = 3 ∨ i = 4 ∨ i = 5 ∨ i = 6 ∨ i = 7 ∨ i = 8 ∨ i = 9 ∨ i = 10 ∨ i = 11 ∨ i = 12 ∨ i = 13) with rfl | rfl | rfl | rfl | rfl | rfl | rfl | rfl | rfl | rfl | rfl | rfl | rfl | rfl
    · exact one_of 1 0 0 rfl (by decide) (.inl rfl) (by decide) (Int.le_of_eq h0.symm) (.inl (by decide)) (.inl (by decide))
    · exact one_of 1 0 b rfl (by decide) (.inl rfl) (by decide) (Int.le_of_eq h0.symm) (.inl (by decide)) (.inl (by decide))
    · exact one_of 1 0 a rfl (by decide) (.inl rfl) (by decide) (Int.le_of_eq h0.symm) (.inl (by decide)) (.inl (by decide))
    · cases asks
      · exact one_of 5 0 0 rfl (by decide) (.inr rfl) (by decide) (Int.le_of_eq h0.symm) (.inl (by decide)) (.inl (by decide))
      · exact one_of 6 13 0 rfl (by decide) (.inr rfl) (by decide) (Int.le_of_eq hh.symm) (.inl (by decide)) (.inl (by decide))
    · exact one_of 2 111 0 rfl (by decide) (.inr rfl) (by decide) (h2.symm ▸ hw) (.inl (by decide)) (.inl (by decide))
    · exact one_of 2 11 0 rfl (by decide) (.inr rfl) (by decide) (h2.symm ▸ (by omega : (11 : Int) ≤ words)) (.inl (by decide)) (.inl (by decide))
    · exact one_of 2 111 0 rfl (by decide) (.inr rfl) (by decide) (h2.symm ▸ hw) (.inl (by decide)) (.inl (by decide))
    · exact one_of 1 0 c rfl (by decide) (.inl rfl) (by decide) (Int.le_of_eq h0.symm) (.inl (by decide)) (.inl (by decide))
    · exact one_of 2 21 0 rfl (by decide) (.inr rfl) (by decide) (h2.symm ▸ (by omega : (21 : Int) ≤ words)) (.inl (by decide)) (.inl (by decide))
    · exact one_of 4 11 0 rfl (by decide) (.inr rfl) (by decide) (hh.symm ▸ (by decide : (11 : Int) ≤ 13)) (.inl (by decide)) (.inl (by decide))
    · exact one_of 9 13 0 rfl (by decide) (.inr rfl) (by decide) (Int.le_of_eq hh.symm) (.inl (by decide)) (.inl (by decide))
    · exact one_of 1 0 k rfl (by decide) (.inl rfl) (by decide) (Int.le_of_eq h0.symm) (.inl (by decide)) (.inl (by decide))
    · exact one_of 8 4 0 rfl (by decide) (.inr rfl) (by decide) (hh.symm ▸ (by decide : (4 : Int) ≤ 13)) (.inl (by decide)) (.inl (by decide))
    · exact one_of 15 0 0 rfl (by decide) (.inr rfl) (by decide) (Int.le_of_eq h0.symm) (.inl (by decide)) (.inr rfl)
theorem deep_may (self words : Int) (hs : 28 ≤ words ∧ 1 ≤ self ∧ self ≤ words) : mayF (deepL self) words := by
  have hlen : (deepL self).length = 5 := rfl
  refine ⟨[0, 0, 0, 0, 0], ?_, by rw [hlen]; decide, .inl rfl, fun i hi => ?_⟩
  · rw [loops_same' (deepL self) (deepL 0) rfl (fun i hi t l => ?_)]
    · decide +kernel
    · have hi : i < 5 := hi
      rcases (by omega : i = 0 ∨ i = 1 ∨ i = 2 ∨ i = 3 ∨ i = 4) with rfl | rfl | rfl | rfl | rfl <;> rfl
  · have hi : i < 5 := hi
    have hh : highF (deepL self) words 1 = 4 := rfl
    have h2 : highF (deepL self) words 2 = words := rfl
    have h0 : highF (deepL self) words 0 = 0 := rfl
    rcases (by omega : i = 0 ∨ i = 1 ∨ i = 2 ∨ i = 3 ∨ i = 4) with rfl | rfl | rfl | rfl | rfl
    · exact one_of 2 28 0 rfl (by decide) (.inr rfl) (by decide) (h2.symm ▸ hs.1) (.inl (by decide)) (.inl (by decide))
    · exact one_of 4 4 0 rfl (by decide) (.inr rfl) (by decide) (Int.le_of_eq hh.symm) (.inl (by decide)) (.inl (by decide))
    · exact one_of 2 5 0 rfl (by decide) (.inr rfl) (by decide) (h2.symm ▸ (by omega : (5 : Int) ≤ words)) (.inl (by decide)) (.inl (by decide))
    · exact one_of 2 self 0 rfl (by decide) (.inr rfl) (show lowF 2 ≤ self from hs.2.1) (h2.symm ▸ hs.2.2) (.inl (by decide)) (.inl (by decide))
    · exact one_of 15 0 0 rfl (by decide) (.inr rfl) (by decide) (Int.le_of_eq h0.symm) (.inl (by decide)) (.inr rfl)
/-- the branches' -/
theorem bFrom_shape : ∀ (ys zs : List Int) (i at_ : Nat), ys.length = zs.length → (bFrom i at_ ys).map (fun x => (x.1, x.2.1)) = (bFrom i at_ zs).map (fun x => (x.1, x.2.1))
  | [], [], _, _, _ => rfl
  | [], _ :: _, _, _, h => by simp at h
  | _ :: _, [], _, _, h => by simp at h
  | y :: r, z :: q, i, at_, h => by
    show ((bItem i at_ y ++ bFrom (i + 1) (at_ + bLen i) r).map fun x => (x.1, x.2.1)) = ((bItem i at_ z ++ bFrom (i + 1) (at_ + bLen i) q).map fun x => (x.1, x.2.1))
    rw [List.map_append, List.map_append, bFrom_shape r q (i + 1) (at_ + bLen i) (by simpa using h)]
    congr 1
    unfold bItem
    split <;> rfl
theorem bFrom_ok : ∀ (ys : List Int) (i at_ : Nat) (x : Int × Int × Int), x ∈ bFrom i at_ ys → (x.1 = 1 ∧ x.2.1 = 0) ∨ ((x.1 = 4 ∨ x.1 = 3 ∨ x.1 = 10) ∧ 0 ≤ x.2.1 ∧ x.2.1 ≤ ((at_ + (bFrom i at_ ys).length : Nat) : Int) ∧ x.2.2 = 0) ∨ (x.1 = 11 ∧ x.2.1 = 0 ∧ x.2.2 = 0)
  | [], _, _, _, h => by cases h
  | c :: r, i, at_, x, h => by
    have hl : (bFrom i at_ (c :: r)).length = bLen i + (bFrom (i + 1) (at_ + bLen i) r).length := by
      show (bItem i at_ c ++ bFrom (i + 1) (at_ + bLen i) r).length = _
      rw [List.length_append, bItem_len]
    rw [hl]
    rcases List.mem_append.1 (show x ∈ bItem i at_ c ++ bFrom (i + 1) (at_ + bLen i) r from h) with h | h
    · unfold bItem at h
      unfold bLen
      split at h
      · rename_i hi
        rw [if_pos hi]
        simp at h
        rcases h with rfl | rfl | rfl | rfl | rfl
        · exact .inl ⟨rfl, rfl⟩
        · refine .inr (.inl ⟨.inl rfl, ?_, ?_, rfl⟩) <;> dsimp only <;> omega
        · exact .inl ⟨rfl, rfl⟩
        · refine .inr (.inl ⟨.inr (.inl rfl), ?_, ?_, rfl⟩) <;> dsimp only <;> omega
        · exact .inl ⟨rfl, rfl⟩
      · rename_i hi
        rw [if_neg hi]
        simp at h
        rcases h with rfl | rfl | rfl | rfl | rfl | rfl | rfl
        · exact .inl ⟨rfl, rfl⟩
        · exact .inl ⟨rfl, rfl⟩
        · refine .inr (.inl ⟨.inr (.inr rfl), ?_, ?_, rfl⟩) <;> dsimp only <;> omega
        · exact .inl ⟨rfl, rfl⟩
        · refine .inr (.inl ⟨.inr (.inl rfl), ?_, ?_, rfl⟩) <;> dsimp only <;> omega
        · exact .inr (.inr ⟨rfl, rfl, rfl⟩)
        · exact .inl ⟨rfl, rfl⟩
    · rcases bFrom_ok r (i + 1) (at_ + bLen i) x h with g | ⟨g1, g2, g3, g4⟩ | g
      · exact .inl g
      · exact .inr (.inl ⟨g1, g2, by omega, g4⟩)
      · exact .inr (.inr g)
def goodTab (o : Option (List Int)) (n : Nat) : Bool := match o with
  | some t => t.getD n 0 == 0
  | none => false
theorem bTabs : ∀ n, n < 21 → goodTab (loopsF (bFrom 0 0 (List.replicate n 0) ++ [(15, 0, 0)])) (bFrom 0 0 (List.replicate n 0)).length = true := by decide +kernel
theorem branch_may (ys : List Int) (words : Int) (hy : ys.length ≤ 20) : mayF (bFrom 0 0 ys ++ [(15, 0, 0)]) words := by
  have hsh := bFrom_shape ys (List.replicate ys.length 0) 0 0 (by simp)
  have hl : (bFrom 0 0 ys).length = (bFrom 0 0 (List.replicate ys.length 0)).length := by
    have := congrArg List.length hsh
    simpa using this
  have hlen : (bFrom 0 0 ys).length ≤ 7 * ys.length := by
    have : ∀ (ys : List Int) (i a : Nat), (bFrom i a ys).length ≤ 7 * ys.length := by
      intro ys
      induction ys with
      | nil => intro i a; exact Nat.le_refl _
      | cons c r ih =>
        intro i a
        show (bItem i a c ++ bFrom (i + 1) (a + bLen i) r).length ≤ _
        rw [List.length_append, bItem_len, List.length_cons]
        have := ih (i + 1) (a + bLen i)
        have hb : bLen i ≤ 7 := by unfold bLen; split <;> omega
        omega
    exact this ys 0 0
  have htab := bTabs ys.length (by omega)
  have hsame : loopsF (bFrom 0 0 ys ++ [(15, 0, 0)]) = loopsF (bFrom 0 0 (List.replicate ys.length 0) ++ [(15, 0, 0)]) := by
    refine loops_same' _ _ (by rw [List.length_append, List.length_append, hl]) (fun i hi t l => ?_)
    have e : (opAt (bFrom 0 0 ys ++ [(15, 0, 0)]) i).1 = (opAt (bFrom 0 0 (List.replicate ys.length 0) ++ [(15, 0, 0)]) i).1 ∧ (opAt (bFrom 0 0 ys ++ [(15, 0, 0)]) i).2.1 = (opAt (bFrom 0 0 (List.replicate ys.length 0) ++ [(15, 0, 0)]) i).2.1 := by
      have h1 := congrArg (fun l => l[i]?) hsh
      rw [List.getElem?_map, List.getElem?_map] at h1
      rcases Nat.lt_or_ge i (bFrom 0 0 ys).length with g | g
      · rw [List.getElem?_eq_getElem g, List.getElem?_eq_getElem (by omega)] at h1
        rw [opAt_of (x := (bFrom 0 0 ys)[i]) (by rw [List.getElem?_append_left g, List.getElem?_eq_getElem g]), opAt_of (x := (bFrom 0 0 (List.replicate ys.length 0))[i]) (by rw [List.getElem?_append_left (by omega), List.getElem?_eq_getElem (by omega)])]
        simp only [Option.map_some, Option.some.injEq, Prod.mk.injEq] at h1
        exact h1
      · have hi' : i = (bFrom 0 0 ys).length := by rw [List.length_append] at hi; simp at hi; omega
        rw [opAt_of (x := (15, 0, 0)) (by rw [hi']; simp), opAt_of (x := (15, 0, 0)) (by rw [hi', hl]; simp)]
        exact ⟨rfl, rfl⟩
    rw [e.1, e.2]
  rw [← hsame, ← hl] at htab
  cases ht : loopsF (bFrom 0 0 ys ++ [(15, 0, 0)]) with
  | none => rw [ht] at htab; cases htab
  | some tab =>
    rw [ht] at htab
    have htab : tab.getD (bFrom 0 0 ys).length 0 = 0 := by simpa [goodTab] using htab
    refine ⟨tab, ht, by rw [List.length_append]; simp; omega, .inl ?_, fun i hi => ?_⟩
    · rw [opAt_of (x := (15, 0, 0)) (by simp)]
    · have h1 : highF (bFrom 0 0 ys ++ [(15, 0, 0)]) words 1 = (bFrom 0 0 ys).length := by
        show ((bFrom 0 0 ys ++ [((15 : Int), (0 : Int), (0 : Int))]).length : Int) - 1 = _
        rw [List.length_append]
        simp
      rcases Nat.lt_or_ge i (bFrom 0 0 ys).length with g | g
      · have hx : opAt (bFrom 0 0 ys ++ [(15, 0, 0)]) i = (bFrom 0 0 ys)[i] := opAt_of (by rw [List.getElem?_append_left g, List.getElem?_eq_getElem g])
        have hok := bFrom_ok ys 0 0 _ (List.getElem_mem g)
        obtain ⟨⟨op, a, w⟩, hv⟩ : ∃ v, (bFrom 0 0 ys)[i] = v := ⟨_, rfl⟩
        rw [hv] at hx hok
        dsimp only at hok
        rcases hok with ⟨rfl, rfl⟩ | ⟨g1, g2, g3, rfl⟩ | ⟨rfl, rfl, rfl⟩
        · exact one_of 1 0 w hx (by decide) (.inl rfl) (by decide) (Int.le_refl 0) (.inl (by decide)) (.inl (by decide))
        · rw [Nat.zero_add] at g3
          rcases g1 with rfl | rfl | rfl
          · exact one_of 4 a 0 hx (by decide) (.inr rfl) g2 (h1.symm ▸ g3) (.inl (by decide)) (.inl (by decide))
          · exact one_of 3 a 0 hx (by decide) (.inr rfl) g2 (h1.symm ▸ g3) (.inl (by decide)) (.inl (by decide))
          · exact one_of 10 a 0 hx (by decide) (.inr rfl) g2 (h1.symm ▸ g3) (.inl (by decide)) (.inl (by decide))
        · exact one_of 11 0 0 hx (by decide) (.inr rfl) (by decide) (Int.le_refl 0) (.inl (by decide)) (.inl (by decide))
      · have hi' : i = (bFrom 0 0 ys).length := by rw [List.length_append] at hi; simp at hi; omega
        exact one_of 15 0 0 (opAt_of (by rw [hi']; simp)) (by decide) (.inr rfl) (by decide) (Int.le_refl 0) (.inl (by decide)) (.inr (by rw [hi']; exact htab))
end En
end Go.Proofs.YtdokeddjcpnmiaaGreatDoor
