/- Maps keyed by whole numbers that the call itself makes: what they hold as a list of pairs, whatever the elements are. -/
import Derived.Test.YtkbchpaofmlhgaaGreatDoorWorld
import Derived.Maps.Own
import Derived.Maps.OwnOps
namespace Go.Proofs.YtkbchpaofmlhgaaGreatDoor
open Go.RowKit
open Go.MapKept (IsKey run_checkKey run_findKey run_setObj_map run_keyThatStays)

/-- BLOCK b OF w IS A MAP keyed by int that holds these pairs, in the order in which they came -/
def IMap (w : World) (b : Nat) (l : List (Int × Value)) : Prop :=
  ∃ es clock, w.heap[b]? = some (.map es clock) ∧ es.toList.map (fun e => (e.key, e.val)) = l.map (fun p => (Value.int .i64 p.1, p.2))

/-- what stands at a key -/
def atKey (l : List (Int × Value)) (k : Int) : Option Value := (l.find? (fun p => p.1 == k)).map (·.2)
/-- a pair put in -/
def putKey : List (Int × Value) → Int → Value → List (Int × Value)
  | [], k, v => [(k, v)]
  | p :: l, k, v => if p.1 = k then (k, v) :: l else p :: putKey l k v

section
variable {P : Program} {w w' : World} {b : Nat} {l : List (Int × Value)} {t k e : TypeId}

theorem IMap.new (w : World) : IMap (w.alloc (.map #[] 0)) w.heap.size [] := ⟨#[], 0, (MapKept.heap_alloc w _).1, rfl⟩
theorem IMap.lt (h : IMap w b l) : b < w.heap.size := by
  obtain ⟨es, c, hb, _⟩ := h
  exact (Array.getElem?_eq_some_iff.1 hb).1
theorem IMap.block (h : IMap w b l) (hk : w'.heap[b]? = w.heap[b]?) : IMap w' b l := by
  obtain ⟨es, c, hb, hl⟩ := h
  exact ⟨es, c, hk.trans hb, hl⟩
theorem IMap.alloc (h : IMap w b l) (o : Obj) : IMap (w.alloc o) b l := h.block (Below.heap_alloc _ _ _ h.lt)
theorem IMap.drew (h : IMap w b l) : IMap w.drew b l := h
theorem IMap.drewN (h : IMap w b l) (n : Nat) : IMap (w.drewN n) b l := h
theorem IMap.touch {F : List Nat} (h : IMap w b l) (ht : Touch F w w') (hn : b ∉ F) : IMap w' b l := h.block (ht.block b h.lt hn)
theorem IMap.setCell (h : IMap w b l) {p : Addr} (hp : b ≠ p.block) (u : Value) : IMap (w.setCell p u) b l := h.block (Below.heap_setCell _ _ _ _ hp)

theorem find_list (d : TypeDesc) (hd : d = .int .i64) (x : Int) : ∀ (es : List MapEntry) (l : List (Int × Value)) (i : Nat), es.map (fun e => (e.key, e.val)) = l.map (fun p => (Value.int .i64 p.1, p.2)) →
    (atKey l x = none ∧ Instr.findNow d (.int .i64 x) es i = some none ∧ putKey l x = fun v => l ++ [(x, v)]) ∨
    ∃ j e v, atKey l x = some v ∧ Instr.findNow d (.int .i64 x) es i = some (some (i + j, v)) ∧ es[j]? = some e ∧ e.key = .int .i64 x ∧ ∀ u, (es.modify j fun e => { e with key := .int .i64 x, val := u }).map (fun e => (e.key, e.val)) = (putKey l x u).map (fun p => (Value.int .i64 p.1, p.2))
  | [], [], i, _ => .inl ⟨rfl, rfl, rfl⟩
  | [], _ :: _, i, h => by simp at h
  | _ :: _, [], i, h => by simp at h
  | e :: es, p :: l, i, h => by
    simp only [List.map_cons, List.cons.injEq, Prod.mk.injEq] at h
    obtain ⟨⟨hk, hv⟩, hr⟩ := h
    by_cases hx : p.1 = x
    · refine .inr ⟨0, e, p.2, by simp [atKey, hx], ?_, by simp, by rw [hk, hx], fun u => ?_⟩
      · subst hd
        simp [Instr.findNow, Instr.sameNow, hk, hx, hv]
      · simp [putKey, hx, hr]
    · have hx' : (x == p.1) = false := by simp [show ¬ x = p.1 from fun e => hx e.symm]
      rcases find_list d hd x es l (i + 1) hr with ⟨h1, h2, h3⟩ | ⟨j, e', v, h1, h2, h3, h4, h5⟩
      · refine .inl ⟨?_, ?_, ?_⟩
        · simpa [atKey, List.find?_cons, hx] using h1
        · subst hd
          simpa [Instr.findNow, Instr.sameNow, hk, hx'] using h2
        · funext v
          simp [putKey, hx, h3]
      · refine .inr ⟨j + 1, e', v, ?_, ?_, by simpa using h3, h4, fun u => ?_⟩
        · simpa [atKey, List.find?_cons, hx] using h1
        · subst hd
          have := h2
          rw [show i + 1 + j = i + (j + 1) by omega] at this
          simpa [Instr.findNow, Instr.sameNow, hk, hx'] using this
        · have := h5 u
          simp only [List.modify_succ_cons, List.map_cons, putKey, hx, if_false, hk, hv]
          rw [this]

/-- 'm[k] = v' -/
theorem IMap.update (h : IMap w b l) (ht : P.underlying t = some (.map k e)) (hk : P.underlying k = some (.int .i64)) (x : Int) (v : Value) :
    ∃ w', (Instr.mapUpdate t (.map (some b)) (.int .i64 x) v).run P w = .ok () w' ∧ IMap w' b (putKey l x v) ∧ Touch [b] w w' := by
  obtain ⟨es, clock, hb, hl⟩ := h
  have hb' : b < w.heap.size := (Array.getElem?_eq_some_iff.1 hb).1
  have hi : IsKey (.int .i64) (.int .i64 x) := by simp [IsKey]
  have hc := fun w => run_checkKey (P := P) (w := w) hk hi false 9999
  have htouch : ∀ o, Touch [b] w { w with heap := w.heap.setIfInBounds b o } := fun o => ⟨rfl, rfl, rfl, by simp, fun k hk hn => by
    simp only [List.mem_singleton] at hn
    show (w.heap.setIfInBounds b o)[k]? = _
    rw [Array.getElem?_setIfInBounds_ne (Ne.symm hn)]⟩
  have hat : ∀ o, ({ w with heap := w.heap.setIfInBounds b o } : World).heap[b]? = some o := fun o => by
    show (w.heap.setIfInBounds b o)[b]? = _
    rw [Array.getElem?_setIfInBounds_self_of_lt hb']
  rcases find_list _ rfl x es.toList l 0 hl with ⟨h1, h2, h3⟩ | ⟨j, e0, v0, h1, h2, h3, h4, h5⟩
  · refine ⟨_, by simp [Instr.mapUpdate, run_underlying ht, MapKept.run_getObj_map hb, hc, run_findKey hk h2, run_setObj_map _ hb, Result.andThen]; rfl, ⟨_, _, hat _, ?_⟩, htouch _⟩
    simp [h3, hl]
  · have hj : es[j]? = some e0 := by simpa using h3
    have h2' : Instr.findNow (.int .i64) (.int .i64 x) es.toList 0 = some (some (j, v0)) := by simpa using h2
    refine ⟨_, by simp [Instr.mapUpdate, run_underlying ht, MapKept.run_getObj_map hb, hc, run_findKey hk h2', hj, h4, run_keyThatStays hi, run_setObj_map _ hb, Result.andThen]; rfl, ⟨_, _, hat _, ?_⟩, htouch _⟩
    rw [Array.toList_modify]
    exact h5 v

/-- 'm[k]', where it is there -/
theorem IMap.lookup (h : IMap w b l) (ht : P.underlying t = some (.map k e)) (hk : P.underlying k = some (.int .i64)) {x : Int} {v : Value} (hx : atKey l x = some v) :
    (Instr.lookup t (.map (some b)) (.int .i64 x) false).run P w = .ok v w ∧ (Instr.lookup t (.map (some b)) (.int .i64 x) true).run P w = .ok (.tuple #[v, .bool true]) w := by
  obtain ⟨es, clock, hb, hl⟩ := h
  have hi : IsKey (.int .i64) (.int .i64 x) := by simp [IsKey]
  have hc := fun z w => run_checkKey (P := P) (w := w) hk hi z 9999
  rcases find_list _ rfl x es.toList l 0 hl with ⟨h1, h2, h3⟩ | ⟨j, e0, v0, h1, h2, h3, h4, h5⟩
  · rw [hx] at h1; cases h1
  · rw [hx] at h1
    cases h1
    simp [Instr.lookup, run_underlying ht, MapKept.run_getObj_map hb, hc, run_findKey hk h2, Result.andThen]

/-- .. where it is not -/
theorem IMap.lookup_none (h : IMap w b l) (ht : P.underlying t = some (.map k e)) (hk : P.underlying k = some (.int .i64)) {x : Int} (hx : atKey l x = none) {z : Value} (hz : ∀ w, (zeroValue e).run P w = .ok z w) :
    (Instr.lookup t (.map (some b)) (.int .i64 x) false).run P w = .ok z w ∧ (Instr.lookup t (.map (some b)) (.int .i64 x) true).run P w = .ok (.tuple #[z, .bool false]) w := by
  obtain ⟨es, clock, hb, hl⟩ := h
  have hi : IsKey (.int .i64) (.int .i64 x) := by simp [IsKey]
  have hc := fun z w => run_checkKey (P := P) (w := w) hk hi z 9999
  rcases find_list _ rfl x es.toList l 0 hl with ⟨h1, h2, h3⟩ | ⟨j, e0, v0, h1, h2, h3, h4, h5⟩
  · simp [Instr.lookup, run_underlying ht, MapKept.run_getObj_map hb, hc, run_findKey hk h2, Result.andThen, hz]
  · rw [hx] at h1; cases h1
end

/-- 'm[k] = v' at the operation -/
theorem wpList_imap {P : Program} (w : World) {ops : Array Oper} {rest : List Oper} {o : Oper} {a : Act} {Q : Exit → Act → World → Prop}
    (hg : o.guard = none) (m x v : Operand) (t : TypeId) (hop : o.op = Op.mapUpdate t m x v) (k e : TypeId) (ht : P.underlying t = some (.map k e)) (hk : P.underlying k = some (.int .i64)) (b : Nat) (l : List (Int × Value))
    (hm : a.eval m = .map (some b)) (hown : IMap w b l) (key : Int) (hx : a.eval x = .int .i64 key) (val : Value) (hv : a.eval v = val)
    (hK : ∀ w', IMap w' b (putKey l key val) → Touch [b] w w' → wpList P ops Q rest (a.put o.dst undef) w') :
    wpList P ops Q (o :: rest) a w := by
  refine wpList_plain hg fun K' hK' => ?_
  obtain ⟨w', hrun, r1, r2⟩ := hown.update ht hk key val
  unfold Oper.wp
  simp [execOp, hop, hm, hx, hv, hrun, Result.andThen]
  exact hK' _ _ (hK w' r1 r2)
/-- 'm[k] = v' in a literal -/
theorem wpList_iins {P : Program} (w : World) {ops : Array Oper} {rest : List Oper} {o : Oper} {a : Act} {Q : Exit → Act → World → Prop}
    (hg : o.guard = none) (m x v : Operand) (t : TypeId) (hop : o.op = Op.insert t m x v) (k e : TypeId) (ht : P.underlying t = some (.map k e)) (hk : P.underlying k = some (.int .i64)) (b : Nat) (l : List (Int × Value))
    (hm : a.eval m = .map (some b)) (hown : IMap w b l) (key : Int) (hx : a.eval x = .int .i64 key) (val : Value) (hv : a.eval v = val)
    (hK : ∀ w', IMap w' b (putKey l key val) → Touch [b] w w' → wpList P ops Q rest (a.put o.dst undef) w') :
    wpList P ops Q (o :: rest) a w := by
  refine wpList_plain hg fun K' hK' => ?_
  obtain ⟨w', hrun, r1, r2⟩ := hown.update ht hk key val
  unfold Oper.wp
  simp [execOp, hop, hm, hx, hv, hrun, Result.andThen]
  exact hK' _ _ (hK w' r1 r2)
end Go.Proofs.YtkbchpaofmlhgaaGreatDoor
