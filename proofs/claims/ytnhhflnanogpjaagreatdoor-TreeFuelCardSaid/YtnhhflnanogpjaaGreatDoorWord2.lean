/- A node as words: the map of the words of its own, in whatever order it is made. -/
import Derived.Test.YtnhhflnanogpjaaGreatDoorWord1
import Derived.Test.YtnhhflnanogpjaaGreatDoorAnyInv
import Derived.Test.YtnhhflnanogpjaaGreatDoorMaps
import Derived.Test.YtnhhflnanogpjaaGreatDoorMade2
import Derived.Deep.Cut
namespace Go.Proofs.YtnhhflnanogpjaaGreatDoor
open Go.RowKit

/-- the words of a node that has none but its own -/
def OwnW (n : Int) (key : Int) (ws : List ByteArray) : Prop :=
  (key = 8 ∧ ws = [⟨#[105]⟩]) ∨ (key = 9 ∧ ws = [⟨#[108, 101, 97, 118, 101]⟩]) ∨ (key = 10 ∧ ws = [⟨#[116, 104, 114, 111, 119]⟩]) ∨ (key = 12 ∧ ws = [localT n]) ∨ (key = 13 ∧ ws = [⟨#[116, 111]⟩, localT n]) ∨ (key = 1 ∧ ws = [textI n]) ∨ (key = 2 ∧ ∃ s, s.size ≤ 600 ∧ ws = [s])
def GoodW (w0 : World) (n : Int) (key : Int) (v : Value) (W : World) : Prop :=
  ∃ g ws, v = .slice (some ⟨g, 0, none⟩) ws.length ws.length ∧ w0.heap.size ≤ g ∧ Blk W g 9 (ws.map Value.string).toArray ∧ OwnW n key ws
/-- what cells there are stay -/
def OnW (A B : World) : Prop := ∀ g t cs, Blk A g t cs → Blk B g t cs
theorem OnW.touch {A B : World} (t : Touch [] A B) : OnW A B := fun _ _ _ h => h.touch t (by simp)
theorem OnW.map {A B : World} {mb : Nat} {l : List (Int × Value)} (hm : IMap A mb l) (t : Touch [mb] A B) : OnW A B := fun g ty cs h => h.touch t (fun hg => by
  rw [List.mem_singleton.1 hg] at h
  obtain ⟨es, c, he, _⟩ := hm
  unfold Blk at h
  rw [h] at he
  cases he)
theorem GoodW.on {w0 A B : World} {n key : Int} {v : Value} (h : GoodW w0 n key v A) (o : OnW A B) : GoodW w0 n key v B := by
  obtain ⟨g, ws, e, h1, h2, h3⟩ := h
  exact ⟨g, ws, e, h1, o _ _ _ h2, h3⟩

/-- what the slot of an operation of the map's making holds -/
def PV (w0 : World) (b5 : Nat) (n : Int) : Nat → Value → World → Prop
  | 1, v, W => GoodW w0 n 8 v W
  | 3, v, W => GoodW w0 n 9 v W
  | 5, v, W => GoodW w0 n 10 v W
  | 10, v, W => GoodW w0 n 12 v W
  | 15, v, W => GoodW w0 n 13 v W
  | 20, v, W => GoodW w0 n 1 v W
  | 25, v, W => GoodW w0 n 2 v W
  | 7, v, _ => v = .pointer (some ⟨b5, 1, none⟩)
  | 12, v, _ => v = .pointer (some ⟨b5, 1, none⟩)
  | 17, v, _ => v = .pointer (some ⟨b5, 1, none⟩)
  | 22, v, _ => v = .pointer (some ⟨b5, 1, none⟩)
  | 8, v, _ => v = .int .i64 n
  | 13, v, _ => v = .int .i64 n
  | 18, v, _ => v = .int .i64 n
  | 23, v, _ => v = .int .i64 n
  | 9, v, _ => v = .string (localT n)
  | 14, v, _ => v = .string (localT n)
  | 19, v, _ => v = .string (textI n)
  | 24, v, _ => ∃ s : ByteArray, s.size ≤ 600 ∧ v = .string s
  | _, _, _ => True
theorem PV.on {w0 A B : World} {b5 : Nat} {n : Int} (o : OnW A B) (j : Nat) {v : Value} (h : PV w0 b5 n j v A) : PV w0 b5 n j v B := by
  unfold PV at h ⊢
  split at h <;> first | exact h.on o | exact h
def dstW (j : Nat) : Nat := [19, 20, 0, 21, 0, 22, 0, 23, 24, 25, 26, 0, 27, 28, 29, 30, 0, 31, 32, 33, 34, 0, 35, 36, 37, 38, 0, 39, 6].getD j 0
def insW : List (Nat × Int) := [(2, 8), (4, 9), (6, 10), (11, 12), (16, 13), (21, 1), (26, 2)]

structure WInv (w0 : World) (b5 : Nat) (n : Int) (listed : Array Bool) (f : Nat → Value) (W : World) : Prop where
  t : Touch [] w0 W
  pv : ∀ j, j < 29 → listed.getD j false = true → PV w0 b5 n j (f (dstW j)) W
  map : listed.getD 0 false = true → ∃ mb l, f 19 = .map (some mb) ∧ w0.heap.size ≤ mb ∧ IMap W mb l ∧ (∀ k v, atKey l k = some v → GoodW w0 n k v W) ∧ ∀ p ∈ insW, listed.getD p.1 false = true → (atKey l p.2).isSome = true
  m27 : listed.getD 27 false = true → f 39 = f 19
  m28 : listed.getD 28 false = true → f 6 = f 19

theorem atKey_put (l : List (Int × Value)) (k : Int) (v : Value) (x : Int) : atKey (putKey l k v) x = if x = k then some v else atKey l x := by
  induction l with
  | nil =>
    by_cases h : x = k
    · subst h; simp [putKey, atKey]
    · simp [putKey, atKey, h, Ne.symm h]
  | cons p l ih =>
    unfold putKey
    by_cases hp : p.1 = k
    · rw [if_pos hp]
      by_cases h : x = k
      · subst h; simp [atKey]
      · have h1 : ¬ k = x := fun e => h e.symm
        have h2 : ¬ p.1 = x := by rw [hp]; exact h1
        simp [atKey, h, h1, h2]
    · rw [if_neg hp]
      by_cases h : p.1 = x
      · have h1 : ¬ x = k := by rw [← h]; exact hp
        simp [atKey, h, h1]
      · have e1 : atKey (p :: putKey l k v) x = atKey (putKey l k v) x := by simp [atKey, h]
        have e2 : atKey (p :: l) x = atKey l x := by simp [atKey, h]
        rw [e1, e2, ih]

variable {w0 : World} {b5 : Nat} {n : Int} {listed : Array Bool} {f : Nat → Value} {W : World}
/-- an operation that lays a value into a slot of its own; the map is as it was -/
theorem WInv.val (h : WInv w0 b5 n listed f W) {i d : Nat} {v : Value} {W' : World} (hi : i < 27) (h0 : i ≠ 0) (hd : dstW i = d) (hdu : ∀ j, j < 29 → dstW j = d → j = i) (hins : ∀ p ∈ insW, p.1 ≠ i) (t : Touch [] W W') (hv : PV w0 b5 n i v W') :
    WInv w0 b5 n (listed.setIfInBounds i true) (fun j => if j = d then v else f j) W' := by
  have o := OnW.touch t
  have hd19 : ¬ 19 = d := fun e => h0 ((hdu 0 (by omega) (by rw [← e]; rfl)).symm)
  have hd39 : ¬ 39 = d := fun e => by have := hdu 27 (by omega) (by rw [← e]; rfl); omega
  have hd6 : ¬ 6 = d := fun e => by have := hdu 28 (by omega) (by rw [← e]; rfl); omega
  refine ⟨h.t.trans t (by simp), fun j hj hl => ?_, fun hl => ?_, fun hl => ?_, fun hl => ?_⟩
  · by_cases e : j = i
    · subst e
      simp only [hd, if_true]
      exact hv
    · have : ¬ dstW j = d := fun e' => e (hdu j hj e')
      simp only [if_neg this]
      exact (h.pv j hj (by rwa [getD_set_ne (Ne.symm e)] at hl)).on o
  · rw [getD_set_ne h0] at hl
    obtain ⟨mb, l, e, k1, k2, k3, k4⟩ := h.map hl
    refine ⟨mb, l, by simp only [if_neg hd19]; exact e, k1, k2.touch t (by simp), fun k v hk => (k3 k v hk).on o, fun p hp hl => k4 p hp (by rwa [getD_set_ne (fun e => hins p hp e.symm)] at hl)⟩
  · simp only [if_neg hd39, if_neg hd19]
    exact h.m27 (by rwa [getD_set_ne (by omega)] at hl)
  · simp only [if_neg hd6, if_neg hd19]
    exact h.m28 (by rwa [getD_set_ne (by omega)] at hl)
/-- the map is made -/
theorem WInv.made (h : WInv w0 b5 n listed f W) (hn : ∀ p ∈ insW, listed.getD p.1 false = false) (h27 : listed.getD 27 false = false) (h28 : listed.getD 28 false = false) :
    WInv w0 b5 n (listed.setIfInBounds 0 true) (fun j => if j = 19 then .map (some W.heap.size) else f j) (W.alloc (.map #[] 0)) := by
  have t := (Touch.refl [] W).alloc (.map #[] 0)
  have o := OnW.touch t
  refine ⟨h.t.trans t (by simp), fun j hj hl => ?_, fun hl => ?_, fun hl => ?_, fun hl => ?_⟩
  · by_cases e : j = 0
    · subst e; trivial
    · have : ¬ dstW j = 19 := by
        have : ∀ j, j < 29 → j ≠ 0 → dstW j ≠ 19 := by decide
        exact this j hj e
      simp only [if_neg this]
      exact (h.pv j hj (by rwa [getD_set_ne (Ne.symm e)] at hl)).on o
  · refine ⟨W.heap.size, [], by simp, h.t.size, IMap.new W, fun k v hk => by simp [atKey] at hk, fun p hp hl => ?_⟩
    have hz : ∀ p ∈ insW, (0 : Nat) ≠ p.1 := by decide
    rw [getD_set_ne (hz p hp)] at hl
    rw [hn p hp] at hl
    cases hl
  · rw [getD_set_ne (by omega), h27] at hl; cases hl
  · rw [getD_set_ne (by omega), h28] at hl; cases hl
/-- a pair is put in -/
theorem WInv.ins (h : WInv w0 b5 n listed f W) {i : Nat} {key : Int} {mb : Nat} {l : List (Int × Value)} {v : Value} {W' : World} (hi : (i, key) ∈ insW) (hm : f 19 = .map (some mb)) (hmb : w0.heap.size ≤ mb) (hl : IMap W mb l) (k3 : ∀ k v, atKey l k = some v → GoodW w0 n k v W) (k4 : ∀ p ∈ insW, listed.getD p.1 false = true → (atKey l p.2).isSome = true)
    (hv : GoodW w0 n key v W) (hl' : IMap W' mb (putKey l key v)) (t : Touch [mb] W W') : WInv w0 b5 n (listed.setIfInBounds i true) f W' := by
  have o := OnW.map hl t
  have hall : ∀ q ∈ insW, q.1 ≠ 27 ∧ q.1 ≠ 28 ∧ ∀ p ∈ insW, p.1 = q.1 → p.2 = q.2 := by decide
  have hi27 : i ≠ 27 ∧ i ≠ 28 ∧ ∀ p ∈ insW, p.1 = i → p.2 = key := hall _ hi
  refine ⟨h.t.trans t (fun g hg => .inr (by rw [List.mem_singleton.1 hg]; exact hmb)), fun j hj hl => ?_, fun _ => ⟨mb, _, hm, hmb, hl', fun k u hk => ?_, fun p hp hpl => ?_⟩, fun hl => ?_, fun hl => ?_⟩
  · rcases listed_set hl with e | e
    · subst e
      have : ∀ i key, (i, key) ∈ insW → ∀ (v : Value) (W : World), PV w0 b5 n i v W := by
        intro i key hi v W
        simp [insW] at hi
        rcases hi with ⟨rfl, _⟩ | ⟨rfl, _⟩ | ⟨rfl, _⟩ | ⟨rfl, _⟩ | ⟨rfl, _⟩ | ⟨rfl, _⟩ | ⟨rfl, _⟩ <;> trivial
      exact this _ _ hi _ _
    · exact (h.pv j hj e).on o
  · rw [atKey_put] at hk
    split at hk
    · rename_i e
      cases hk
      rw [e]
      exact hv.on o
    · exact (k3 k u hk).on o
  · rw [atKey_put]
    split
    · rfl
    · rename_i e
      rcases listed_set hpl with e2 | e2
      · exact absurd (hi27.2.2 p hp e2) e
      · exact k4 p hp e2
  · exact h.m27 (by rwa [getD_set_ne hi27.1] at hl)
  · exact h.m28 (by rwa [getD_set_ne hi27.2.1] at hl)
/-- the map is handed on -/
theorem WInv.move (h : WInv w0 b5 n listed f W) : WInv w0 b5 n (listed.setIfInBounds 27 true) (fun j => if j = 39 then f 19 else f j) W := by
  refine ⟨h.t, fun j hj hl => ?_, fun hl => ?_, fun _ => rfl, fun hl => ?_⟩
  · by_cases e : j = 27
    · subst e; trivial
    · have : ∀ j, j < 29 → j ≠ 27 → dstW j ≠ 39 := by decide
      simp only [if_neg (this j hj e)]
      exact h.pv j hj (by rwa [getD_set_ne (Ne.symm e)] at hl)
  · rw [getD_set_ne (by decide)] at hl
    obtain ⟨mb, l, e, k1, k2, k3, k4⟩ := h.map hl
    have hz : ∀ p ∈ insW, (27 : Nat) ≠ p.1 := by decide
    exact ⟨mb, l, e, k1, k2, k3, fun p hp hl => k4 p hp (by rwa [getD_set_ne (hz p hp)] at hl)⟩
  · exact h.m28 (by rwa [getD_set_ne (by decide)] at hl)
theorem WInv.assign (h : WInv w0 b5 n listed f W) (h27 : listed.getD 27 false = true) : WInv w0 b5 n (listed.setIfInBounds 28 true) (fun j => if j = 6 then f 39 else f j) W := by
  refine ⟨h.t, fun j hj hl => ?_, fun hl => ?_, fun _ => h.m27 h27, fun hl => h.m27 h27⟩
  · by_cases e : j = 28
    · subst e; trivial
    · have : ∀ j, j < 29 → j ≠ 28 → dstW j ≠ 6 := by decide
      simp only [if_neg (this j hj e)]
      exact h.pv j hj (by rwa [getD_set_ne (Ne.symm e)] at hl)
  · rw [getD_set_ne (by decide)] at hl
    obtain ⟨mb, l, e, k1, k2, k3, k4⟩ := h.map hl
    have hz : ∀ p ∈ insW, (28 : Nat) ≠ p.1 := by decide
    exact ⟨mb, l, e, k1, k2, k3, fun p hp hl => k4 p hp (by rwa [getD_set_ne (hz p hp)] at hl)⟩
theorem WInv.start (hl : ∀ i, listed.getD i false = false) (t : Touch [] w0 W) : WInv w0 b5 n listed f W :=
  ⟨t, fun j _ h => (by rw [hl] at h; cases h), fun h => (by rw [hl] at h; cases h), fun h => (by rw [hl] at h; cases h), fun h => (by rw [hl] at h; cases h)⟩
theorem wp_ins {P : Program} {Q : Exit → Act → World → Prop} {o : Oper} {K : Act → World → Prop} {a : Act} {w w1 : World} {mb : Nat} {key : Int} {val : Value} (t : TypeId) (m x v : Operand) (hop : o.op = .insert t m x v) (hm : a.eval m = .map (some mb)) (hx : a.eval x = .int .i64 key) (hv : a.eval v = val)
    (h : (Instr.mapUpdate t (.map (some mb)) (.int .i64 key) val).run P w = .ok () w1) (k : K (a.put o.dst undef) w1) : o.wp P a w K Q := by
  refine wp_skip ?_ k
  simp [execOp, hop, hm, hx, hv, h, Result.andThen]
theorem PowTab.touch {w w' : World} (h : PowTab w) (t : Touch [] w w') : PowTab w' := by
  unfold PowTab Lib.TabIs World.var? at h ⊢
  rw [gPow] at h ⊢
  simp only [Option.bind_some] at h ⊢
  have hlt : 0 < w.heap.size := by
    rcases Nat.lt_or_ge 0 w.heap.size with h' | h'
    · exact h'
    · rw [Array.getElem?_eq_none h'] at h
      cases h
  rw [t.block _ hlt (by simp)]
  exact h
theorem TabsOk.touch {w w' : World} (h : TabsOk w) (t : Touch [] w w') : TabsOk w' := ⟨h.pow.touch t, h.mx.touch t⟩
theorem not_listed {listed : Array Bool} {i j : Nat} (h : listed.getD i false = true → listed.getD j false = true) (hj : listed.getD j true = false) : listed.getD i false = false := by
  cases e : listed.getD i false with
  | false => rfl
  | true =>
    have := h e
    rw [getD_false hj] at this
    cases this
end Go.Proofs.YtnhhflnanogpjaaGreatDoor
