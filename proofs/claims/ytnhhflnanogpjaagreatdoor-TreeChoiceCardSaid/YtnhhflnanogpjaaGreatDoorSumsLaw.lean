/- The sums of TreeSums, in plain words: what the three loops mean. -/
import Derived.Test.YtnhhflnanogpjaaGreatDoorTreePure
namespace Go.Proofs.YtnhhflnanogpjaaGreatDoor
open Go.RowKit

def doL (a e : Int) : List NodeV := [⟨1, 0, []⟩, ⟨1, e, []⟩, ⟨1, a, []⟩, ⟨8, 0, []⟩, ⟨2, 11, []⟩, ⟨3, 0, [3, 4]⟩, ⟨5, 0, [5]⟩, ⟨3, 0, [0, 1, 2, 6]⟩]
def untilL (a e : Int) : List NodeV := [⟨1, 0, []⟩, ⟨1, a, []⟩, ⟨2, 34, []⟩, ⟨2, 11, []⟩, ⟨2, 30, []⟩, ⟨2, 4, []⟩, ⟨2, 28, []⟩, ⟨1, e, []⟩, ⟨2, 21, []⟩, ⟨3, 0, [2, 3, 4, 5, 6, 7, 8]⟩, ⟨6, 0, [9]⟩, ⟨2, 29, []⟩, ⟨3, 0, [0, 1, 10, 11]⟩]
def whileL (a e : Int) : List NodeV := [⟨1, 0, []⟩, ⟨1, a, []⟩, ⟨2, 28, []⟩, ⟨1, e, []⟩, ⟨2, 23, []⟩, ⟨3, 0, [2, 3, 4]⟩, ⟨2, 34, []⟩, ⟨2, 11, []⟩, ⟨2, 30, []⟩, ⟨2, 4, []⟩, ⟨3, 0, [6, 7, 8, 9]⟩, ⟨7, 0, [5, 10]⟩, ⟨2, 29, []⟩, ⟨3, 0, [0, 1, 11, 12]⟩]

/-- a part came to its end -/
def Does1 {α : Type} (m : Mn α) (r : Run) (a : α) (s : Run) : Prop := m r = (.ok a, s)
theorem Does1.bind {α β : Type} {m : Mn α} {f : α → Mn β} {r s t : Run} {a : α} {b : β} (h : Does1 m r a s) (k : Does1 (f a) s b t) : Does1 (m.bind f) r b t := by
  unfold Does1 Mn.bind at *
  rw [h]
  exact k
theorem Does1.pure {α : Type} (a : α) (r : Run) : Does1 (.pure a) r a r := rfl
theorem goes_step {st lc lp : List Int} {s f b : Nat} (h : s < f) : Does1 stepM ⟨st, lc, lp, s, f, b⟩ () ⟨st, lc, lp, s + 1, f, b⟩ := by
  unfold Does1 stepM
  rw [if_neg (by simp only; omega)]
theorem goes_node {v : NodeV} {kids : List Den} {st lc lp : List Int} {s f b : Nat} {x : Bool} {t : Run} (h : s < f) (k : Does1 (kindD v kids) ⟨st, lc, lp, s + 1, f, b⟩ x t) : Does1 (nodeD v kids) ⟨st, lc, lp, s, f, b⟩ x t := (goes_step h).bind k
theorem goes_push {x : Int} {st lc lp : List Int} {s f b : Nat} (h : st.length < 128) : Does1 (plainD (pushM x)) ⟨st, lc, lp, s, f, b⟩ false ⟨st ++ [x], lc, lp, s, f, b⟩ := by
  refine Does1.bind (a := ()) (s := ⟨st ++ [x], lc, lp, s, f, b⟩) ?_ rfl
  unfold Does1 pushM
  rw [if_neg (by simp only; omega)]
theorem goes_lit {l : List NodeV} {d k : Nat} {n : Int} (hv : l.getD k NodeV.none = ⟨1, n, []⟩) {st lc lp : List Int} {s f b : Nat} (h : s < f) (hl : st.length < 128) : Does1 (denN l (d + 1) k) ⟨st, lc, lp, s, f, b⟩ false ⟨st ++ [n], lc, lp, s + 1, f, b⟩ := by
  show Does1 (nodeD (l.getD k NodeV.none) _) _ _ _
  rw [hv]
  exact goes_node h (goes_push hl)
theorem goes_index {l : List NodeV} {d k : Nat} (hv : l.getD k NodeV.none = ⟨8, 0, []⟩) {st lc lp : List Int} {x : Int} {s f b : Nat} (h : s < f) (hl : st.length < 128) : Does1 (denN l (d + 1) k) ⟨st, lc, lp ++ [x], s, f, b⟩ false ⟨st ++ [x], lc, lp ++ [x], s + 1, f, b⟩ := by
  show Does1 (nodeD (l.getD k NodeV.none) _) _ _ _
  rw [hv]
  refine goes_node h (Does1.bind (a := ()) (s := ⟨st ++ [x], lc, lp ++ [x], s + 1, f, b⟩) ?_ rfl)
  unfold Does1 indexM
  rw [if_neg (by simp)]
  have e : ((⟨st, lc, lp ++ [x], s + 1, f, b⟩ : Run).loops).getD ((⟨st, lc, lp ++ [x], s + 1, f, b⟩ : Run).loops.length - 1) 0 = x := by simp
  rw [e]
  unfold pushM
  rw [if_neg (by simp only; omega)]
/-- a word of two cells -/
theorem goes_two {l : List NodeV} {d k : Nat} {op : Int} (hv : l.getD k NodeV.none = ⟨2, op, []⟩) (hop : 11 ≤ op ∧ op ≤ 27 ∧ op ≠ 14 ∧ op ≠ 15) {x y : Int} {st lc lp : List Int} {s f b : Nat} (h : s < f) (hl : st.length < 126) :
    Does1 (denN l (d + 1) k) ⟨st ++ [x, y], lc, lp, s, f, b⟩ false ⟨st ++ [twoF op x y], lc, lp, s + 1, f, b⟩ := by
  show Does1 (nodeD (l.getD k NodeV.none) _) _ _ _
  rw [hv]
  refine goes_node h ?_
  have hk : kindD ⟨2, op, []⟩ [] = plainD (primM op) := rfl
  show Does1 (kindD ⟨2, op, []⟩ []) _ _ _
  rw [hk]
  refine Does1.bind (a := ()) (s := ⟨st ++ [twoF op x y], lc, lp, s + 1, f, b⟩) ?_ rfl
  unfold primM
  have hm : manyF op = 2 := by unfold manyF; rw [if_neg (by omega), if_pos (by omega)]
  rw [if_neg (by rw [hm]; decide), if_neg (by rw [hm]; decide)]
  refine Does1.bind (a := [x, y]) (s := ⟨st, lc, lp, s + 1, f, b⟩) ?_ ?_
  · unfold Does1 takeM
    rw [if_neg (by simp)]
    simp
  · rw [if_neg (by simp; omega)]
    unfold Does1 pushM
    rw [if_neg (by simp only; omega)]
    rfl
/-- a word of one cell -/
theorem goes_one {l : List NodeV} {d k : Nat} {op : Int} (hv : l.getD k NodeV.none = ⟨2, op, []⟩) (hop : 1 ≤ op ∧ op ≤ 10) {x : Int} {st lc lp : List Int} {s f b : Nat} (h : s < f) (hl : st.length < 127) (h0 : (oneF op x).2 = 0) :
    Does1 (denN l (d + 1) k) ⟨st ++ [x], lc, lp, s, f, b⟩ false ⟨st ++ [(oneF op x).1], lc, lp, s + 1, f, b⟩ := by
  show Does1 (nodeD (l.getD k NodeV.none) _) _ _ _
  rw [hv]
  refine goes_node h ?_
  show Does1 (plainD (primM op)) _ _ _
  refine Does1.bind (a := ()) (s := ⟨st ++ [(oneF op x).1], lc, lp, s + 1, f, b⟩) ?_ rfl
  unfold primM
  have hm : manyF op = 1 := by unfold manyF; rw [if_pos (by omega)]
  rw [if_neg (by rw [hm]; decide), if_pos hm]
  refine Does1.bind (a := [x]) (s := ⟨st, lc, lp, s + 1, f, b⟩) ?_ ?_
  · unfold Does1 takeM
    rw [if_neg (by simp)]
    simp
  · refine Does1.bind (a := ()) (s := ⟨st, lc, lp, s + 1, f, b⟩) ?_ ?_
    · unfold Does1 asksM
      rw [if_pos (by simpa using h0)]
    · unfold Does1 pushM
      rw [if_neg (by simp only; omega)]
      rfl
/-- a word of the stack -/
theorem goes_do {l : List NodeV} {d k : Nat} {op : Int} (hv : l.getD k NodeV.none = ⟨2, op, []⟩) (hop : 28 ≤ op) {st st' lc lp : List Int} {s f b : Nat} (h : s < f) (hd : doF op st = (0, st')) :
    Does1 (denN l (d + 1) k) ⟨st, lc, lp, s, f, b⟩ false ⟨st', lc, lp, s + 1, f, b⟩ := by
  show Does1 (nodeD (l.getD k NodeV.none) _) _ _ _
  rw [hv]
  refine goes_node h ?_
  show Does1 (plainD (primM op)) _ _ _
  refine Does1.bind (a := ()) (s := ⟨st', lc, lp, s + 1, f, b⟩) ?_ rfl
  unfold primM
  have hm : manyF op = 0 := by unfold manyF; rw [if_neg (by omega), if_neg (by omega)]
  rw [if_pos hm]
  unfold Does1 doM
  rw [if_pos (by simp only [hd])]
  simp only [hd]
theorem goes_seq_nil (r : Run) : Does1 (seqD []) r false r := rfl
theorem goes_seq {x : Den} {l : List Den} {r s t : Run} (h : Does1 x r false s) (k : Does1 (seqD l) s false t) : Does1 (seqD (x :: l)) r false t := by
  refine Does1.bind h ?_
  exact k
end Go.Proofs.YtnhhflnanogpjaaGreatDoor
