/- The words of a tree, in plain words (a tree without a choice); the rows that hold them. -/
import Derived.Test.YtnhhflnanogpjaaGreatDoorWord3
import Derived.Laws.AppendOwnNone
import Derived.Maps.AppendAt
namespace Go.Proofs.YtnhhflnanogpjaaGreatDoor
open Go.RowKit

def bIf : ByteArray := ⟨#[105, 102]⟩
def bElse : ByteArray := ⟨#[101, 108, 115, 101]⟩
def bThen : ByteArray := ⟨#[116, 104, 101, 110]⟩
def bDo : ByteArray := ⟨#[63, 100, 111]⟩
def bLoop : ByteArray := ⟨#[108, 111, 111, 112]⟩
def bBegin : ByteArray := ⟨#[98, 101, 103, 105, 110]⟩
def bUntil : ByteArray := ⟨#[117, 110, 116, 105, 108]⟩
def bWhile : ByteArray := ⟨#[119, 104, 105, 108, 101]⟩
def bRepeat : ByteArray := ⟨#[114, 101, 112, 101, 97, 116]⟩
def bCase : ByteArray := ⟨#[99, 97, 115, 101]⟩
def bOf : ByteArray := ⟨#[111, 102]⟩
def bEndof : ByteArray := ⟨#[101, 110, 100, 111, 102]⟩
def bEndcase : ByteArray := ⟨#[101, 110, 100, 99, 97, 115, 101]⟩
/-- what stands around the kids of a kind -/
def outA (kind : Int) : List ByteArray :=
  if kind = 4 then [bIf, bElse, bThen] else if kind = 5 then [bDo, bLoop] else if kind = 6 then [bBegin, bUntil] else if kind = 7 then [bBegin, bWhile, bRepeat] else if kind = 11 then [bCase] else []
def pieceF (out : List ByteArray) (i : Nat) (part : List ByteArray) : List ByteArray := (if i < out.length then [out.getD i .empty] else []) ++ part
/-- the first j kids' words, each behind what stands ahead of it -/
def allF (out : List ByteArray) (parts : Nat → List ByteArray) : Nat → List ByteArray
  | 0 => []
  | j + 1 => allF out parts j ++ pieceF out j (parts j)
def endF (kind : Int) (out all : List ByteArray) : List ByteArray := if kind = 3 then all else all ++ [out.getD (out.length - 1) .empty]
def ownKind (kind : Int) : Prop := kind = 8 ∨ kind = 9 ∨ kind = 10 ∨ kind = 12 ∨ kind = 13 ∨ kind = 1 ∨ kind = 2
instance (kind : Int) : Decidable (ownKind kind) := by unfold ownKind; exact inferInstance
/-- these are the words of the node at a place -/
def wordsR (l : List NodeV) : Nat → Nat → List ByteArray → Prop
  | 0, _, _ => False
  | d + 1, k, ws =>
    if ownKind (l.getD k NodeV.none).kind then OwnW (l.getD k NodeV.none).n (l.getD k NodeV.none).kind ws
    else if (l.getD k NodeV.none).kind = 11 then 1 ≤ ws.length
    else ∃ parts : Nat → List ByteArray, (∀ i, i < (l.getD k NodeV.none).kids.length → wordsR l d ((l.getD k NodeV.none).kids.getD i 0).toNat (parts i)) ∧
      ws = endF (l.getD k NodeV.none).kind (outA (l.getD k NodeV.none).kind) (allF (outA (l.getD k NodeV.none).kind) parts (l.getD k NodeV.none).kids.length)
/-- how many words there may be -/
def cntF (l : List NodeV) : Nat → Nat → Nat
  | 0, _ => 0
  | d + 1, k => 3 + ((l.getD k NodeV.none).kids.map fun i => 3 + cntF l d i.toNat).sum

/-- a row of words -/
def WordsAt (W : World) (base : Nat) (v : Value) (ws : List ByteArray) : Prop := W.ownsRow base 9 1 v ws.length (ws.map Value.string)
theorem words_row {W : World} {g base : Nat} {ws : List ByteArray} (h : Blk W g 9 (ws.map Value.string).toArray) (hb : base ≤ g) (hl : ws.length ≤ maxLen) : WordsAt W base (.slice (some ⟨g, 0, none⟩) ws.length ws.length) ws :=
  ⟨by simp, .inr ⟨g, ws.length, _, rfl, hb, h, Nat.le_refl _, hl, by simp, by rw [Nat.mul_one]; exact List.take_of_length_le (by simp)⟩⟩
theorem WordsAt.cell {W : World} {base g c : Nat} {ws : List ByteArray} (h : WordsAt W base (.slice (some ⟨g, 0, none⟩) ws.length c) ws) {i : Nat} (hi : i < ws.length) : W.cell? ⟨g, i, none⟩ = some (.string (ws.getD i .empty)) := by
  have h' : W.ownsRow base 9 1 (.slice (some ⟨g, 0, none⟩) ws.length c) ws.length (ws.map Value.string) := h
  have := h'.cellAt i (by simpa using hi)
  rw [this]
  simp [List.getD, List.getElem?_eq_getElem hi]

theorem own_slice' {W : World} {base : Nat} {v : Value} {ws : List ByteArray} (h : WordsAt W base v ws) : ∃ a c, v = .slice a ws.length c := by
  rcases h.2 with ⟨rfl, h0⟩ | ⟨g, cap, cur, rfl, _⟩
  · exact ⟨none, 0, by rw [h0]⟩
  · exact ⟨_, _, rfl⟩
/-- the map of what stands around -/
def GoodA (w0 : World) (k : Int) (v : Value) (W : World) : Prop := ∃ g, v = .slice (some ⟨g, 0, none⟩) (outA k).length (outA k).length ∧ w0.heap.size ≤ g ∧ Blk W g 9 ((outA k).map Value.string).toArray
structure Around (w0 W : World) (mb : Nat) (L : List (Int × Value)) : Prop where
  map : IMap W mb L
  le : w0.heap.size ≤ mb
  t : Touch [] w0 W
  good : ∀ k v, atKey L k = some v → GoodA w0 k v W
theorem GoodA.on {w0 A B : World} {k : Int} {v : Value} (h : GoodA w0 k v A) (o : OnW A B) : GoodA w0 k v B := by
  obtain ⟨g, e, h1, h2⟩ := h
  exact ⟨g, e, h1, o _ _ _ h2⟩
theorem Around.put {w0 W wn : World} {mb n g : Nat} {L : List (Int × Value)} {key : Int} {cs : Array Value} (h : Around w0 W mb L) (hn : IMap wn mb (putKey L key (.slice (some ⟨g, 0, none⟩) n n))) (tn : Touch [mb] (W.alloc (.cells cs 9)) wn)
    (hg : W.heap.size = g) (hc : cs = ((outA key).map Value.string).toArray) (hl : n = (outA key).length) : Around w0 wn mb (putKey L key (.slice (some ⟨g, 0, none⟩) n n)) := by
  subst hc hl hg
  have o1 := OnW.touch ((Touch.refl [] W).alloc (.cells ((outA key).map Value.string).toArray 9))
  have o2 := OnW.map (h.map.alloc (.cells ((outA key).map Value.string).toArray 9)) tn
  refine ⟨hn, h.le, (h.t.alloc _).trans tn (fun g hg => .inr (by rw [List.mem_singleton.1 hg]; exact h.le)), fun k v hk => ?_⟩
  rw [atKey_put] at hk
  split at hk
  · rename_i e
    cases hk
    rw [e]
    exact ⟨W.heap.size, rfl, h.t.size, o2 _ _ _ (Blk.new W _ _)⟩
  · exact ((h.good k v hk).on o1).on o2
theorem Around.new (w : World) : Around w (w.alloc (.map #[] 0)) w.heap.size [] := ⟨IMap.new w, Nat.le_refl _, (Touch.refl [] w).alloc _, fun k v hk => by simp [atKey] at hk⟩

theorem info_str : (Tryz.prog.info? 9).map (fun i => (i.zero, i.size, i.bytes)) = some (some (.string .empty), 1, 16) := by kernel_rfl
theorem info_str' : ∃ i0, Tryz.prog.info? 9 = some i0 ∧ i0.zero = some (.string .empty) ∧ i0.size = 1 ∧ i0.bytes = 16 := by
  have h := info_str
  cases hi : Tryz.prog.info? 9 with
  | none => rw [hi] at h; cases h
  | some i => rw [hi] at h; simp at h; exact ⟨i, rfl, h.1, h.2.1, h.2.2⟩
theorem zero_strs (w : World) : (zeroValue 67).run Tryz.prog w = .ok (.slice none 0 0) w := by kernel_rfl

/-- append of words to words -/
theorem wpList_words {w : World} {ops : Array Oper} {rest : List Oper} {o : Oper} {a : Act} {Q : Exit → Act → World → Prop} (hgd : o.guard = none) (s x : Operand)
    (ho : o.op = .call { callee := .builtin .append, args := #[s, x], argTypes := #[67, 67] })
    (v1 v2 : Value) (ws1 ws2 : List ByteArray) (base base2 : Nat) (hs : a.eval s = v1) (h1 : WordsAt w base v1 ws1) (hx : a.eval x = v2) (h2 : WordsAt w base2 v2 ws2) (hb : ws1.length + ws2.length ≤ 10000000) (hbase : base ≤ w.heap.size)
    (h : ∀ v' w', WordsAt w' base v' (ws1 ++ ws2) → w.grownBy w' v1.ownBlock → (v'.ownBlock = v1.ownBlock ∨ v'.ownBlock = some w.heap.size) → w.heap.size ≤ w'.heap.size → wpList Tryz.prog ops Q rest (a.put o.dst v') w') :
    wpList Tryz.prog ops Q (o :: rest) a w := by
  obtain ⟨i0, hi0, hz0, hz1, hz2⟩ := info_str'
  rcases h2.2 with ⟨rfl, h0⟩ | ⟨g, cap, cur, rfl, _⟩
  · have e0 : ws2 = [] := List.eq_nil_of_length_eq_zero h0
    subst e0
    refine wpList_append_own_none hgd s x 67 ho base 9 i0 1 Tryz.underlying67 hi0 v1 _ _ hs h1 hx ?_
    exact h v1 w (by rw [List.append_nil]; exact h1) ⟨rfl, rfl, rfl, Nat.le_refl _, fun _ _ _ => rfl⟩ (.inl rfl) (Nat.le_refl _)
  · have hn : (ws2.map Value.string).length = ws2.length * 1 := by simp
    refine wpList_append_own_at w hgd s x 67 ho base 9 i0 (.string .empty) 1 16 Tryz.underlying67 hi0 hz0 hz1 hz2 rfl (by decide) v1 ws1.length (ws1.map Value.string) hs h1 ⟨g, 0, none⟩ ws2.length cap (ws2.map Value.string) hx hn (fun j u hj => ?_) (fun u hu => ?_) (by unfold maxLen; omega) (by omega) hbase fun v' w' k1 k2 k3 k4 => ?_
    · have hj2 := (List.getElem?_eq_some_iff.1 hj).1
      have := h2.cell (i := j) (by simpa using hj2)
      rw [show ((⟨g, 0, none⟩ : Addr).add j) = ⟨g, j, none⟩ by simp [Addr.add]; omega]
      rw [this, ← hj]
      have hj3 : j < ws2.length := by simpa using hj2
      rw [List.getElem?_map, List.getD, List.getElem?_eq_getElem hj3]
      rfl
    · obtain ⟨b, _, rfl⟩ := List.mem_map.1 hu
      rfl
    · refine h v' w' ?_ k2 k4 k2.size
      unfold WordsAt
      rw [List.length_append, List.map_append]
      exact k1

theorem clone_words (g : Nat) (ws : List ByteArray) (w : World) (h : Blk w g 9 (ws.map Value.string).toArray) (hl : ws.length ≤ 100) :
    Calls Tryz.prog 52 #[.slice (some ⟨g, 0, none⟩) ws.length ws.length] w fun e w' => ∃ v, e = .returned v ∧ WordsAt w' w.heap.size v ws ∧ Touch [] w w' := by
  by_cases h0 : ws = []
  · subst h0
    exact (Tryz.slices_Clone_string_zero ⟨g, 0, none⟩ 0 w).mono fun e w' ⟨v, e1, e2, _, e3⟩ => ⟨v, e1, e2, Touch.of_below e3 _⟩
  · refine (Tryz.slices_Clone_string g 0 ws.length ws.length ws w (Nat.le_refl _) (by omega) (fun j hj => ?_)).mono fun e w' ⟨v, e1, e2, _, e3⟩ => ⟨v, e1, ?_, Touch.of_below e3 _⟩
    · refine (h.cell (0 + j)).trans ?_
      simp [List.getD, List.getElem?_eq_getElem hj]
    · rw [List.take_length] at e2
      exact e2

/-- the words so far, what stands around, the node -/
structure StW (w wr : World) (all out : List ByteArray) (av ov : Value) (nc : Array Value) : Prop where
  row : WordsAt wr w.heap.size av all
  out : WordsAt wr w.heap.size ov out
  apart : ∀ g ∈ rowOf av, g ∉ rowOf ov ∧ g ≠ w.heap.size
  nb : Blk wr w.heap.size 37 nc
  t : Touch [] w wr
theorem WordsAt.quiet {w w' : World} {base : Nat} {v : Value} {ws : List ByteArray} (h : WordsAt w base v ws) (t : Touch [] w w') : WordsAt w' base v ws := row_touch h t (by simp)
theorem WordsAt.low {w : World} {base b2 : Nat} {v : Value} {ws : List ByteArray} (h : WordsAt w base v ws) (hb : b2 ≤ base) : WordsAt w b2 v ws := by
  refine ⟨h.1, ?_⟩
  rcases h.2 with h | ⟨g, cap, cur, h1, h2, h3⟩
  · exact .inl h
  · exact .inr ⟨g, cap, cur, h1, Nat.le_trans hb h2, h3⟩
theorem StW.quiet {w wr w1 : World} {all out : List ByteArray} {av ov : Value} {nc : Array Value} (h : StW w wr all out av ov nc) (t : Touch [] wr w1) : StW w w1 all out av ov nc :=
  ⟨h.row.quiet t, h.out.quiet t, h.apart, h.nb.touch t (by simp), h.t.trans t (by simp)⟩
theorem StW.app {w wr w' : World} {all all' out : List ByteArray} {av av' ov : Value} {nc : Array Value} (h : StW w wr all out av ov nc) (k1 : WordsAt w' w.heap.size av' all') (k2 : wr.grownBy w' av.ownBlock) (k3 : av'.ownBlock = av.ownBlock ∨ av'.ownBlock = some wr.heap.size) : StW w w' all' out av' ov nc := by
  have hr : ∀ g, some g = av.ownBlock → g ∉ rowOf ov ∧ g ≠ w.heap.size := fun g hg => h.apart g (rowOf_mem.2 hg.symm)
  have hb : ∀ g, some g = av.ownBlock → w.heap.size ≤ g := fun g hg => (World.ownsRow.lt h.row g hg.symm).1
  have t2 : Touch (rowOf av) wr w' := ((Touch.refl (rowOf av) wr)).grown k2 (fun k hk => .inl (rowOf_mem.2 hk))
  refine ⟨k1, row_touch h.out t2 (fun g hg hg2 => (h.apart g hg2).1 hg), fun g hg => ?_, h.nb.touch t2 (fun hg => (h.apart _ hg).2 rfl), h.t.trans t2 (fun g hg => .inr (hb g (rowOf_mem.1 hg).symm))⟩
  have hg' := rowOf_mem.1 hg
  rcases k3 with e | e
  · exact hr g (by rw [← hg', e])
  · rw [hg'] at e
    cases e
    refine ⟨fun h2 => ?_, ?_⟩
    · have := row_lt h.out h2; omega
    · have := h.nb.lt; omega
theorem allF_congr {out : List ByteArray} {p q : Nat → List ByteArray} : ∀ j, (∀ i, i < j → p i = q i) → allF out p j = allF out q j
  | 0, _ => rfl
  | j + 1, h => by
    simp only [allF]
    rw [allF_congr j (fun i hi => h i (by omega)), h j (by omega)]
theorem sum_take_le (l : List Nat) (j : Nat) : (l.take j).sum ≤ l.sum := by
  conv => rhs; rw [← List.take_append_drop j l, List.sum_append]
  omega
theorem sum_take_succ (l : List Nat) (j : Nat) (h : j < l.length) : (l.take (j + 1)).sum = (l.take j).sum + l.getD j 0 := by
  rw [List.take_add_one, List.sum_append, List.getD, List.getElem?_eq_getElem h]
  simp
end Go.Proofs.YtnhhflnanogpjaaGreatDoor
