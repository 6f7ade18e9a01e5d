/- Which nodes are a tree: the walk of Right. -/
import Derived.Test.YtnhhflnanogpjaaGreatDoorRight2
import Derived.Stop.RegionWithIn
import Derived.Sort.CutIn
import Derived.Test.YtnhhflnanogpjaaGreatDoorAnyInvIn
namespace Go.Proofs.YtnhhflnanogpjaaGreatDoor
open Go.RowKit Go.Shelf

attribute [local go_sem] Oper.semAt_some

theorem wideIn {n : Nat} {P : Program} {f : FuncId} {args : Array Value} {w : World} {R : Ending → World → Prop} (h : Calls P f args w R) : CallsIn Fence.wide n P f args w R := callsIn_wide.2 h
theorem wideRound {n : Nat} {P : Program} {f : FuncId} {args : Array Value} {w : World} {R : Ending → World → Prop} (l : Nat) (h : Calls P f args w R) : CallsIn (Fence.wide.inRound l) n P f args w R := CallsIn.inRound l (wideIn h)
theorem Touch.keeps {W W' : World} (h : Touch [] W W') (B : Nat) : KeepsFrom B W W' :=
  ⟨h.size, fun k o _ hk _ => (h.block k (Array.getElem?_eq_some_iff.1 hk).1 (by simp)).trans hk⟩
theorem Blk.own {A B : World} {row : Option Nat} {g : Nat} {t : TypeId} {cs : Array Value} (h : Blk A g t cs) (hg : A.grownBy B row) (hr : ∀ r, row = some r → ∃ o : Obj, A.heap[r]? = some o ∧ o.isCells = false) : Blk B g t cs :=
  h.grown hg fun e => by
    obtain ⟨o, ho, hc⟩ := hr g e.symm
    unfold Blk at h
    rw [h] at ho
    cases ho
    simp [Obj.isCells] at hc

/-- parts lie in a row -/
def PartsAt (W : World) (g n : Nat) (ps : List Within) : Prop :=
  ∃ cs : Array Value, Blk W g 63 cs ∧ cs.size = n * 3 ∧ ∀ i, i < ps.length → cs[i * 3]? = some (.int .i64 (ps.getD i Within.none).first) ∧ cs[i * 3 + 1]? = some (.int .i64 (ps.getD i Within.none).deep) ∧ cs[i * 3 + 2]? = some (.bool (ps.getD i Within.none).leaves)
theorem PartsAt.touch {W W' : World} {g n : Nat} {ps : List Within} {F : List Nat} (h : PartsAt W g n ps) (t : Touch F W W') (hg : g ∉ F) : PartsAt W' g n ps := by
  obtain ⟨cs, h1, h2⟩ := h
  exact ⟨cs, h1.touch t hg, h2⟩
theorem PartsAt.own {A B : World} {row : Option Nat} {g n : Nat} {ps : List Within} (h : PartsAt A g n ps) (hg : A.grownBy B row) (hr : ∀ r, row = some r → ∃ o : Obj, A.heap[r]? = some o ∧ o.isCells = false) : PartsAt B g n ps := by
  obtain ⟨cs, h1, h2⟩ := h
  exact ⟨cs, h1.own hg hr, h2⟩

/-- marks that ranges over a function left among a frame's deferred calls -/
def Marks (n0 : Nat) (W : World) : List Deferred → Prop
  | [] => True
  | d :: ds => (∃ D, d = { target := .collected D, args := #[] } ∧ n0 ≤ D ∧ W.heap[D]? = some (.deferred (some [])) ∧ ∀ x ∈ ds, x.target ≠ .collected D) ∧ Marks n0 W ds
theorem Marks.mono {n0 : Nat} {A B : World} : ∀ {ds : List Deferred}, Marks n0 A ds → (∀ D, n0 ≤ D → A.heap[D]? = some (.deferred (some [])) → (∃ x ∈ ds, x.target = .collected D) → B.heap[D]? = some (.deferred (some []))) → Marks n0 B ds
  | [], _, _ => trivial
  | d :: ds, ⟨⟨D, e, h1, h2, h3⟩, h4⟩, k => ⟨⟨D, e, h1, k D h1 h2 ⟨d, by simp, by rw [e]⟩, h3⟩, h4.mono fun D' g1 g2 ⟨x, hx, hx2⟩ => k D' g1 g2 ⟨x, by simp [hx], hx2⟩⟩
theorem Marks.keeps {n0 : Nat} {A B : World} {ds : List Deferred} (h : Marks n0 A ds) {n1 : Nat} (hn : n1 ≤ n0) (k : KeepsFrom n1 A B) : Marks n0 B ds := h.mono fun D h1 h2 _ => k.same D _ (by omega) h2 rfl
theorem Marks.touch {n0 : Nat} {A B : World} {ds : List Deferred} (h : Marks n0 A ds) {F : List Nat} (t : Touch F A B) (hF : ∀ f ∈ F, f < n0) : Marks n0 B ds := h.mono fun D h1 h2 _ => (t.block D (Array.getElem?_eq_some_iff.1 h2).1 (fun hf => by have := hF D hf; omega)).trans h2
/-- only marks were shut -/
structure Shut (n0 : Nat) (W W' : World) : Prop where
  os : W'.os = W.os
  tape : W'.tape = W.tape
  output : W'.output = W.output
  size : W'.heap.size = W.heap.size
  low : ∀ k, k < n0 → W'.heap[k]? = W.heap[k]?
theorem leaves_marks {F : Fence} {n : Nat} {P : Program} {fn : Func} {tmps : Array Value} {R : Ending → World → Prop} {n0 : Nat} : ∀ (ds : List Deferred) (W : World), Marks n0 W ds → (∀ W', Shut n0 W W' → LeavesIn F n P fn tmps R [] .returning W') → LeavesInM F n P fn tmps R ds .returning W
  | [], W, _, h => h W ⟨rfl, rfl, rfl, rfl, fun _ _ => rfl⟩
  | d :: ds, W, ⟨⟨D, e, h1, h2, h3⟩, h4⟩, h => by
    refine ⟨by simp, .inl ⟨D, _, by rw [e], run_takeDeferred h2, ?_⟩⟩
    refine leaves_marks ds _ (h4.mono fun D' g1 g2 ⟨x, hx, hx2⟩ => ?_) fun W' k => h W' ⟨k.os, k.tape, k.output, by rw [k.size]; simp, fun i hi => (k.low i hi).trans (World.putObj_heap_other (by omega))⟩
    refine (World.putObj_heap_other ?_).trans g2
    rintro rfl
    exact h3 x hx hx2

theorem right_leaves {w W : World} {n : Nat} {ds : List Deferred} {tmps : Array Value} {b : Bool} (h4 : tmps[4]? = some (.pointer (some ⟨w.heap.size, 0, none⟩))) (B : Blk W w.heap.size 4 #[.bool b]) (M : Marks (w.heap.size + 3) W ds) (T : Touch [] w W) :
    LeavesInM Fence.wide n Tryz.prog Tryz.f9 tmps (fun e w' => e = .returned (.bool b) ∧ Below w.heap.size w w') ds .returning W := by
  refine leaves_marks ds W M fun W' k => ?_
  have q0 : W'.cell? ⟨w.heap.size, 0, none⟩ = some (.bool b) := (World.cell?_of_block (k.low _ (by simp only; omega))).trans (B.cell 0)
  refine ⟨.bool b, ?_, rfl, ?_⟩
  · simp [results, Tryz.f9, go_sem, h4, q0]
  · exact ⟨k.os.trans T.os, k.tape.trans T.tape, k.output.trans T.output, by rw [k.size]; exact T.size, fun i hi => (k.low i (by omega)).trans (T.block i hi (by simp))⟩

theorem bad_bool {kind num nl m : Int} {ks : List Int} {nb : Bool} (hm : manyK kind = m) (hnb : numberK kind num nl = nb) (h : ¬ (m < -2 ∨ (0 ≤ m ∧ (ks.length : Int) ≠ m) ∨ (m = -2 ∧ ks.length = 0))) : (!nb) = decide (badNode ⟨kind, num, ks⟩ nl) := by
  subst hm hnb
  cases e : numberK kind num nl with
  | false =>
    symm
    exact decide_eq_true (.inr (.inr (.inr e)))
  | true =>
    symm
    refine decide_eq_false ?_
    rintro (h1 | h1 | h1 | h1)
    · exact h (.inl h1)
    · exact h (.inr (.inl h1))
    · exact h (.inr (.inr h1))
    · simp only at h1
      rw [e] at h1
      cases h1
theorem bad_true {kind num nl m : Int} {ks : List Int} (hm : manyK kind = m) (h : m < -2 ∨ (0 ≤ m ∧ (ks.length : Int) ≠ m) ∨ (m = -2 ∧ ks.length = 0)) : true = decide (badNode ⟨kind, num, ks⟩ nl) := by
  subst hm
  symm
  refine decide_eq_true ?_
  rcases h with h | h | h
  · exact .inl h
  · exact .inr (.inl h)
  · exact .inr (.inr (.inl h))

theorem partsF_none {l : List NodeV} {nl : Int} {k : Nat} (h : partsF l nl k = none) : ∀ j, partsF l nl (k + j) = none
  | 0 => h
  | j + 1 => by
    show partsF l nl (k + j + 1) = none
    simp only [partsF, partsF_none h j]
theorem right_none {l : List NodeV} {nl : Int} {k : Nat} (hk : k ≤ l.length) (h : partsF l nl k = none) : rightB l nl = false := by
  have := partsF_none h (l.length - k)
  rw [show k + (l.length - k) = l.length by omega] at this
  unfold rightB
  split
  · rfl
  · rw [this]
theorem partsF_step {l : List NodeV} {nl : Int} {k : Nat} {ps : List Within} (h : partsF l nl k = some ps) : partsF l nl (k + 1) = (nodeW ps (l.getD k NodeV.none) k nl).map fun p => ps ++ [p] := by
  simp only [partsF, h]

/-- what is no cells is as it was -/
def Low (A B : World) : Prop := ∀ (D : Nat) (o : Obj), A.heap[D]? = some o → o.isCells = false → B.heap[D]? = some o
theorem Low.refl (A : World) : Low A A := fun _ _ h _ => h
theorem Low.others {A B C : World} (h : Low A B) (k : KeepsOthers B C) : Low A C := fun D o h1 h2 => k.same D o (h D o h1 h2) h2
theorem Low.touch {A B C : World} (h : Low A B) (k : Touch [] B C) : Low A C := fun D o h1 h2 => (k.block D (Array.getElem?_eq_some_iff.1 (h D o h1 h2)).1 (by simp)).trans (h D o h1 h2)
theorem Low.grown {A B C : World} {row : Option Nat} (h : Low A B) (hg : B.grownBy C row) (hr : ∀ r, row = some r → A.heap.size ≤ r) : Low A C := fun D o h1 h2 => by
  have hD := (Array.getElem?_eq_some_iff.1 h1).1
  exact (hg.block D (Array.getElem?_eq_some_iff.1 (h D o h1 h2)).1 (fun e => by have := hr D e.symm; omega)).trans (h D o h1 h2)
theorem Marks.low {n0 : Nat} {A B : World} {ds : List Deferred} (h : Marks n0 A ds) (k : Low A B) : Marks n0 B ds := h.mono fun D _ h2 _ => k D _ h2 rfl
theorem Marks.lt {n0 : Nat} {A : World} : ∀ {ds : List Deferred}, Marks n0 A ds → ∀ x ∈ ds, ∃ D, x.target = .collected D ∧ D < A.heap.size
  | _ :: _, ⟨⟨D, e, _, h2, _⟩, h4⟩, x, hx => by
    rcases List.mem_cons.1 hx with rfl | hx
    · exact ⟨D, by rw [e], (Array.getElem?_eq_some_iff.1 h2).1⟩
    · exact h4.lt x hx
theorem Marks.cons {n0 : Nat} {A B : World} {ds : List Deferred} {D : Nat} (h : Marks n0 A ds) (k : Low A B) (hn : n0 ≤ A.heap.size) (hD : A.heap.size ≤ D) (hB : B.heap[D]? = some (.deferred (some []))) : Marks n0 B ({ target := .collected D, args := #[] } :: ds) :=
  ⟨⟨D, rfl, by omega, hB, fun x hx e => by
    obtain ⟨D', h1, h2⟩ := h.lt x hx
    rw [h1] at e
    cases e
    omega⟩, h.low k⟩

structure KidsInv (w W1 W' : World) (ps : List Within) (kind : Int) (at_ n : Nat) (lb : Bool) (bN bP bX : Nat) (nc xc : Array Value) : Prop where
  bN : Blk W' bN 37 nc
  b4 : Blk W' w.heap.size 4 #[.bool false]
  b5 : Blk W' (w.heap.size + 1 + 1) 59 #[.slice (some ⟨w.heap.size + 1, 0, none⟩) n n]
  pa : PartsAt W' (w.heap.size + 1) n ps
  bX : Blk W' bX 35 xc
  t : Touch [] w W'
  low : Low W1 W'
theorem KidsInv.own {w W1 A B : World} {ps : List Within} {kind : Int} {at_ n : Nat} {lb : Bool} {bN bP bX : Nat} {nc xc : Array Value} {row : Option Nat} (h : KidsInv w W1 A ps kind at_ n lb bN bP bX nc xc) (hw : w.heap.size ≤ W1.heap.size) (hg : A.grownBy B row)
    (hr : ∀ r, row = some r → W1.heap.size ≤ r ∧ ∃ o : Obj, A.heap[r]? = some o ∧ o.isCells = false) : KidsInv w W1 B ps kind at_ n lb bN bP bX nc xc :=
  have hr2 := fun r e => (hr r e).2
  ⟨h.bN.own hg hr2, h.b4.own hg hr2, h.b5.own hg hr2, h.pa.own hg hr2, h.bX.own hg hr2, h.t.grown hg (fun r e => .inr (by have := (hr r e).1; omega)), h.low.grown hg (fun r e => (hr r e).1)⟩

theorem PartsAt.far {W : World} {g n : Nat} {ps : List Within} (h : PartsAt W g n ps) {p : Addr} (hp : g ≠ p.block) (u : Value) : PartsAt (W.setCell p u) g n ps := by
  obtain ⟨cs, h1, h2⟩ := h
  exact ⟨cs, h1.far hp u, h2⟩
theorem KidsInv.set4 {w W1 W' : World} {ps : List Within} {kind : Int} {at_ n : Nat} {lb : Bool} {bN bP bX : Nat} {nc xc : Array Value} (h : KidsInv w W1 W' ps kind at_ n lb bN bP bX nc xc) (h1 : w.heap.size < bN) (h2 : w.heap.size < bX) :
    KidsInv w W1 (W'.setCell ⟨w.heap.size, 0, none⟩ (.bool false)) ps kind at_ n lb bN bP bX nc xc :=
  ⟨h.bN.far (by simp only; omega) _, h.b4.set_ 0 _, h.b5.far (by simp only; omega) _, h.pa.far (by simp only; omega) _, h.bX.far (by simp only; omega) _, h.t.setCell (.inr (Nat.le_refl _)) _, h.low.others (KeepsOthers.setCell _ _ _)⟩
theorem KidsInv.setP {w W1 W' : World} {ps : List Within} {kind : Int} {at_ n : Nat} {lb : Bool} {bN bP bX : Nat} {nc xc : Array Value} (h : KidsInv w W1 W' ps kind at_ n lb bN bP bX nc xc) (h1 : bN < bP) (h2 : bP < bX) (h3 : w.heap.size + 1 + 1 < bP) (i : Nat) (u : Value) :
    KidsInv w W1 (W'.setCell ⟨bP, i, none⟩ u) ps kind at_ n lb bN bP bX nc xc :=
  ⟨h.bN.far (by simp only; omega) _, h.b4.far (by simp only; omega) _, h.b5.far (by simp only; omega) _, h.pa.far (by simp only; omega) _, h.bX.far (by simp only; omega) _, h.t.setCell (.inr (by simp only; omega)) _, h.low.others (KeepsOthers.setCell _ _ _)⟩
theorem KidsInv.alloc {w W1 W' : World} {ps : List Within} {kind : Int} {at_ n : Nat} {lb : Bool} {bN bP bX : Nat} {nc xc : Array Value} (h : KidsInv w W1 W' ps kind at_ n lb bN bP bX nc xc) (o : Obj) :
    KidsInv w W1 (W'.alloc o) ps kind at_ n lb bN bP bX nc xc :=
  have t := (Touch.refl [] W').alloc o
  ⟨h.bN.alloc o, h.b4.alloc o, h.b5.alloc o, h.pa.touch t (by simp), h.bX.alloc o, h.t.alloc o, h.low.touch t⟩
theorem KidsInv.drew {w W1 W' : World} {ps : List Within} {kind : Int} {at_ n : Nat} {lb : Bool} {bN bP bX : Nat} {nc xc : Array Value} (h : KidsInv w W1 W' ps kind at_ n lb bN bP bX nc xc) : KidsInv w W1 W'.drew ps kind at_ n lb bN bP bX nc xc :=
  ⟨h.bN, h.b4, h.b5, h.pa, h.bX, h.t.drew, h.low⟩

theorem upto_behind (zs : List Int) : ∀ k, k ≤ zs.length → (upto (behind zs) k).map (·.2) = zs.reverse.take k
  | 0, _ => by simp [upto]
  | k + 1, h => by
    rw [upto_succ, List.map_append, upto_behind zs k (by omega), List.take_add_one]
    congr 1
    rw [List.getElem?_reverse (by omega), List.getElem?_eq_getElem (by omega)]
    simp only [behind, List.getD, List.map_cons, List.map_nil]
    rw [List.getElem?_eq_getElem (by omega)]
    rfl
theorem kidsF_prefix {ps : List Within} {kind : Int} : ∀ (l m : List Int) (p : Within), kidsF ps kind p l = none → kidsF ps kind p (l ++ m) = none
  | [], _, _, h => by simp [kidsF] at h
  | x :: l, m, p, h => by
    simp only [List.cons_append, kidsF] at h ⊢
    cases e : stepK ps kind p x with
    | none => rfl
    | some q => rw [e] at h; exact kidsF_prefix l m q h

theorem PartsAt.put {W : World} {g n k : Nat} {ps : List Within} (h : PartsAt W g n ps) (hl : ps.length = k) (hk : k < n) (x d : Int) (b : Bool) :
    PartsAt (((W.setCell ⟨g, k * 3, none⟩ (.int .i64 x)).setCell ⟨g, k * 3 + 1, none⟩ (.int .i64 d)).setCell ⟨g, k * 3 + 2, none⟩ (.bool b)) g n (ps ++ [⟨x, d, b⟩]) := by
  obtain ⟨cs, h1, h2, h3⟩ := h
  refine ⟨_, ((h1.set_ _ _).set_ _ _).set_ _ _, by simpa using h2, fun i hi => ?_⟩
  rw [List.length_append, List.length_singleton] at hi
  simp only [Array.getElem?_setIfInBounds, Array.size_setIfInBounds]
  by_cases e : i = k
  · subst e
    have e1 : (ps ++ [(⟨x, d, b⟩ : Within)]).getD i Within.none = ⟨x, d, b⟩ := by
      rw [List.getD, List.getElem?_append_right (by omega)]
      simp [hl]
    rw [e1]
    refine ⟨?_, ?_, ?_⟩
    · rw [if_neg (by omega), if_neg (by omega), if_pos rfl, if_pos (by omega)]
    · rw [if_neg (by omega), if_pos rfl, if_pos (by omega)]
    · rw [if_pos rfl, if_pos (by omega)]
  · have e1 : (ps ++ [(⟨x, d, b⟩ : Within)]).getD i Within.none = ps.getD i Within.none := by
      rw [List.getD, List.getElem?_append_left (by omega)]
      rfl
    rw [e1]
    obtain ⟨k0, k1, k2⟩ := h3 i (by omega)
    refine ⟨?_, ?_, ?_⟩
    · rw [if_neg (by omega), if_neg (by omega), if_neg (by omega)]; exact k0
    · rw [if_neg (by omega), if_neg (by omega), if_neg (by omega)]; exact k1
    · rw [if_neg (by omega), if_neg (by omega), if_neg (by omega)]; exact k2

theorem list_all (t : List Value) (m : Nat) (h : t.length = m) : t = (List.range m).map fun j => t.getD j undef := by
  refine List.ext_getElem? fun i => ?_
  rw [List.getElem?_map]
  by_cases hi : i < m
  · rw [List.getElem?_range hi]
    simp [List.getD, List.getElem?_eq_getElem (h ▸ hi)]
  · rw [List.getElem?_eq_none (by omega), List.getElem?_eq_none (by simp; omega)]
    rfl
set_option maxRecDepth 100000 in
theorem frame_intro {g n c nl b : Nat} {Φ : List Deferred → Nat → List Within → Prop} (t : List Value) (ds : List Deferred) (k : Nat) (ps : List Within) (ht : t.length = 144) (e0 : t.getD 0 undef = Value.slice (some ⟨g, 0, none⟩) n c) (e1 : t.getD 1 undef = Value.int .i64 (nl : Int))
    (e4 : t.getD 4 undef = Value.pointer (some ⟨b, 0, none⟩)) (e5 : t.getD 5 undef = Value.pointer (some ⟨b + 1 + 1, 0, none⟩)) (e33 : t.getD 33 undef = Value.slice (some ⟨g, 0, none⟩) n c) (e34 : t.getD 34 undef = Value.int .i64 (n : Int)) (e35 : t.getD 35 undef = Value.int .i64 (k : Int)) (h : Φ ds k ps) :
    ∃ (f : Nat → Value) (ds' : List Deferred) (k : Nat) (ps : List Within), ({ tmps := t.toArray, defers := ds } : Act) = { tmps := #[Value.slice (some ⟨g, 0, none⟩) n c, Value.int .i64 (nl : Int), f 2, f 3, Value.pointer (some ⟨b, 0, none⟩), Value.pointer (some ⟨b + 1 + 1, 0, none⟩), f 6, f 7, f 8, f 9, f 10, f 11, f 12, f 13, f 14, f 15, f 16, f 17, f 18, f 19, f 20, f 21, f 22, f 23, f 24, f 25, f 26, f 27, f 28, f 29, f 30, f 31, f 32, Value.slice (some ⟨g, 0, none⟩) n c, Value.int .i64 (n : Int), Value.int .i64 (k : Int), f 36, f 37, f 38, f 39, f 40, f 41, f 42, f 43, f 44, f 45, f 46, f 47, f 48, f 49, f 50, f 51, f 52, f 53, f 54, f 55, f 56, f 57, f 58, f 59, f 60, f 61, f 62, f 63, f 64, f 65, f 66, f 67, f 68, f 69, f 70, f 71, f 72, f 73, f 74, f 75, f 76, f 77, f 78, f 79, f 80, f 81, f 82, f 83, f 84, f 85, f 86, f 87, f 88, f 89, f 90, f 91, f 92, f 93, f 94, f 95, f 96, f 97, f 98, f 99, f 100, f 101, f 102, f 103, f 104, f 105, f 106, f 107, f 108, f 109, f 110, f 111, f 112, f 113, f 114, f 115, f 116, f 117, f 118, f 119, f 120, f 121, f 122, f 123, f 124, f 125, f 126, f 127, f 128, f 129, f 130, f 131, f 132, f 133, f 134, f 135, f 136, f 137, f 138, f 139, f 140, f 141, f 142, f 143], defers := ds' } ∧ Φ ds' k ps := by
  refine ⟨fun j => t.getD j undef, ds, k, ps, ?_, h⟩
  have e := list_all t 144 ht
  have e2 : t = [t.getD 0 undef, t.getD 1 undef, t.getD 2 undef, t.getD 3 undef, t.getD 4 undef, t.getD 5 undef, t.getD 6 undef, t.getD 7 undef, t.getD 8 undef, t.getD 9 undef, t.getD 10 undef, t.getD 11 undef, t.getD 12 undef, t.getD 13 undef, t.getD 14 undef, t.getD 15 undef, t.getD 16 undef, t.getD 17 undef, t.getD 18 undef, t.getD 19 undef, t.getD 20 undef, t.getD 21 undef, t.getD 22 undef, t.getD 23 undef, t.getD 24 undef, t.getD 25 undef, t.getD 26 undef, t.getD 27 undef, t.getD 28 undef, t.getD 29 undef, t.getD 30 undef, t.getD 31 undef, t.getD 32 undef, t.getD 33 undef, t.getD 34 undef, t.getD 35 undef, t.getD 36 undef, t.getD 37 undef, t.getD 38 undef, t.getD 39 undef, t.getD 40 undef, t.getD 41 undef, t.getD 42 undef, t.getD 43 undef, t.getD 44 undef, t.getD 45 undef, t.getD 46 undef, t.getD 47 undef, t.getD 48 undef, t.getD 49 undef, t.getD 50 undef, t.getD 51 undef, t.getD 52 undef, t.getD 53 undef, t.getD 54 undef, t.getD 55 undef, t.getD 56 undef, t.getD 57 undef, t.getD 58 undef, t.getD 59 undef, t.getD 60 undef, t.getD 61 undef, t.getD 62 undef, t.getD 63 undef, t.getD 64 undef, t.getD 65 undef, t.getD 66 undef, t.getD 67 undef, t.getD 68 undef, t.getD 69 undef, t.getD 70 undef, t.getD 71 undef, t.getD 72 undef, t.getD 73 undef, t.getD 74 undef, t.getD 75 undef, t.getD 76 undef, t.getD 77 undef, t.getD 78 undef, t.getD 79 undef, t.getD 80 undef, t.getD 81 undef, t.getD 82 undef, t.getD 83 undef, t.getD 84 undef, t.getD 85 undef, t.getD 86 undef, t.getD 87 undef, t.getD 88 undef, t.getD 89 undef, t.getD 90 undef, t.getD 91 undef, t.getD 92 undef, t.getD 93 undef, t.getD 94 undef, t.getD 95 undef, t.getD 96 undef, t.getD 97 undef, t.getD 98 undef, t.getD 99 undef, t.getD 100 undef, t.getD 101 undef, t.getD 102 undef, t.getD 103 undef, t.getD 104 undef, t.getD 105 undef, t.getD 106 undef, t.getD 107 undef, t.getD 108 undef, t.getD 109 undef, t.getD 110 undef, t.getD 111 undef, t.getD 112 undef, t.getD 113 undef, t.getD 114 undef, t.getD 115 undef, t.getD 116 undef, t.getD 117 undef, t.getD 118 undef, t.getD 119 undef, t.getD 120 undef, t.getD 121 undef, t.getD 122 undef, t.getD 123 undef, t.getD 124 undef, t.getD 125 undef, t.getD 126 undef, t.getD 127 undef, t.getD 128 undef, t.getD 129 undef, t.getD 130 undef, t.getD 131 undef, t.getD 132 undef, t.getD 133 undef, t.getD 134 undef, t.getD 135 undef, t.getD 136 undef, t.getD 137 undef, t.getD 138 undef, t.getD 139 undef, t.getD 140 undef, t.getD 141 undef, t.getD 142 undef, t.getD 143 undef] := e.trans rfl
  rw [e0, e1, e4, e5, e33, e34, e35] at e2
  exact congrArg (fun t : List Value => ({ tmps := t.toArray, defers := ds } : Act)) e2

set_option maxRecDepth 100000 in
set_option maxHeartbeats 4000000 in
theorem Right_go (l : List NodeV) (lv : Value) (nl : Nat) (w : World) (hN : NodesAt w lv l) (hn1 : nl ≤ 16) (hl1 : 1 ≤ l.length) (hl2 : l.length ≤ 100) (hk : ∀ v ∈ l, v.kids.length ≤ 1000) :
    Calls Tryz.prog 9 #[lv, .int .i64 nl] w fun e w' => e = .returned (.bool (rightB l nl)) ∧ Touch [] w w' := by
  suffices h : CallsIn Fence.wide 10 Tryz.prog 9 #[lv, .int .i64 nl] w fun e w' => e = .returned (.bool (rightB l nl)) ∧ Below w.heap.size w w' from
    (callsIn_wide.1 h).mono fun _ _ h => ⟨h.1, Touch.of_below h.2 _⟩
  have hmany := fun k w => wideIn (n := 9) (many_any k w)
  obtain ⟨g, c, rfl, hc, hcells⟩ := hN
  obtain ⟨R, hR⟩ : ∃ R, rightB l nl = R := ⟨_, rfl⟩
  rw [hR]
  obtain ⟨n, hn⟩ : ∃ n, l.length = n := ⟨_, rfl⟩
  rw [hn] at hl1 hl2 hc hcells ⊢
  have hinfo : (Tryz.prog.info? 63).map (fun i => (i.zero, i.size, i.bytes)) = some (some (.agg #[.int .i64 0, .int .i64 0, .bool false]), 3, 24) := by kernel_rfl
  obtain ⟨i0, hi0, hz⟩ : ∃ i0, Tryz.prog.info? 63 = some i0 ∧ i0.zero = some (.agg #[.int .i64 0, .int .i64 0, .bool false]) ∧ i0.size = 3 ∧ i0.bytes = 24 := by
    cases hi : Tryz.prog.info? 63 with
    | none => rw [hi] at hinfo; cases hinfo
    | some i => rw [hi] at hinfo; simp at hinfo; exact ⟨i, rfl, hinfo.1, hinfo.2.1, hinfo.2.2⟩
  have hmk : ∃ cs0 : Array Value, cs0.size = n * 3 ∧ ∀ w, (Instr.makeSlice 59 (.int .i64 (n : Int)) (.int .i64 (n : Int))).run Tryz.prog w = .ok (.slice (some ⟨w.heap.size, 0, none⟩) n n) (w.alloc (.cells cs0 63)) := by
    refine ⟨madeCells (Value.agg #[.int .i64 0, .int .i64 0, .bool false]).cells (n * 3), by simp [madeCells], fun w => ?_⟩
    have h := run_makeSlice (w := w) (P := Tryz.prog) 59 63 i0 _ Tryz.underlying59 hi0 hz.1 .i64 .i64 n n (by omega) (Int.le_refl _) (by rw [hz.2.1]; omega) (by rw [hz.2.2]; omega) (by omega)
    rw [hz.2.1] at h
    simpa using h
  obtain ⟨cs0, hcs0, hmk⟩ := hmk
  clear hinfo hz hi0
  refine callsIn_of_wp_marks Tryz.func9 rfl trivial ?_ rfl
  simp only [Tryz.ntmps9, List.size_toArray, List.length_cons, List.length_nil, Nat.reduceAdd, Nat.reduceSub, Array.replicate_succ, Array.replicate_zero, List.push_toArray, List.append_toArray, List.nil_append, List.cons_append]
  have h1 : decide ((nl : Int) < 0) = false := by simp
  have h2 : decide ((16 : Int) < nl) = false := by simp; omega
  have h3 : decide ((n : Int) < 1) = false := by simp; omega
  have h4 : decide ((100 : Int) < n) = false := by simp; omega
  gi_wp2_with fail
  have hp0 : PartsAt (((w.alloc (Obj.cells #[Value.bool false] 4)).alloc (Obj.cells cs0 63)).alloc (Obj.cells #[Value.slice (some ⟨w.heap.size + 1, 0, none⟩) n n] 59)) (w.heap.size + 1) n [] := ⟨cs0, (Blk.new_at _ (by simp) _ _).alloc _, hcs0, fun i hi => by simp at hi⟩
  have hB4i : Blk (((w.alloc (Obj.cells #[Value.bool false] 4)).alloc (Obj.cells cs0 63)).alloc (Obj.cells #[Value.slice (some ⟨w.heap.size + 1, 0, none⟩) n n] 59)) w.heap.size 4 #[.bool false] := ((Blk.new w _ _).alloc _).alloc _
  have hB5i : Blk (((w.alloc (Obj.cells #[Value.bool false] 4)).alloc (Obj.cells cs0 63)).alloc (Obj.cells #[Value.slice (some ⟨w.heap.size + 1, 0, none⟩) n n] 59)) (w.heap.size + 1 + 1) 59 #[.slice (some ⟨w.heap.size + 1, 0, none⟩) n n] := Blk.new_at _ (by simp) _ _
  have hT0 : Touch [] w (((w.alloc (Obj.cells #[Value.bool false] 4)).alloc (Obj.cells cs0 63)).alloc (Obj.cells #[Value.slice (some ⟨w.heap.size + 1, 0, none⟩) n n] 59)) := (((Touch.refl [] w).alloc _).alloc _).alloc _
  have hz0 : w.heap.size + 1 + 1 < (((w.alloc (Obj.cells #[Value.bool false] 4)).alloc (Obj.cells cs0 63)).alloc (Obj.cells #[Value.slice (some ⟨w.heap.size + 1, 0, none⟩) n n] 59)).heap.size := by simp
  generalize (((w.alloc (Obj.cells #[Value.bool false] 4)).alloc (Obj.cells cs0 63)).alloc (Obj.cells #[Value.slice (some ⟨w.heap.size + 1, 0, none⟩) n n] 59)) = W0 at *
  clear hmk hcs0 h1 h2 h3 h4
  refine wpIn_loop (fun a W => ∃ (f : Nat → Value) (ds : List Deferred) (k : Nat) (ps : List Within), a = { tmps := #[Value.slice (some ⟨g, 0, none⟩) n c, Value.int .i64 (nl : Int), f 2, f 3, Value.pointer (some ⟨w.heap.size, 0, none⟩), Value.pointer (some ⟨w.heap.size + 1 + 1, 0, none⟩), f 6, f 7, f 8, f 9, f 10, f 11, f 12, f 13, f 14, f 15, f 16, f 17, f 18, f 19, f 20, f 21, f 22, f 23, f 24, f 25, f 26, f 27, f 28, f 29, f 30, f 31, f 32, Value.slice (some ⟨g, 0, none⟩) n c, Value.int .i64 (n : Int), Value.int .i64 (k : Int), f 36, f 37, f 38, f 39, f 40, f 41, f 42, f 43, f 44, f 45, f 46, f 47, f 48, f 49, f 50, f 51, f 52, f 53, f 54, f 55, f 56, f 57, f 58, f 59, f 60, f 61, f 62, f 63, f 64, f 65, f 66, f 67, f 68, f 69, f 70, f 71, f 72, f 73, f 74, f 75, f 76, f 77, f 78, f 79, f 80, f 81, f 82, f 83, f 84, f 85, f 86, f 87, f 88, f 89, f 90, f 91, f 92, f 93, f 94, f 95, f 96, f 97, f 98, f 99, f 100, f 101, f 102, f 103, f 104, f 105, f 106, f 107, f 108, f 109, f 110, f 111, f 112, f 113, f 114, f 115, f 116, f 117, f 118, f 119, f 120, f 121, f 122, f 123, f 124, f 125, f 126, f 127, f 128, f 129, f 130, f 131, f 132, f 133, f 134, f 135, f 136, f 137, f 138, f 139, f 140, f 141, f 142, f 143], defers := ds } ∧ k ≤ n ∧ partsF l nl k = some ps ∧ PartsAt W (w.heap.size + 1) n ps ∧ Blk W w.heap.size 4 #[.bool false] ∧
      Blk W (w.heap.size + 1 + 1) 59 #[.slice (some ⟨w.heap.size + 1, 0, none⟩) n n] ∧ Touch [] w W ∧ Marks (w.heap.size + 3) W ds ∧ w.heap.size + 1 + 1 < W.heap.size)
    (fun a _ => n - (intOf (a.tmps.getD 35 undef)).toNat) ⟨fun j => ([undef, undef, undef, undef, undef, undef, undef, undef, undef, undef, undef, undef, undef, undef, .int .i64 nl, .bool false, .bool false, .int .i64 nl, .bool false, .bool false, .bool false, .slice (some ⟨g, 0, none⟩) n c, .int .i64 n, .bool false, .bool false, .bool false, .slice (some ⟨g, 0, none⟩) n c, .int .i64 n, .bool false, .bool false, .slice (some ⟨g, 0, none⟩) n c, .int .i64 n, .slice (some ⟨w.heap.size + 1, 0, none⟩) n n, undef, undef] : List Value).getD j undef, [], 0, [], rfl, Nat.zero_le _, rfl, hp0, hB4i, hB5i, hT0, trivial, hz0⟩ ?_
  rintro _ W ⟨f, ds, k, ps, rfl, hkn, hps, hPA, hB4, hB5, hT, hM, hsz⟩
  clear hp0 hT0 hz0 hB4i hB5i W0
  by_cases hlt : k < n
  · have hlt' : decide ((k : Int) < n) = true := by simp; omega
    obtain ⟨kv, c0, c1, c2, hkv⟩ := hcells k hlt
    obtain ⟨nv, hnv⟩ : ∃ nv, l.getD k NodeV.none = nv := ⟨_, rfl⟩
    rw [hnv] at c0 c1 hkv
    obtain ⟨kind, num, ks⟩ := nv
    simp only at c0 c1 c2 hkv
    have c0 := cell_quiet hT c0
    have c1 := cell_quiet hT c1
    have c2 := cell_quiet hT c2
    have hkv := hkv.quiet hT
    have hk1 : ks.length ≤ 1000 := by
      have := hk (l.getD k NodeV.none) (by rw [List.getD, List.getElem?_eq_getElem (by omega)]; exact List.getElem_mem _)
      rw [hnv] at this
      exact this
    obtain ⟨ka, kc, rfl⟩ : ∃ ka kc, kv = .slice ka ks.length kc := by
      rcases hkv with ⟨a, c, e, rfl⟩ | ⟨g', off, c', e, _⟩
      · exact ⟨a, c, e⟩
      · exact ⟨_, _, e⟩
    have hH := Lib.hid (And.intro hps (And.intro hnv (And.intro hkv (And.intro hPA (And.intro hB4 (And.intro hB5 (And.intro hT (And.intro hM hsz))))))))
    clear hps hnv hkv hPA hB4 hB5 hT hM hcells
    gi_wp2_with fail
    refine ⟨trivial, (hmany kind _).mono ?_⟩
    rintro _ _ ⟨rfl, rfl⟩
    obtain ⟨m, hm⟩ : ∃ m, manyK kind = m := ⟨_, rfl⟩
    rw [hm]
    gi_upto_region 8 with fail
    have hNum := fun w => wideIn (n := 9) (number_any kind num nl (.slice ka ks.length kc) ⟨_, _, _, rfl⟩ w)
    obtain ⟨bad, hbad⟩ : ∃ b, decide (badNode ⟨kind, num, ks⟩ nl) = b := ⟨_, rfl⟩
    have tN := (Touch.refl [] W).alloc (.cells #[Value.int IntKind.i64 kind, Value.int IntKind.i64 num, Value.slice ka ks.length kc] 37)
    have bN := Blk.new W 37 #[Value.int IntKind.i64 kind, Value.int IntKind.i64 num, Value.slice ka ks.length kc]
    generalize hWN : W.alloc (.cells #[Value.int IntKind.i64 kind, Value.int IntKind.i64 num, Value.slice ka ks.length kc] 37) = WN at *
    have n0 := bN.cell 0
    have n1 := bN.cell 1
    have n2 := bN.cell 2
    have HN := Lib.hid (And.intro hWN (And.intro tN bN))
    clear hWN tN bN
    gi_cut [71] from 43 (fun s71 wr => s71 = .bool bad ∧ Touch [] WN wr)
    case first =>
      have HB := Lib.hid hbad
      obtain ⟨nb, hnb⟩ : ∃ b, numberK kind num nl = b := ⟨_, rfl⟩
      rw [hnb] at hNum
      have HQ := Lib.hid (And.intro hnb hm)
      clear hbad hnb hm
      have hud : ∀ b : Bool, (undef = Value.bool b) = False := fun b => by simp [undef]
      by_cases a1 : m < -2
      · have a1' : decide (m < -2) = true := by simpa using a1
        · gi_wp2_with fail
          all_goals first | (exfalso; (have hx : some undef = some (Value.bool _) := by assumption); simp [undef] at hx; done) | skip
          all_goals try (refine ⟨trivial, ?_⟩)
          all_goals try gi_wp2_with fail
          all_goals gi_meet
          all_goals (refine ⟨?_, Touch.refl _ _⟩; rw [← HB.out]; exact vbool (bad_true HQ.out.2 (by omega)))
      · have a1' : decide (m < -2) = false := by simpa using a1
        by_cases a2 : 0 ≤ m
        · have a2' : decide (0 ≤ m) = true := by simpa using a2
          have a4' : (m == -2) = false := by simp; omega
          have a4 : ¬ m = -2 := by omega
          by_cases a3 : (ks.length : Int) = m
          · have a3' : ((ks.length : Int) != m) = false := by simpa using a3
            have HP := Lib.hid (show ¬ (m < -2 ∨ (0 ≤ m ∧ (ks.length : Int) ≠ m) ∨ (m = -2 ∧ ks.length = 0)) by omega)
            clear a3 a4
            gi_wp2_with fail
            all_goals first | (exfalso; (have hx : some undef = some (Value.bool _) := by assumption); simp [undef] at hx; done) | skip
            refine ⟨trivial, (hNum _).mono ?_⟩
            rintro _ w1 ⟨rfl, t1⟩
            gi_wp2_with fail
            gi_meet
            refine ⟨?_, t1⟩
            rw [← HB.out]
            exact vbool (bad_bool HQ.out.2 HQ.out.1 HP.out)
          · have a3' : ((ks.length : Int) != m) = true := by simpa using a3
            have HP := Lib.hid (show m < -2 ∨ (0 ≤ m ∧ (ks.length : Int) ≠ m) ∨ (m = -2 ∧ ks.length = 0) by omega)
            clear a3 a4
            gi_wp2_with fail
            all_goals first | (exfalso; (have hx : some undef = some (Value.bool _) := by assumption); simp [undef] at hx; done) | skip
            all_goals try (refine ⟨trivial, ?_⟩)
            all_goals try gi_wp2_with fail
            all_goals gi_meet
            all_goals (refine ⟨?_, Touch.refl _ _⟩; rw [← HB.out]; exact vbool (bad_true HQ.out.2 (HP.out)))
        · have a2' : decide (0 ≤ m) = false := by simpa using a2
          by_cases a4 : m = -2
          · have a4' : (m == -2) = true := by simpa using a4
            by_cases a5 : ks.length = 0
            · have a5' : ((ks.length : Int) == 0) = true := by simpa using a5
              have HP := Lib.hid (show m < -2 ∨ (0 ≤ m ∧ (ks.length : Int) ≠ m) ∨ (m = -2 ∧ ks.length = 0) by omega)
              clear a5 a4
              gi_wp2_with fail
              all_goals first | (exfalso; (have hx : some undef = some (Value.bool _) := by assumption); simp [undef] at hx; done) | skip
              all_goals try (refine ⟨trivial, ?_⟩)
              all_goals try gi_wp2_with fail
              all_goals gi_meet
              all_goals (refine ⟨?_, Touch.refl _ _⟩; rw [← HB.out]; exact vbool (bad_true HQ.out.2 (HP.out)))
            · have a5' : ((ks.length : Int) == 0) = false := by simpa using a5
              have HP := Lib.hid (show ¬ (m < -2 ∨ (0 ≤ m ∧ (ks.length : Int) ≠ m) ∨ (m = -2 ∧ ks.length = 0)) by omega)
              clear a5 a4
              gi_wp2_with fail
              all_goals first | (exfalso; (have hx : some undef = some (Value.bool _) := by assumption); simp [undef] at hx; done) | skip
              refine ⟨trivial, (hNum _).mono ?_⟩
              rintro _ w1 ⟨rfl, t1⟩
              gi_wp2_with fail
              gi_meet
              refine ⟨?_, t1⟩
              rw [← HB.out]
              exact vbool (bad_bool HQ.out.2 HQ.out.1 HP.out)
          · have a4' : (m == -2) = false := by simpa using a4
            have HP := Lib.hid (show ¬ (m < -2 ∨ (0 ≤ m ∧ (ks.length : Int) ≠ m) ∨ (m = -2 ∧ ks.length = 0)) by omega)
            clear a4
            gi_wp2_with fail
            all_goals first | (exfalso; (have hx : some undef = some (Value.bool _) := by assumption); simp [undef] at hx; done) | skip
            refine ⟨trivial, (hNum _).mono ?_⟩
            rintro _ w1 ⟨rfl, t1⟩
            gi_wp2_with fail
            gi_meet
            refine ⟨?_, t1⟩
            rw [← HB.out]
            exact vbool (bad_bool HQ.out.2 HQ.out.1 HP.out)
    case rest =>
      obtain ⟨wb, hwb⟩ : ∃ wb, wb = wc := ⟨_, rfl⟩
      subst hwb
      obtain ⟨rfl, tc⟩ := hcut
      obtain ⟨hps, hnv, hkv, hPA, hB4, hB5, hT, hM, hsz⟩ := hH.out
      obtain ⟨hWN, tN, bN⟩ := HN.out
      have hWs : W.heap.size < WN.heap.size := by rw [← hWN]; simp
      have bN := bN.touch tc (by simp)
      have tc2 := tN.trans tc (by simp)
      have hkv := hkv.quiet tc2
      have hPA := hPA.touch tc2 (by simp)
      have hB4 := hB4.touch tc2 (by simp)
      have hB5 := hB5.touch tc2 (by simp)
      have hT := hT.trans tc2 (by simp)
      have hM := hM.touch tc2 (by simp)
      have hsz2 := bN.lt
      have hpsl := (partsF_ok l nl k ps hps).1
      have hpok := (partsF_ok l nl k ps hps).2.1
      clear hWN tN hH HN tc tc2 n0 n1 n2 hNum hWs
      cases bad with
      | true =>
        have hRf : R = false := by
          rw [← hR]
          refine right_none (k := k + 1) (by omega) ?_
          rw [partsF_step hps, hnv]
          unfold nodeW
          rw [if_pos (of_decide_eq_true hbad)]
          rfl
        subst hRf
        have c4 := hB4.cell 0
        have f4 := hB4.frozen 0
        have HH := Lib.hid (And.intro hB4 (And.intro hT (And.intro hM hps)))
        clear hB4 hT hM hps
        gi_wp2_with fail
        exact right_leaves rfl (HH.out.1.set_ 0 _) (HH.out.2.2.1.touch ((Touch.refl [w.heap.size] wb).setCell (by simp) _) (by simp)) (HH.out.2.1.setCell (.inr (Nat.le_refl _)) _)
      | false =>
        have n0 := bN.cell 0
        have n2 := bN.cell 2
        obtain ⟨lb, hlb⟩ : ∃ b, (kind == 9) = b := ⟨_, rfl⟩
        have HH := Lib.hid (And.intro hB4 (And.intro hB5 (And.intro hT (And.intro hM (And.intro hps (And.intro hPA (And.intro hkv (And.intro hnv hbad))))))))
        clear hB4 hB5 hT hM hps hPA hkv hnv hbad
        gi_wp2_with fail
        refine ⟨trivial, (back_in Fence.wide 9 trivial rfl (.slice ka ks.length kc) _ rfl ⟨_, _, _, rfl⟩).mono ?_⟩
        rintro _ _ ⟨rfl, rfl⟩
        have hsN : (wb.alloc (Obj.cells #[Value.int IntKind.i64 (k : Int), Value.int IntKind.i64 0, Value.bool lb] 63)).heap.size = wb.heap.size + 1 := by simp
        rw [hsN]
        have bP := (Blk.new wb 63 #[Value.int IntKind.i64 (k : Int), Value.int IntKind.i64 0, Value.bool lb]).alloc (Obj.cells #[Value.slice ka ks.length kc] 35)
        have bX := Blk.new_at (wb.alloc (Obj.cells #[Value.int IntKind.i64 (k : Int), Value.int IntKind.i64 0, Value.bool lb] 63)) hsN 35 #[Value.slice ka ks.length kc]
        have tX := ((Touch.refl [] wb).alloc (Obj.cells #[Value.int IntKind.i64 (k : Int), Value.int IntKind.i64 0, Value.bool lb] 63)).alloc (Obj.cells #[Value.slice ka ks.length kc] 35)
        generalize (wb.alloc (Obj.cells #[Value.int IntKind.i64 (k : Int), Value.int IntKind.i64 0, Value.bool lb] 63)).alloc (Obj.cells #[Value.slice ka ks.length kc] 35) = W1 at *
        have HX := Lib.hid (And.intro bP (And.intro bX tX))
        clear bP bX tX hsN n0 n2
        gi_wp2_with fail
        obtain ⟨bP, bX, tX⟩ := HX.out
        obtain ⟨hB4, hB5, hT, hM, hps, hPA, hkv, hnv, hbad⟩ := HH.out
        have hXl := bX.lt
        have hXm := tX.size
        obtain ⟨bs, hbs1, hbs2, hbs3, hNums⟩ : ∃ bs : List Nat, wb.heap.size + 1 ∈ bs ∧ (∀ k ∈ bs, k < W1.heap.size) ∧ (∀ k ∈ bs, k = wb.heap.size + 1 ∨ k < wb.heap.size) ∧ Nums bs W1 (.slice ka ks.length kc) ks := by
          have hkv1 := hkv.quiet tX
          rcases hkv with ⟨_, _, e, rfl⟩ | ⟨g', off, c', e, hcs⟩
          · exact ⟨[wb.heap.size + 1], by simp, by simp; omega, by simp, _, _, rfl, .inl rfl⟩
          · by_cases h0 : ks = []
            · exact ⟨[wb.heap.size + 1], by simp, by simp; omega, by simp, _, _, rfl, .inl h0⟩
            · have hpos : 0 < ks.length := List.length_pos_iff.2 h0
              have hgl : g' < wb.heap.size := cell_lt' (hcs 0 hpos)
              injection e with e1 e2 e3
              subst e1 e3
              refine ⟨[wb.heap.size + 1, g'], by simp, ?_, ?_, _, _, rfl, .inr ⟨g', off, rfl, by simp, fun j hj => cell_quiet tX (hcs j hj)⟩⟩
              · intro k hk; simp at hk; omega
              · intro k hk; simp at hk; omega
        have hK0 : KidsInv w W1 W1 ps kind k n lb W.heap.size wb.heap.size (wb.heap.size + 1) #[Value.int IntKind.i64 kind, Value.int IntKind.i64 num, Value.slice ka ks.length kc] #[Value.slice ka ks.length kc] :=
          ⟨bN.touch tX (by simp), hB4.touch tX (by simp), hB5.touch tX (by simp), hPA.touch tX (by simp), bX, hT.trans tX (by simp), Low.refl _⟩
        have hMX := hM.touch tX (by simp)
        have hsz3 : w.heap.size + 3 ≤ W1.heap.size := by omega
        have hTs := hT.size
        have HW := Lib.hid (And.intro hMX (And.intro hps (And.intro hnv (And.intro hbad (And.intro hlb (And.intro hR (And.intro hpok (And.intro hbs3 hmany))))))))
        clear hMX hps hnv hbad hlb hR hpok hB4 hB5 hT hM hPA hkv tX HX HH hmany bN
        refine wpIn_rangeFunc_ownG (F := Fence.wide) rfl (by omega) (gf := 49) (lb := #[.pointer (some ⟨wb.heap.size + 1, 0, none⟩)]) rfl trivial (enters_of Tryz.func49 (by kernel_rfl) rfl)
          (back_stops Fence.wide 9 trivial rfl (by omega) (wb.heap.size + 1) bs _ ks (by omega) W1 hbs1 hbs2 (bX.cell 0) hNums) (fun h k => h.trans k) (fun W l o o' hl _ _ _ => fun k hk => World.putObj_heap_other (by have := hbs2 k hk; omega)) (Below.refl _ _) (fun _ => rfl)
          (fun pre W' => (∃ q, kidsF ps kind ⟨k, 0, lb⟩ (pre.map (·.2)) = some q ∧ Blk W' wb.heap.size 63 #[.int .i64 q.first, .int .i64 q.deep, .bool q.leaves]) ∧ KidsInv w W1 W' ps kind k n lb W.heap.size wb.heap.size (wb.heap.size + 1) #[Value.int IntKind.i64 kind, Value.int IntKind.i64 num, Value.slice ka ks.length kc] #[Value.slice ka ks.length kc])
          (fun c pre W' => c = .ret ∧ kidsF ps kind ⟨k, 0, lb⟩ (pre.map (·.2)) = none ∧ KidsInv w W1 W' ps kind k n lb W.heap.size wb.heap.size (wb.heap.size + 1) #[Value.int IntKind.i64 kind, Value.int IntKind.i64 num, Value.slice ka ks.length kc] #[Value.slice ka ks.length kc])
          (fun s A B row hs hg hr => ⟨by obtain ⟨q, h1, h2⟩ := hs.1; exact ⟨q, h1, h2.own hg (fun r e => (hr r e).2)⟩, hs.2.own (by omega) hg hr⟩)
          (fun c s A B row hs hg hr => ⟨hs.1, hs.2.1, hs.2.2.own (by omega) hg hr⟩)
          ⟨⟨_, rfl, bP⟩, hK0⟩
          (fun x => { tmps := #[Value.slice (some ⟨g, 0, none⟩) n c, Value.int IntKind.i64 (nl : Int), f 2, f 3, Value.pointer (some ⟨w.heap.size, 0, none⟩), Value.pointer (some ⟨w.heap.size + 1 + 1, 0, none⟩), Value.int IntKind.i64 (k : Int), Value.pointer (some ⟨W.heap.size, 0, none⟩), Value.int IntKind.i64 m, Value.pointer (some ⟨wb.heap.size, 0, none⟩), f 10, .int .i64 x.2, f 12, f 13, f 14, f 15, f 16, f 17, f 18, f 19, f 20, f 21, f 22, f 23, f 24, f 25, f 26, f 27, f 28, f 29, f 30, f 31, f 32, Value.slice (some ⟨g, 0, none⟩) n c, Value.int IntKind.i64 (n : Int), Value.int IntKind.i64 (k : Int), Value.bool true, Value.int IntKind.i64 (k : Int), Value.pointer (some ⟨g, k * 3, none⟩), Value.agg #[Value.int IntKind.i64 kind, Value.int IntKind.i64 num, Value.slice ka ks.length kc], Value.pointer (some ⟨W.heap.size, 0, none⟩), Value.int IntKind.i64 kind, Value.int IntKind.i64 m, u43, u44, u45, u46, u47, u48, u49, u50, u51, u52, u53, u54, u55, u56, u57, u58, u59, u60, u61, u62, u63, u64, u65, u66, u67, u68, u69, u70, Value.bool false, Value.int IntKind.i64 (k : Int), Value.pointer (some ⟨W.heap.size, 0, none⟩), Value.int IntKind.i64 kind, Value.bool lb, Value.agg #[Value.int IntKind.i64 (k : Int), Value.int IntKind.i64 0, Value.bool lb], Value.pointer (some ⟨W.heap.size, 2, none⟩), Value.slice ka ks.length kc, Value.func (.func 49) #[] #[Value.pointer (some ⟨wb.heap.size + 1, 0, none⟩)], .int .i64 (x.1 : Int), .int .i64 x.2, u82, u83, u84, u85, u86, u87, u88, u89, u90, u91, u92, u93, u94, u95, u96, u97, u98, u99, u100, u101, u102, u103, u104, u105, u106, u107, u108, u109, u110, u111, u112, u113, u114, u115, u116, u117, u118, u119, u120, u121, u122, u123, u124, u125, u126, u127, u128, u129, u130, u131, u132, u133, u134, u135, u136, u137, u138, u139, u140, u141, u142, u143], defers := [] }) ?assign ?body ?done ?stop
        case assign =>
          intro l x W2 K hK
          gi_wp2
          exact hK
        case body =>
          rename_i xq xk3 xa3 xhsz xc1 xc0 xc2 xhkv xq1 xk2 xa2 xk1 xa1
          clear xa1 xk1 xa2 xk2 xq1 xa3 xk3 xq xc1 xc0 xc2 xhkv
          rintro l pre ⟨xi, y⟩ W2 ⟨⟨q, hq, cP⟩, hI⟩ hlen
          have hqo := (kidsF_ok HW.out.2.2.2.2.2.2.1 (pre.map (·.2)) ⟨k, 0, lb⟩ q (by rw [hpsl]; exact ⟨by simp only; omega, by simp only; omega, Int.le_refl _, by simp only; omega⟩) hq).1
          rw [hpsl] at hqo
          obtain ⟨qf0, qf1, qd0, qd1⟩ := hqo
          obtain ⟨qf, qd, ql⟩ := q
          simp only at qf0 qf1 qd0 qd1 cP
          have hw : IntKind.i64.wrap (qf - 1) = qf - 1 := by rw [IntKind.wrap_i64]; omega
          have p0 := cP.cell 0
          have p1 := cP.cell 1
          have p2 := cP.cell 2
          have q0 := cP.frozen 0
          have q1 := cP.frozen 1
          have q2 := cP.frozen 2
          have b4 := hI.b4.cell 0
          have f4 := hI.b4.frozen 0
          have b5 := hI.b5.cell 0
          have n0 := hI.bN.cell 0
          have hbs3 := HW.out.2.2.2.2.2.2.2.1
          have HQ := Lib.hid hq
          by_cases hst : y < 0 ∨ y ≠ qf - 1
          · have hsn : stepK ps kind ⟨qf, qd, ql⟩ y = none := by unfold stepK; rw [if_pos hst]
            have HI := Lib.hid (And.intro hI (And.intro hsn cP))
            clear hq hI hsn cP hbs3
            have hfin : KeepsFrom W1.heap.size W2 (W2.setCell ⟨w.heap.size, 0, none⟩ (.bool false)) ∧ (Code.ret = Code.ret ∧ kidsF ps kind ⟨k, 0, lb⟩ ((pre ++ [(xi, y)]).map (·.2)) = none ∧ KidsInv w W1 (W2.setCell ⟨w.heap.size, 0, none⟩ (.bool false)) ps kind k n lb W.heap.size wb.heap.size (wb.heap.size + 1) #[Value.int IntKind.i64 kind, Value.int IntKind.i64 num, Value.slice ka ks.length kc] #[Value.slice ka ks.length kc]) := by
              refine ⟨(KeepsOthers.setCell _ _ _).from _, rfl, ?_, HI.out.1.set4 (by omega) (by omega)⟩
              rw [List.map_append]
              show kidsF ps kind _ (pre.map (·.2) ++ [y]) = none
              rw [kidsF_snoc, HQ.out]
              exact HI.out.2.1
            have HN := Lib.hid hfin
            clear hfin
            by_cases hy : y < 0
            · have hy' : decide (y < 0) = true := by simpa using hy
              clear hst hy
              gi_wp2_with fail
              exact ⟨HN.out.1, rfl, HN.out.2.2⟩
            · have hy' : decide (y < 0) = false := by simpa using hy
              have hy2 : (y != qf - 1) = true := by simp; omega
              clear hst hy
              gi_wp2_with fail
              exact ⟨HN.out.1, rfl, HN.out.2.2⟩
          · obtain ⟨j, hj⟩ : ∃ j : Nat, y = j := ⟨y.toNat, by omega⟩
            subst hj
            have hjk : j < k := by omega
            have hy' : decide ((j : Int) < 0) = false := by simp
            have hy2 : ((j : Int) != qf - 1) = false := by simp; omega
            have hjn : decide ((j : Int) < n) = true := by simp; omega
            have hjn2 : j < n := by omega
            obtain ⟨z, hz⟩ : ∃ z, ps.getD j Within.none = z := ⟨_, rfl⟩
            have hss : stepK ps kind ⟨qf, qd, ql⟩ j = some ⟨z.first, max qd z.deep, ql || (z.leaves && decide (kind ≠ 5))⟩ := by
              unfold stepK
              rw [if_neg hst]
              simp only [Int.toNat_natCast, hz]
            obtain ⟨cs, hcs, hcsz, hcc⟩ := id hI.pa
            obtain ⟨e0, e1, e2⟩ := hcc j (by omega)
            rw [hz] at e0 e1 e2
            have r0 := (hcs.cell (j * 3)).trans e0
            have r1 := (hcs.cell (j * 3 + 1)).trans e1
            have r2 := (hcs.cell (j * 3 + 2)).trans e2
            have hPl := cP.lt
            have hXl3 := hI.bX.lt
            obtain ⟨zf, zd, zl⟩ := z
            simp only at r0 r1 r2 hss
            have HI := Lib.hid (And.intro hI (And.intro hss (And.intro cP hbs3)))
            clear hq hI hss cP hbs3 hst e0 e1 e2 hcc hcsz hcs hz
            gi_wp2_with fail
            obtain ⟨hI, hss, cP, hbs3⟩ := HI.out
            have bZ := Blk.new W2 63 #[Value.int IntKind.i64 zf, Value.int IntKind.i64 zd, Value.bool zl]
            have tZ := (Touch.refl [] W2).alloc (Obj.cells #[Value.int IntKind.i64 zf, Value.int IntKind.i64 zd, Value.bool zl] 63)
            have hI := hI.alloc (Obj.cells #[Value.int IntKind.i64 zf, Value.int IntKind.i64 zd, Value.bool zl] 63)
            have cP := cP.alloc (Obj.cells #[Value.int IntKind.i64 zf, Value.int IntKind.i64 zd, Value.bool zl] 63)
            have hZl := bZ.lt
            generalize W2.alloc (Obj.cells #[Value.int IntKind.i64 zf, Value.int IntKind.i64 zd, Value.bool zl] 63) = WZ at *
            have z0 := bZ.cell 0
            have z1 := bZ.cell 1
            have z2 := bZ.cell 2
            have p0 := cP.cell 0
            have p1 := cP.cell 1
            have p2 := cP.cell 2
            have q0 := cP.frozen 0
            have q1 := cP.frozen 1
            have q2 := cP.frozen 2
            have n0 := hI.bN.cell 0
            have hPZ : wb.heap.size ≠ W2.heap.size := by omega
            have hNP : W.heap.size ≠ wb.heap.size := by omega
            have HI2 := Lib.hid (And.intro hI (And.intro hss (And.intro cP (And.intro hbs3 (And.intro bZ tZ)))))
            clear hI hss cP hbs3 bZ tZ HI r0 r1 r2 b4 f4 b5 hjn hy' hy2 hw qf0 qf1 qd0 qd1 hjk hjn2
            gi_cut [] from 95 (fun wr => wr = ((WZ.drew.setCell ⟨wb.heap.size, 0, none⟩ (.int .i64 zf)).setCell ⟨wb.heap.size, 1, none⟩ (.int .i64 (max qd zd))))
            case first =>
              have z0' : ∀ u : Value, (WZ.drew.setCell ⟨wb.heap.size, 0, none⟩ u).cell? ⟨W2.heap.size, 1, none⟩ = some (.int .i64 zd) := fun u => (HI2.out.2.2.2.2.1.drew.far (by simp only; omega) u).cell 1
              have tab : ∃ tab : List (Nat × Nat × Value), tab = [(0, 95, Value.pointer (some ⟨W2.heap.size, 0, none⟩)), (1, 96, Value.int .i64 zf), (2, 97, Value.pointer (some ⟨wb.heap.size, 1, none⟩)), (3, 98, Value.int .i64 qd), (4, 99, Value.pointer (some ⟨W2.heap.size, 1, none⟩)), (5, 100, Value.int .i64 zd), (6, 101, Value.int .i64 (max qd zd)), (7, 102, Value.pointer (some ⟨wb.heap.size, 0, none⟩)), (9, 103, Value.pointer (some ⟨wb.heap.size, 1, none⟩))] := ⟨_, rfl⟩
              obtain ⟨tab, htab⟩ := tab
              have HT := Lib.hid htab
              clear htab
              refine regionIn_inv (fun listed a Wx => ∃ f2 : Nat → Value, a = { tmps := #[Value.slice (some ⟨g, 0, none⟩) n c, Value.int IntKind.i64 (nl : Int), f 2, f 3, Value.pointer (some ⟨w.heap.size, 0, none⟩), Value.pointer (some ⟨w.heap.size + 1 + 1, 0, none⟩), Value.int IntKind.i64 (k : Int), Value.pointer (some ⟨W.heap.size, 0, none⟩), Value.int IntKind.i64 m, Value.pointer (some ⟨wb.heap.size, 0, none⟩), f 10, .int .i64 (j : Int), Value.pointer (some ⟨W2.heap.size, 0, none⟩), f 13, f 14, f 15, f 16, f 17, f 18, f 19, f 20, f 21, f 22, f 23, f 24, f 25, f 26, f 27, f 28, f 29, f 30, f 31, f 32, Value.slice (some ⟨g, 0, none⟩) n c, Value.int IntKind.i64 (n : Int), Value.int IntKind.i64 (k : Int), Value.bool true, Value.int IntKind.i64 (k : Int), Value.pointer (some ⟨g, k * 3, none⟩), Value.agg #[Value.int IntKind.i64 kind, Value.int IntKind.i64 num, Value.slice ka ks.length kc], Value.pointer (some ⟨W.heap.size, 0, none⟩), Value.int IntKind.i64 kind, Value.int IntKind.i64 m, u43, u44, u45, u46, u47, u48, u49, u50, u51, u52, u53, u54, u55, u56, u57, u58, u59, u60, u61, u62, u63, u64, u65, u66, u67, u68, u69, u70, Value.bool false, Value.int IntKind.i64 (k : Int), Value.pointer (some ⟨W.heap.size, 0, none⟩), Value.int IntKind.i64 kind, Value.bool lb, Value.agg #[Value.int IntKind.i64 (k : Int), Value.int IntKind.i64 0, Value.bool lb], Value.pointer (some ⟨W.heap.size, 2, none⟩), Value.slice ka ks.length kc, Value.func (.func 49) #[] #[Value.pointer (some ⟨wb.heap.size + 1, 0, none⟩)], .int .i64 (xi : Int), .int .i64 (j : Int), Value.int IntKind.i64 (j : Int), Value.bool false, Value.bool false, Value.int IntKind.i64 (j : Int), Value.pointer (some ⟨wb.heap.size, 0, none⟩), Value.int IntKind.i64 qf, Value.int IntKind.i64 (qf - 1), Value.bool false, Value.bool false, Value.slice (some ⟨w.heap.size + 1, 0, none⟩) n n, Value.int IntKind.i64 (j : Int), Value.pointer (some ⟨w.heap.size + 1, j * 3, none⟩), Value.agg #[Value.int IntKind.i64 zf, Value.int IntKind.i64 zd, Value.bool zl], f2 95, f2 96, f2 97, f2 98, f2 99, f2 100, f2 101, f2 102, f2 103, f2 104, f2 105, f2 106, f2 107, f2 108, f2 109, f2 110, f2 111, f2 112, f2 113, f2 114, f2 115, f2 116, f2 117, f2 118, f2 119, f2 120, f2 121, f2 122, f2 123, f2 124, f2 125, f2 126, f2 127, f2 128, f2 129, f2 130, f2 131, f2 132, f2 133, f2 134, f2 135, f2 136, f2 137, f2 138, f2 139, f2 140, f2 141, f2 142, f2 143], defers := [] } ∧ TabOk tab listed f2 ∧ Wx = (if listed.getD 10 false then ((WZ.drew.setCell ⟨wb.heap.size, 0, none⟩ (.int .i64 zf)).setCell ⟨wb.heap.size, 1, none⟩ (.int .i64 (max qd zd))) else if listed.getD 8 false then (WZ.drew.setCell ⟨wb.heap.size, 0, none⟩ (.int .i64 zf)) else WZ.drew)) (by kernel_rfl) (by kernel_rfl) ?h0 ?step ?fin
              case h0 =>
                intro listed hs hl
                refine ⟨fun j => ([undef, undef, undef, undef, undef, undef, undef, undef, undef, undef, undef, undef, undef, undef, undef, undef, undef, undef, undef, undef, undef, undef, undef, undef, undef, undef, undef, undef, undef, undef, undef, undef, undef, undef, undef, undef, undef, undef, undef, undef, undef, undef, undef, undef, undef, undef, undef, undef, undef, undef, undef, undef, undef, undef, undef, undef, undef, undef, undef, undef, undef, undef, undef, undef, undef, undef, undef, undef, undef, undef, undef, undef, undef, undef, undef, undef, undef, undef, undef, undef, undef, undef, undef, undef, undef, undef, undef, undef, undef, undef, undef, undef, undef, undef, undef, u95, u96, u97, u98, u99, u100, u101, u102, u103, u104, u105, u106, u107, u108, u109, u110, u111, u112, u113, u114, u115, u116, u117, u118, u119, u120, u121, u122, u123, u124, u125, u126, u127, u128, u129, u130, u131, u132, u133, u134, u135, u136, u137, u138, u139, u140, u141, u142, u143] : List Value).getD j undef, rfl, fun x hx h => ?_, ?_⟩
                · rw [hl] at h; cases h
                · rw [hl 10, hl 8]; rfl
              case step =>
                rintro listed a Wx ⟨f2, rfl, hT2, hWx⟩ hC i o ho hli hdep
                dsimp only
                have hi : i < 11 := (Array.getElem?_eq_some_iff.1 ho).1
                rcases (by omega : i = 0 ∨ i = 1 ∨ i = 2 ∨ i = 3 ∨ i = 4 ∨ i = 5 ∨ i = 6 ∨ i = 7 ∨ i = 8 ∨ i = 9 ∨ i = 10) with rfl | rfl | rfl | rfl | rfl | rfl | rfl | rfl | rfl | rfl | rfl
                · cases (show some _ = some o from ho)
                  refine wpOpIn_of ho rfl ?_
                  refine wpIn_value (w1 := Wx) (v := .pointer (some ⟨W2.heap.size, 0, none⟩)) (fun _ _ => trivial) ?_ ⟨fun j => if j = 95 then .pointer (some ⟨W2.heap.size, 0, none⟩) else f2 j, rfl, hT2.step (by rw [HT.out]; simp), by rw [getD_set_ne (by decide), getD_set_ne (by decide)]; exact hWx⟩
                  clear hWx hT2
                  first | (go_simp; done) | (go_simp; rfl)
                · cases (show some _ = some o from ho)
                  refine wpOpIn_of ho rfl ?_
                  have g0 : f2 95 = .pointer (some ⟨W2.heap.size, 0, none⟩) := hT2 (0, 95, .pointer (some ⟨W2.heap.size, 0, none⟩)) (by rw [HT.out]; simp) (hdep { on := 0, ground := .data } (by simp) rfl)
                  have hn : listed.getD 10 false = false := by
                    cases e : listed.getD 10 false with
                    | false => rfl
                    | true =>
                      have h1 := hC 10 _ rfl e { on := 1, ground := .phase } (by simp) rfl
                      have h2 := getD_false hli
                      rw [h1] at h2; cases h2
                  refine wpIn_value (w1 := Wx) (v := .int .i64 zf) (fun _ _ => trivial) ?_ ⟨fun j => if j = 96 then .int .i64 zf else f2 j, rfl, hT2.step (by rw [HT.out]; simp), by rw [getD_set_ne (by decide), getD_set_ne (by decide)]; exact hWx⟩
                  have hc : Wx.cell? ⟨W2.heap.size, 0, none⟩ = some (.int .i64 zf) := by
                    rw [hWx, hn]
                    cases listed.getD 8 false
                    · exact HI2.out.2.2.2.2.1.drew.cell 0
                    · exact (HI2.out.2.2.2.2.1.drew.far (by simp only; omega) _).cell 0
                  clear hWx hT2
                  first | (go_simp; done) | (go_simp; rfl)
                · cases (show some _ = some o from ho)
                  refine wpOpIn_of ho rfl ?_
                  refine wpIn_value (w1 := Wx) (v := .pointer (some ⟨wb.heap.size, 1, none⟩)) (fun _ _ => trivial) ?_ ⟨fun j => if j = 97 then .pointer (some ⟨wb.heap.size, 1, none⟩) else f2 j, rfl, hT2.step (by rw [HT.out]; simp), by rw [getD_set_ne (by decide), getD_set_ne (by decide)]; exact hWx⟩
                  clear hWx hT2
                  first | (go_simp; done) | (go_simp; rfl)
                · cases (show some _ = some o from ho)
                  refine wpOpIn_of ho rfl ?_
                  have g2 : f2 97 = .pointer (some ⟨wb.heap.size, 1, none⟩) := hT2 (2, 97, .pointer (some ⟨wb.heap.size, 1, none⟩)) (by rw [HT.out]; simp) (hdep { on := 2, ground := .data } (by simp) rfl)
                  have hn : listed.getD 10 false = false := by
                    cases e : listed.getD 10 false with
                    | false => rfl
                    | true =>
                      have h1 := hC 10 _ rfl e { on := 3, ground := .phase } (by simp) rfl
                      have h2 := getD_false hli
                      rw [h1] at h2; cases h2
                  refine wpIn_value (w1 := Wx) (v := .int .i64 qd) (fun _ _ => trivial) ?_ ⟨fun j => if j = 98 then .int .i64 qd else f2 j, rfl, hT2.step (by rw [HT.out]; simp), by rw [getD_set_ne (by decide), getD_set_ne (by decide)]; exact hWx⟩
                  have hc : Wx.cell? ⟨wb.heap.size, 1, none⟩ = some (.int .i64 qd) := by
                    rw [hWx, hn]
                    cases listed.getD 8 false
                    · exact HI2.out.2.2.1.drew.cell 1
                    · exact (HI2.out.2.2.1.drew.set_ 0 _).cell 1
                  clear hWx hT2
                  first | (go_simp; done) | (go_simp; rfl)
                · cases (show some _ = some o from ho)
                  refine wpOpIn_of ho rfl ?_
                  refine wpIn_value (w1 := Wx) (v := .pointer (some ⟨W2.heap.size, 1, none⟩)) (fun _ _ => trivial) ?_ ⟨fun j => if j = 99 then .pointer (some ⟨W2.heap.size, 1, none⟩) else f2 j, rfl, hT2.step (by rw [HT.out]; simp), by rw [getD_set_ne (by decide), getD_set_ne (by decide)]; exact hWx⟩
                  clear hWx hT2
                  first | (go_simp; done) | (go_simp; rfl)
                · cases (show some _ = some o from ho)
                  refine wpOpIn_of ho rfl ?_
                  have g4 : f2 99 = .pointer (some ⟨W2.heap.size, 1, none⟩) := hT2 (4, 99, .pointer (some ⟨W2.heap.size, 1, none⟩)) (by rw [HT.out]; simp) (hdep { on := 4, ground := .data } (by simp) rfl)
                  have hn : listed.getD 10 false = false := by
                    cases e : listed.getD 10 false with
                    | false => rfl
                    | true =>
                      have h1 := hC 10 _ rfl e { on := 5, ground := .phase } (by simp) rfl
                      have h2 := getD_false hli
                      rw [h1] at h2; cases h2
                  refine wpIn_value (w1 := Wx) (v := .int .i64 zd) (fun _ _ => trivial) ?_ ⟨fun j => if j = 100 then .int .i64 zd else f2 j, rfl, hT2.step (by rw [HT.out]; simp), by rw [getD_set_ne (by decide), getD_set_ne (by decide)]; exact hWx⟩
                  have hc : Wx.cell? ⟨W2.heap.size, 1, none⟩ = some (.int .i64 zd) := by
                    rw [hWx, hn]
                    cases listed.getD 8 false
                    · exact HI2.out.2.2.2.2.1.drew.cell 1
                    · exact (HI2.out.2.2.2.2.1.drew.far (by simp only; omega) _).cell 1
                  clear hWx hT2
                  first | (go_simp; done) | (go_simp; rfl)
                · cases (show some _ = some o from ho)
                  refine wpOpIn_of ho rfl ?_
                  have g3 : f2 98 = .int .i64 qd := hT2 (3, 98, .int .i64 qd) (by rw [HT.out]; simp) (hdep { on := 3, ground := .data } (by simp) rfl)
                  have g5 : f2 100 = .int .i64 zd := hT2 (5, 100, .int .i64 zd) (by rw [HT.out]; simp) (hdep { on := 5, ground := .data } (by simp) rfl)
                  refine wpIn_value (w1 := Wx) (v := .int .i64 (max qd zd)) (fun _ _ => trivial) ?_ ⟨fun j => if j = 101 then .int .i64 (max qd zd) else f2 j, rfl, hT2.step (by rw [HT.out]; simp), by rw [getD_set_ne (by decide), getD_set_ne (by decide)]; exact hWx⟩
                  clear hWx hT2
                  first | (go_simp; done) | (go_simp; rfl)
                · cases (show some _ = some o from ho)
                  refine wpOpIn_of ho rfl ?_
                  refine wpIn_value (w1 := Wx) (v := .pointer (some ⟨wb.heap.size, 0, none⟩)) (fun _ _ => trivial) ?_ ⟨fun j => if j = 102 then .pointer (some ⟨wb.heap.size, 0, none⟩) else f2 j, rfl, hT2.step (by rw [HT.out]; simp), by rw [getD_set_ne (by decide), getD_set_ne (by decide)]; exact hWx⟩
                  clear hWx hT2
                  first | (go_simp; done) | (go_simp; rfl)
                · have ho2 := ho
                  simp only [List.getElem?_toArray, List.getElem?_cons_succ, List.getElem?_cons_zero, Option.some.injEq] at ho
                  subst ho
                  refine wpOpIn_of ho2 rfl ?_
                  have g7 : f2 102 = .pointer (some ⟨wb.heap.size, 0, none⟩) := hT2 (7, 102, .pointer (some ⟨wb.heap.size, 0, none⟩)) (by rw [HT.out]; simp) (hdep { on := 7, ground := .data } (by simp) rfl)
                  have g1 : f2 96 = .int .i64 zf := hT2 (1, 96, .int .i64 zf) (by rw [HT.out]; simp) (hdep { on := 1, ground := .data } (by simp) rfl)
                  have hn : listed.getD 10 false = false := by
                    cases e : listed.getD 10 false with
                    | false => rfl
                    | true =>
                      have h1 := hC 10 _ rfl e { on := 8, ground := .chain } (by simp) rfl
                      have h2 := getD_false hli
                      rw [h1] at h2; cases h2
                  rw [hn, getD_false hli] at hWx
                  have hWx : Wx = WZ.drew := hWx
                  subst hWx
                  have c0 := HI2.out.2.2.1.drew.cell 0
                  have d0 := HI2.out.2.2.1.drew.frozen 0
                  exact wpIn_store 3 (.tmp 102) (.tmp 96) rfl (show f2 102 = _ from g7) (show f2 96 = _ from g1) (fun _ _ => trivial) (run_store_int c0 d0 _) ⟨f2, rfl, hT2.keep (by rw [HT.out]; simp), by rw [getD_set_ne (by decide), hn, getD_set_same hli]; rfl⟩
                · cases (show some _ = some o from ho)
                  refine wpOpIn_of ho rfl ?_
                  refine wpIn_value (w1 := Wx) (v := .pointer (some ⟨wb.heap.size, 1, none⟩)) (fun _ _ => trivial) ?_ ⟨fun j => if j = 103 then .pointer (some ⟨wb.heap.size, 1, none⟩) else f2 j, rfl, hT2.step (by rw [HT.out]; simp), by rw [getD_set_ne (by decide), getD_set_ne (by decide)]; exact hWx⟩
                  clear hWx hT2
                  first | (go_simp; done) | (go_simp; rfl)
                · have ho2 := ho
                  simp only [List.getElem?_toArray, List.getElem?_cons_succ, List.getElem?_cons_zero, Option.some.injEq] at ho
                  subst ho
                  refine wpOpIn_of ho2 rfl ?_
                  have g9 : f2 103 = .pointer (some ⟨wb.heap.size, 1, none⟩) := hT2 (9, 103, .pointer (some ⟨wb.heap.size, 1, none⟩)) (by rw [HT.out]; simp) (hdep { on := 9, ground := .data } (by simp) rfl)
                  have g6 : f2 101 = .int .i64 (max qd zd) := hT2 (6, 101, .int .i64 (max qd zd)) (by rw [HT.out]; simp) (hdep { on := 6, ground := .data } (by simp) rfl)
                  have h8 := hdep { on := 8, ground := .chain } (by simp) rfl
                  rw [h8, getD_false hli] at hWx
                  have hWx : Wx = WZ.drew.setCell ⟨wb.heap.size, 0, none⟩ (.int .i64 zf) := hWx
                  subst hWx
                  have c0 := (HI2.out.2.2.1.drew.set_ 0 (.int .i64 zf)).cell 1
                  have d0 := (HI2.out.2.2.1.drew.set_ 0 (.int .i64 zf)).frozen 1
                  exact wpIn_store 3 (.tmp 103) (.tmp 101) rfl (show f2 103 = _ from g9) (show f2 101 = _ from g6) (fun _ _ => trivial) (run_store_int c0 d0 _) ⟨f2, rfl, hT2.keep (by rw [HT.out]; simp), by rw [getD_set_same hli]; rfl⟩
              case fin =>
                rintro listed a Wx hl ⟨f2, rfl, hT2, hWx⟩
                rw [hl 10 (by decide)] at hWx
                rename_i J1 K1 hJ1 hK1
                refine hK1 _ _ (Met.intro (hJ1 _ _ ?_))
                (repeat apply Exists.intro)
                exact ⟨hWx, rfl⟩
            case rest =>
              subst hcut
              obtain ⟨hI, hss, cP, hbs3, bZ, tZ⟩ := HI2.out
              have hXl2 := hI.bX.lt
              have cP : Blk ((WZ.drew.setCell ⟨wb.heap.size, 0, none⟩ (.int .i64 zf)).setCell ⟨wb.heap.size, 1, none⟩ (.int .i64 (max qd zd))) wb.heap.size 63 #[.int .i64 zf, .int .i64 (max qd zd), .bool ql] := (cP.drew.set_ 0 _).set_ 1 _
              have bZ := (bZ.drew.far (p := ⟨wb.heap.size, 0, none⟩) (by simp only; omega) (.int .i64 zf)).far (p := ⟨wb.heap.size, 1, none⟩) (by simp only; omega) (.int .i64 (max qd zd))
              have hI := (hI.drew.setP (by omega) (by omega) (by omega) 0 (.int .i64 zf)).setP (by omega) (by omega) (by omega) 1 (.int .i64 (max qd zd))
              have kF : KeepsFrom W1.heap.size W2 ((WZ.drew.setCell ⟨wb.heap.size, 0, none⟩ (.int .i64 zf)).setCell ⟨wb.heap.size, 1, none⟩ (.int .i64 (max qd zd))) := (show KeepsFrom W1.heap.size W2 WZ.drew from tZ.drew.keeps _).trans (((KeepsOthers.setCell _ _ _).trans (KeepsOthers.setCell _ _ _)).from _)
              have kS : Touch [wb.heap.size] W2 ((WZ.drew.setCell ⟨wb.heap.size, 0, none⟩ (.int .i64 zf)).setCell ⟨wb.heap.size, 1, none⟩ (.int .i64 (max qd zd))) := ((tZ.drew.mono (by simp)).setCell (by simp) _).setCell (by simp) _
              generalize hWW : (WZ.drew.setCell ⟨wb.heap.size, 0, none⟩ (.int .i64 zf)).setCell ⟨wb.heap.size, 1, none⟩ (.int .i64 (max qd zd)) = WW at *
              clear hWW z0 z1 z2 p0 p1 p2 q0 q1 q2 n0
              obtain ⟨kb, hkb⟩ : ∃ b, (kind != 5) = b := ⟨_, rfl⟩
              have hfin : ∀ b : Bool, b = (ql || (zl && kb)) → KeepsFrom W1.heap.size W2 (WW.setCell ⟨wb.heap.size, 2, none⟩ (.bool b)) ∧ SameAt bs W2 (WW.setCell ⟨wb.heap.size, 2, none⟩ (.bool b)) ∧
                  (∃ q, kidsF ps kind ⟨k, 0, lb⟩ ((pre ++ [(xi, (j : Int))]).map (·.2)) = some q ∧ Blk (WW.setCell ⟨wb.heap.size, 2, none⟩ (.bool b)) wb.heap.size 63 #[.int .i64 q.first, .int .i64 q.deep, .bool q.leaves]) ∧ KidsInv w W1 (WW.setCell ⟨wb.heap.size, 2, none⟩ (.bool b)) ps kind k n lb W.heap.size wb.heap.size (wb.heap.size + 1) #[Value.int IntKind.i64 kind, Value.int IntKind.i64 num, Value.slice ka ks.length kc] #[Value.slice ka ks.length kc] := fun b hb => by
                refine ⟨kF.trans ((KeepsOthers.setCell _ _ _).from _), SameAt.touch (kS.setCell (by simp) _) (fun i hi => ?_), ⟨⟨zf, max qd zd, b⟩, ?_, cP.set_ 2 _⟩, hI.setP (by omega) (by omega) (by omega) 2 _⟩
                · rcases hbs3 i hi with h1 | h1
                  · simp; omega
                  · simp; omega
                · rw [List.map_append]
                  show kidsF ps kind _ (pre.map (·.2) ++ [(j : Int)]) = _
                  rw [kidsF_snoc, HQ.out]
                  show stepK ps kind ⟨qf, qd, ql⟩ j = _
                  rw [hss, hb, ← hkb]
                  have e : decide (kind ≠ 5) = (kind != 5) := by by_cases h5 : kind = 5 <;> simp [h5]
                  rw [e]
              have p2 := cP.cell 2
              have q2 := cP.frozen 2
              have z2 := bZ.cell 2
              have n0 := hI.bN.cell 0
              have HF := Lib.hid hfin
              clear hfin kF kS hI bZ cP hss hbs3 tZ HI2 HQ
              cases ql with
              | true =>
                gi_wp2_with fail
                all_goals first | (exfalso; (have hx : some undef = some (Value.bool _) := by assumption); simp [undef] at hx; done) | skip
                all_goals exact HF.out _ (by simp)
              | false =>
                cases zl with
                | false =>
                  gi_wp2_with fail
                  all_goals exact HF.out _ (by simp)
                | true =>
                  cases kb
                  all_goals gi_wp2_with fail
                  all_goals exact HF.out _ (by simp)
        case done =>
          rintro D ys W2 hD rfl ⟨⟨q, hq, cP⟩, hI⟩ hKD
          obtain ⟨hMX, hps, hnv, hbad, hlb, hR, hpok, hbs3, hmany⟩ := HW.out
          rw [upto_behind ks ks.length (Nat.le_refl _), show ks.reverse.take ks.length = ks.reverse by rw [← List.length_reverse, List.take_length]] at hq
          have hqo := (kidsF_ok hpok ks.reverse ⟨k, 0, lb⟩ q (by rw [hpsl]; exact ⟨by simp only; omega, by simp only; omega, Int.le_refl _, by simp only; omega⟩) hq).1
          rw [hpsl] at hqo
          obtain ⟨qf0, qf1, qd0, qd1⟩ := hqo
          obtain ⟨qf, qd, ql⟩ := q
          simp only at qf0 qf1 qd0 qd1 cP
          have hw : IntKind.i64.wrap (qd + 1) = qd + 1 := by rw [IntKind.wrap_i64]; omega
          have hw2 : IntKind.i64.wrap ((k : Int) + 1) = ((k + 1 : Nat) : Int) := by rw [IntKind.wrap_i64]; omega
          have p0 := cP.cell 0
          have p1 := cP.cell 1
          have p2 := cP.cell 2
          have q1 := cP.frozen 1
          have b5 := hI.b5.cell 0
          have hkn2 : decide ((k : Int) < n) = true := by simp; omega
          have hstep : partsF l nl (k + 1) = some (ps ++ [⟨qf, qd + 1, ql⟩]) := by
            rw [partsF_step hps, hnv]
            unfold nodeW
            rw [if_neg (of_decide_eq_false hbad)]
            have e : decide (kind = 9) = lb := by rw [← hlb]; rfl
            simp only [e, hq]
            rfl
          obtain ⟨cs, hcs, hcsz, hcc⟩ := id hI.pa
          have hz : ∀ j, j < 3 → ∃ u, W2.cell? ⟨w.heap.size + 1, k * 3 + j, none⟩ = some u := fun j hj => ⟨_, (hcs.cell _).trans (Array.getElem?_eq_getElem (show k * 3 + j < cs.size by omega))⟩
          obtain ⟨y0, hy0⟩ := hz 0 (by omega)
          obtain ⟨y1, hy1⟩ := hz 1 (by omega)
          obtain ⟨y2, hy2⟩ := hz 2 (by omega)
          have hy0 : W2.cell? ⟨w.heap.size + 1, k * 3, none⟩ = some y0 := hy0
          have g0 := hcs.frozen (k * 3)
          have g1 := hcs.frozen (k * 3 + 1)
          have g2 := hcs.frozen (k * 3 + 2)
          have hne : w.heap.size + 1 ≠ wb.heap.size := by omega
          have HZ := Lib.hid (And.intro hI (And.intro cP (And.intro hMX (And.intro hstep (And.intro hcs (And.intro hcsz (And.intro hcc (And.intro hKD hpsl))))))))
          clear hz hI cP hMX hstep hcs hcsz hcc hKD hps hnv hbad hlb hR hpok hbs3 hmany HW hq hpsl
          gi_wp2_with fail
          refine ⟨?_, ?_⟩
          · obtain ⟨hI, cP, hMX, hstep, hcs, hcsz, hcc, hKD, hpsl⟩ := HZ.out
            have hI1 := hI.setP (bP := wb.heap.size) (by omega) (by omega) (by omega) 1 (.int .i64 (qd + 1))
            have hM1 := (hMX.cons hI.low hsz3 hD hKD).keeps (n1 := 0) (by omega) ((((KeepsOthers.setCell W2 ⟨wb.heap.size, 1, none⟩ (.int .i64 (qd + 1))).trans (KeepsOthers.setCell _ ⟨w.heap.size + 1, k * 3, none⟩ (.int .i64 qf))).trans (KeepsOthers.setCell _ ⟨w.heap.size + 1, k * 3 + 1, none⟩ (.int .i64 (qd + 1)))).trans (KeepsOthers.setCell _ ⟨w.heap.size + 1, k * 3 + 2, none⟩ (.bool ql)) |>.from 0)
            refine frame_intro _ _ (k + 1) (ps ++ [⟨qf, qd + 1, ql⟩]) rfl rfl rfl rfl rfl rfl rfl rfl ⟨by omega, hstep, hI1.pa.put hpsl (by omega) _ _ _, ?_, ?_, ?_, hM1, ?_⟩
            · exact ((hI1.b4.far (by simp) _).far (by simp) _).far (by simp) _
            · exact ((hI1.b5.far (by simp) _).far (by simp) _).far (by simp) _
            · exact ((hI1.t.setCell (.inr (by simp)) _).setCell (.inr (by simp)) _).setCell (.inr (by simp)) _
            · have := hI1.bX.lt
              simp at this ⊢
              omega
          · show n - ((k : Int) + 1).toNat < n - (k : Int).toNat
            omega
        case stop =>
          rintro D c pre W2 hD ⟨k', hk', rfl⟩ ⟨rfl, hnone, hI⟩ hKD
          obtain ⟨hMX, hps, hnv, hbad, hlb, hR, hpok, hbs3, hmany⟩ := HW.out
          have hRf : R = false := by
            rw [← hR]
            refine right_none (k := k + 1) (by omega) ?_
            rw [partsF_step hps, hnv]
            unfold nodeW
            rw [if_neg (of_decide_eq_false hbad)]
            rw [upto_behind ks k' hk'] at hnone
            have := kidsF_prefix _ (ks.reverse.drop k') _ hnone
            rw [List.take_append_drop] at this
            have e : decide (kind = 9) = lb := by rw [← hlb]; rfl
            simp only [e, this]
            rfl
          subst hRf
          have hB := hI.b4
          have hTt := hI.t
          have hMM := hMX.cons hI.low hsz3 hD hKD
          have HZ := Lib.hid (And.intro hB (And.intro hTt hMM))
          clear hB hTt hMM hI hnone hMX hps hnv hbad hlb hR hpok hbs3 hmany HW
          gi_wp2_with fail
          exact right_leaves rfl HZ.out.1 HZ.out.2.2 HZ.out.2.1
  · have hlt' : decide ((k : Int) < n) = false := by simp; omega
    obtain rfl : k = n := by omega
    obtain ⟨m, hm⟩ : ∃ m, k = m + 1 := ⟨k - 1, by omega⟩
    obtain ⟨hpl, hpok, _⟩ := partsF_ok l nl k ps hps
    have hw : IntKind.i64.wrap ((k : Int) - 1) = (m : Int) := by rw [hm, IntKind.wrap_i64]; omega
    have hmlt : m < k := by omega
    have hmlt2 : decide ((m : Int) < k) = true := by simp; omega
    obtain ⟨cs, hcs, hcsz, hcc⟩ := id hPA
    obtain ⟨e0, e1, e2⟩ := hcc m (by omega)
    have r0 := (hcs.cell (m * 3)).trans e0
    have r1 := (hcs.cell (m * 3 + 1)).trans e1
    have r2 := (hcs.cell (m * 3 + 2)).trans e2
    have c5 := hB5.cell 0
    have c4 := hB4.cell 0
    have l4 := hB4.lt
    have f4 := hB4.frozen 0
    have hRR : R = (decide ((ps.getD m Within.none).first = 0) && decide ((ps.getD m Within.none).deep ≤ 12) && !(ps.getD m Within.none).leaves) := by
      rw [← hR]
      unfold rightB
      rw [if_neg (by omega), hn, hps]
      simp only [hm, Nat.add_sub_cancel]
    obtain ⟨x, hx⟩ : ∃ x, ps.getD m Within.none = x := ⟨_, rfl⟩
    rw [hx] at r0 r1 r2 hRR
    clear e0 e1 e2 hcc hcsz hcs
    have HRR := Lib.hid hRR
    have fin : ∀ (tmps : Array Value) (b : Bool) (o : Obj), tmps[4]? = some (.pointer (some ⟨w.heap.size, 0, none⟩)) → b = R →
        LeavesInM Fence.wide 10 Tryz.prog Tryz.f9 tmps (fun e w' => e = .returned (.bool R) ∧ Below w.heap.size w w') ds .returning ((W.setCell ⟨w.heap.size, 0, none⟩ (.bool b)).alloc o) := fun tmps b o h4 hb => by
      subst hb
      refine right_leaves h4 ((hB4.set_ 0 _).alloc o) ?_ ((hT.setCell (.inr (Nat.le_refl _)) _).alloc o)
      exact (hM.touch (((Touch.refl [w.heap.size] W).setCell (by simp) _).alloc o) (by simp))
    have HF := Lib.hid fin
    clear hRR fin hpok hpl
    gi_wp2_with fail
    all_goals
      refine HF.out _ _ _ rfl ?_
      rw [HRR.out]
      first | (simp [*]; done) | (simp [*]; omega)
end Go.Proofs.YtnhhflnanogpjaaGreatDoor
