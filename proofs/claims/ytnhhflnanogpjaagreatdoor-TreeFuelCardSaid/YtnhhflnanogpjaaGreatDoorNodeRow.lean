/- Rows of nodes, and of numbers, that a caller appends to. -/
import Derived.Test.YtnhhflnanogpjaaGreatDoorMade2
namespace Go.Proofs.YtnhhflnanogpjaaGreatDoor
open Go.RowKit

theorem rows_apart {w : World} {B B' e e' s s' n n' : Nat} {v u : Value} {xs ys : List Value} (h : w.ownsRow B e s v n xs) (k : w.ownsRow B' e' s' u n' ys) (hne : e ≠ e') : ∀ g, g ∈ rowOf v → g ∉ rowOf u := by
  intro g hg hu
  rcases h.2 with ⟨rfl, _⟩ | ⟨g1, cap, cur, rfl, _, h1, _⟩
  · simp [rowOf] at hg
  · rcases k.2 with ⟨rfl, _⟩ | ⟨g2, cap', cur', rfl, _, h2, _⟩
    · simp [rowOf] at hu
    · simp [rowOf] at hg hu
      subst hg
      subst hu
      rw [h1] at h2
      simp at h2
      exact hne h2.2

theorem add_zero_at (g j : Nat) : ((⟨g, 0, none⟩ : Addr).add j) = ⟨g, j, none⟩ := by simp [Addr.add]; omega
def nodeVals (p : NodeV × Value) : List Value := [.int .i64 p.1.kind, .int .i64 p.1.n, p.2]
def NodeRow (w : World) (base : Nat) (v : Value) (ns : List (NodeV × Value)) : Prop := w.ownsRow base 37 3 v ns.length (ns.flatMap nodeVals)
theorem info_node : (Tryz.prog.info? 37).map (fun i => (i.zero.map fun z => z.cells.size, i.size, i.bytes)) = some (some 3, 3, 40) := by kernel_rfl
theorem info_node' : ∃ i0 z, Tryz.prog.info? 37 = some i0 ∧ i0.zero = some z ∧ i0.size = 3 ∧ i0.bytes = 40 ∧ z.cells.size = 3 := by
  have h := info_node
  cases hi : Tryz.prog.info? 37 with
  | none => rw [hi] at h; cases h
  | some i =>
    rw [hi] at h
    simp at h
    obtain ⟨⟨z, hz, hz2⟩, h1, h2⟩ := h
    exact ⟨i, z, rfl, hz, h1, h2, hz2⟩
theorem flat_at : ∀ (ns : List (NodeV × Value)) (i : Nat) (h : i < ns.length), (ns.flatMap nodeVals)[i * 3]? = some (.int .i64 ns[i].1.kind) ∧ (ns.flatMap nodeVals)[i * 3 + 1]? = some (.int .i64 ns[i].1.n) ∧ (ns.flatMap nodeVals)[i * 3 + 2]? = some ns[i].2
  | [], i, h => by simp at h
  | p :: ns, 0, _ => by simp [nodeVals]
  | p :: ns, i + 1, h => by
    have ih := flat_at ns i (by simpa using h)
    have e : (p :: ns).flatMap nodeVals = nodeVals p ++ ns.flatMap nodeVals := by simp
    have hl : (nodeVals p).length = 3 := rfl
    rw [e]
    refine ⟨?_, ?_, ?_⟩
    · rw [List.getElem?_append_right (by rw [hl]; omega), hl, show (i + 1) * 3 - 3 = i * 3 by omega]; exact ih.1
    · rw [List.getElem?_append_right (by rw [hl]; omega), hl, show (i + 1) * 3 + 1 - 3 = i * 3 + 1 by omega]; exact ih.2.1
    · rw [List.getElem?_append_right (by rw [hl]; omega), hl, show (i + 1) * 3 + 2 - 3 = i * 3 + 2 by omega]; exact ih.2.2
theorem NodeRow.nil (w : World) (base : Nat) : NodeRow w base (.slice none 0 0) [] := World.ownsRow_nil _ _ _ _
theorem NodeRow.nodes {w : World} {base : Nat} {v : Value} {ns : List (NodeV × Value)} (h : NodeRow w base v ns) (h0 : ns ≠ []) (hk : ∀ p ∈ ns, KidsAt w p.2 p.1.kids) : NodesAt w v (ns.map (·.1)) := by
  rcases h.2 with ⟨_, e⟩ | ⟨g, cap, cur, rfl, _, _, hc, _⟩
  · exact absurd (List.eq_nil_of_length_eq_zero e) h0
  · refine ⟨g, cap, by rw [List.length_map], by rw [List.length_map]; exact hc, fun i hi => ?_⟩
    rw [List.length_map] at hi
    have hh := flat_at ns i hi
    have hcell : ∀ j u, (ns.flatMap nodeVals)[j]? = some u → w.cell? ⟨g, j, none⟩ = some u := fun j u hj => by
      have := h.cells (g := g) rfl j u hj
      rwa [add_zero_at] at this
    have e : (ns.map (·.1)).getD i NodeV.none = ns[i].1 := by simp [List.getD, hi]
    rw [e]
    exact ⟨ns[i].2, hcell _ _ hh.1, hcell _ _ hh.2.1, hcell _ _ hh.2.2, hk _ (List.getElem_mem hi)⟩
/-- append of a node -/
theorem wpList_node {w : World} {ops : Array Oper} {rest : List Oper} {o : Oper} {a : Act} {Q : Exit → Act → World → Prop} (hgd : o.guard = none) (s x : Operand)
    (ho : o.op = .call { callee := .builtin .append, args := #[s, x], argTypes := #[22, 22] })
    (v1 : Value) (ns : List (NodeV × Value)) (p : NodeV × Value) (g base : Nat) (hs : a.eval s = v1) (h1 : NodeRow w base v1 ns) (hx : a.eval x = .slice (some ⟨g, 0, none⟩) 1 1)
    (hb : Blk w g 37 #[.int .i64 p.1.kind, .int .i64 p.1.n, p.2]) (hp : p.2.oneCell' = true) (hl : ns.length ≤ 1000) (hbase : base ≤ w.heap.size)
    (h : ∀ v' w', NodeRow w' base v' (ns ++ [p]) → w.grownBy w' v1.ownBlock → (v'.ownBlock = v1.ownBlock ∨ v'.ownBlock = some w.heap.size) → w.heap.size ≤ w'.heap.size → wpList Tryz.prog ops Q rest (a.put o.dst v') w') :
    wpList Tryz.prog ops Q (o :: rest) a w := by
  obtain ⟨i0, z, hi0, hz0, hz1, hz2, hz3⟩ := info_node'
  refine wpList_append_own_at w hgd s x 22 ho base 37 i0 z 3 40 Tryz.underlying22 hi0 hz0 hz1 hz2 hz3 (by decide) v1 ns.length (ns.flatMap nodeVals) hs h1 ⟨g, 0, none⟩ 1 1 (nodeVals p) hx rfl (fun j u hj => ?_) (fun u hu => ?_) (by unfold maxLen; omega) (by omega) hbase fun v' w' k1 k2 k3 k4 => ?_
  · rw [add_zero_at]
    rw [hb.cell j]
    simpa [nodeVals] using hj
  · simp only [nodeVals, List.mem_cons, List.not_mem_nil, or_false] at hu
    rcases hu with rfl | rfl | rfl
    · rfl
    · rfl
    · exact hp
  · refine h v' w' ?_ k2 k4 k2.size
    unfold NodeRow
    rw [List.length_append, List.flatMap_append, List.flatMap_singleton]
    exact k1

def IntRow (w : World) (base : Nat) (v : Value) (ks : List Int) : Prop := w.ownsRow base 3 1 v ks.length (ks.map (Value.int .i64))
theorem info_int : (Tryz.prog.info? 3).map (fun i => (i.zero, i.size, i.bytes)) = some (some (.int .i64 0), 1, 8) := by kernel_rfl
theorem info_int' : ∃ i0, Tryz.prog.info? 3 = some i0 ∧ i0.zero = some (.int .i64 0) ∧ i0.size = 1 ∧ i0.bytes = 8 := by
  have h := info_int
  cases hi : Tryz.prog.info? 3 with
  | none => rw [hi] at h; cases h
  | some i => rw [hi] at h; simp at h; exact ⟨i, rfl, h.1, h.2.1, h.2.2⟩
theorem IntRow.kids {w : World} {base : Nat} {v : Value} {ks : List Int} (h : IntRow w base v ks) : KidsAt w v ks := by
  rcases h.2 with ⟨rfl, e⟩ | ⟨g, cap, cur, rfl, _⟩
  · exact .inl ⟨_, _, rfl, List.eq_nil_of_length_eq_zero e⟩
  · refine .inr ⟨g, 0, cap, rfl, fun j hj => ?_⟩
    have := h.cells (g := g) rfl j (.int .i64 (ks.getD j 0)) (by simp [List.getD, List.getElem?_eq_getElem hj])
    rw [add_zero_at] at this
    rw [Nat.zero_add]
    exact this
theorem IntRow.one {w : World} {base : Nat} {v : Value} {ks : List Int} (h : IntRow w base v ks) : v.oneCell' = true := by
  rcases h.2 with ⟨rfl, _⟩ | ⟨g, cap, cur, rfl, _⟩ <;> rfl
/-- append of a number -/
theorem wpList_int {w : World} {ops : Array Oper} {rest : List Oper} {o : Oper} {a : Act} {Q : Exit → Act → World → Prop} (hgd : o.guard = none) (s x : Operand)
    (ho : o.op = .call { callee := .builtin .append, args := #[s, x], argTypes := #[35, 35] })
    (v1 : Value) (ks : List Int) (k : Int) (g base : Nat) (hs : a.eval s = v1) (h1 : IntRow w base v1 ks) (hx : a.eval x = .slice (some ⟨g, 0, none⟩) 1 1)
    (hb : Blk w g 3 #[.int .i64 k]) (hl : ks.length ≤ 1000) (hbase : base ≤ w.heap.size)
    (h : ∀ v' w', IntRow w' base v' (ks ++ [k]) → w.grownBy w' v1.ownBlock → (v'.ownBlock = v1.ownBlock ∨ v'.ownBlock = some w.heap.size) → w.heap.size ≤ w'.heap.size → wpList Tryz.prog ops Q rest (a.put o.dst v') w') :
    wpList Tryz.prog ops Q (o :: rest) a w := by
  obtain ⟨i0, hi0, hz0, hz1, hz2⟩ := info_int'
  refine wpList_append_own_at w hgd s x 35 ho base 3 i0 (.int .i64 0) 1 8 Tryz.underlying35 hi0 hz0 hz1 hz2 rfl (by decide) v1 ks.length (ks.map (Value.int .i64)) hs h1 ⟨g, 0, none⟩ 1 1 [.int .i64 k] hx rfl (fun j u hj => ?_) (fun u hu => ?_) (by unfold maxLen; omega) (by omega) hbase fun v' w' k1 k2 k3 k4 => ?_
  · rw [add_zero_at]
    rw [hb.cell j]
    simpa using hj
  · rw [List.mem_singleton] at hu
    subst hu
    rfl
  · refine h v' w' ?_ k2 k4 k2.size
    unfold IntRow
    rw [List.length_append, List.map_append]
    exact k1
end Go.Proofs.YtnhhflnanogpjaaGreatDoor
