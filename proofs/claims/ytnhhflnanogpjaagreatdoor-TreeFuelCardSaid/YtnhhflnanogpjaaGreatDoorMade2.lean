/- The maker of a node's act: its kids. -/
import Derived.Test.YtnhhflnanogpjaaGreatDoorMade1
import Derived.Test.YtnhhflnanogpjaaGreatDoorAct5
import Derived.Test.YtnhhflnanogpjaaGreatDoorAct6
import Derived.Test.YtnhhflnanogpjaaGreatDoorAct7
import Derived.Test.YtnhhflnanogpjaaGreatDoorAct10
namespace Go.Proofs.YtnhhflnanogpjaaGreatDoor
open Go.RowKit

variable {α β : Type} {lo hi d nl : Nat} {w w' w1 : World} {b : Nat} {F F1 : List Nat} {r s : Run} {v v2 : Value}

def KidsAt (w : World) (kv : Value) (ks : List Int) : Prop :=
  (∃ a c, kv = .slice a 0 c ∧ ks = []) ∨ ∃ g off c, kv = .slice (some ⟨g, off, none⟩) ks.length c ∧ ∀ j, j < ks.length → w.cell? ⟨g, off + j, none⟩ = some (.int .i64 (ks.getD j 0))
/-- nodes lie in a row -/
def NodesAt (w : World) (lv : Value) (l : List NodeV) : Prop :=
  ∃ g c, lv = .slice (some ⟨g, 0, none⟩) l.length c ∧ l.length ≤ c ∧ ∀ i, i < l.length → ∃ kv, w.cell? ⟨g, i * 3, none⟩ = some (.int .i64 (l.getD i NodeV.none).kind) ∧ w.cell? ⟨g, i * 3 + 1, none⟩ = some (.int .i64 (l.getD i NodeV.none).n) ∧
    w.cell? ⟨g, i * 3 + 2, none⟩ = some kv ∧ KidsAt w kv (l.getD i NodeV.none).kids

theorem cell_lt' {w : World} {p : Addr} {u : Value} (h : w.cell? p = some u) : p.block < w.heap.size := World.block_lt_of_cell? w p h
theorem cell_quiet {w w' : World} {p : Addr} {u : Value} (t : Touch [] w w') (h : w.cell? p = some u) : w'.cell? p = some u := (t.cell (cell_lt' h) (by simp)).trans h
theorem KidsAt.quiet {kv : Value} {ks : List Int} (h : KidsAt w kv ks) (t : Touch [] w w') : KidsAt w' kv ks := by
  rcases h with h | ⟨g, off, c, e, hc⟩
  · exact .inl h
  · exact .inr ⟨g, off, c, e, fun j hj => cell_quiet t (hc j hj)⟩
theorem NodesAt.quiet {lv : Value} {l : List NodeV} (h : NodesAt w lv l) (t : Touch [] w w') : NodesAt w' lv l := by
  obtain ⟨g, c, e, hc, k⟩ := h
  refine ⟨g, c, e, hc, fun i hi => ?_⟩
  obtain ⟨kv, k1, k2, k3, k4⟩ := k i hi
  exact ⟨kv, cell_quiet t k1, cell_quiet t k2, cell_quiet t k3, k4.quiet t⟩

/-- a node is one that may be at a place -/
structure NodeFine (nl at_ : Nat) (v : NodeV) : Prop where
  lo : 1 ≤ v.kind
  hi : v.kind ≤ 13
  two : v.kind = 4 ∨ v.kind = 7 → v.kids.length = 2
  one : v.kind = 5 ∨ v.kind = 6 → v.kids.length = 1
  some_ : v.kind = 11 → 1 ≤ v.kids.length
  prim : v.kind = 2 → 1 ≤ v.n ∧ v.n ≤ 42
  loc : v.kind = 12 ∨ v.kind = 13 → 0 ≤ v.n ∧ v.n < nl
  kids : ∀ k ∈ v.kids, 0 ≤ k ∧ k < at_
  small : v.kids.length ≤ 1000

/-- the kids that are made, in a row of the call's own -/
def KidsMade (l : List NodeV) (B0 nl : Nat) (w0 : World) (ks : List Int) (nv : Array Value) (j : Nat) (rowV : Value) (wr : World) : Prop :=
  ∃ vals : List Value, vals.length = j ∧ wr.ownsRow (B0 + 1) 56 1 rowV j vals ∧ Touch [] w0 wr ∧ Blk wr B0 37 nv ∧
    ∀ i, i < j → ∃ v lo hi, vals[i]? = some v ∧ v.oneCell' = true ∧ B0 < lo ∧ hi ≤ wr.heap.size ∧ (∀ g ∈ rowOf rowV, ¬ (lo ≤ g ∧ g < hi)) ∧ ∀ D, (ks.getD i 0).toNat < D → ActSem lo hi wr D nl v (denN l D (ks.getD i 0).toNat)

theorem seq_none {B : Nat} {a : Option Addr} {c : Nat} (hB : Blk w B 75 #[.slice a 0 c]) (h1 : lo ≤ B) (h2 : B < hi) :
    ActSem lo hi w d nl (.func (.func 66) #[] #[.pointer (some ⟨B, 0, none⟩)]) (seqD []) := by
  refine ⟨66, _, rfl, enters_of Tryz.func66 (by kernel_rfl) rfl, fun w' b F r hr => ?_⟩
  have c0 := box_cell hr hB h1 h2
  have H := Lib.hid hr
  clear hr hB
  go_enter Tryz.func66, Tryz.ntmps66
  go_wp2_with fail
  go_loopw [8] (fun i wr => i = .int .i64 0 ∧ w' = wr) (fun _ _ => 0)
  case atStart => exact ⟨rfl, rfl⟩
  case round =>
    obtain ⟨rfl, rfl⟩ := hrel
    go_wp2
    go_ret
    exact ⟨_, rfl, rfl, RunLeft.quiet H.out.run (Touch.refl _ _)⟩

theorem store_func {P : Program} {A : Addr} {u : Value} (h1 : w.cell? A = some u) (h2 : w.frozen? A = false) (f : FuncId) (cap : Array Value) : (store A (.func (.func f) #[] cap)).run P w = .ok () (w.setCell A (.func (.func f) #[] cap)) := by
  rw [run_store P w A _ _ rfl]
  rw [h1]
  simp [h2]

/-- what is known of the kids when all are made -/
structure KidsDone (l : List NodeV) (nl at_ : Nat) (w : World) (ks : List Int) (nv : Array Value) (rowV : Value) (wr : World) : Prop where
  t : Touch [] w wr
  blk : Blk wr w.heap.size 37 nv
  row : (∃ a c, rowV = .slice a 0 c ∧ ks = []) ∨ ∃ g c, rowV = .slice (some ⟨g, 0, none⟩) ks.length c ∧ w.heap.size ≤ g ∧ g < wr.heap.size ∧ ks.length ≤ c ∧
    ∀ i, i < ks.length → ∃ f cap, wr.cell? ⟨g, i, none⟩ = some (.func (.func f) #[] cap) ∧ ∀ W', Touch [] wr W' → ∀ D, at_ ≤ D → ActSem w.heap.size W'.heap.size W' D nl (.func (.func f) #[] cap) (denN l D (ks.getD i 0).toNat)

theorem KidsMade.done {l : List NodeV} {at_ : Nat} {ks : List Int} {nv : Array Value} {rowV : Value} {wr : World} (h : KidsMade l w.heap.size nl w ks nv ks.length rowV wr) (hks : ∀ k ∈ ks, 0 ≤ k ∧ k < at_) : KidsDone l nl at_ w ks nv rowV wr := by
  obtain ⟨vals, hvl, hrow, tw, hB, hk⟩ := h
  refine ⟨tw, hB, ?_⟩
  rcases Go.Joins.ownsRow_forms hrow with ⟨e, h0⟩ | ⟨g, c, e⟩
  · exact .inl ⟨none, 0, e, List.eq_nil_of_length_eq_zero h0⟩
  · subst e
    have hg := hrow.lt g rfl
    have hcap : ks.length ≤ c := by
      rcases hrow.2 with ⟨e, _⟩ | ⟨g', c', cur, e, _, _, h, _⟩
      · cases e
      · cases e; exact h
    refine .inr ⟨g, c, rfl, by omega, hg.2, hcap, fun i hi => ?_⟩
    obtain ⟨v, lo, hi', k1, k2, k3, k4, k5, k6⟩ := hk i hi
    have hki := hks (ks.getD i 0) (by rw [List.getD, List.getElem?_eq_getElem hi]; exact List.getElem_mem _)
    obtain ⟨f, cap, rfl, _, _⟩ := k6 (at_ + 1) (by omega)
    refine ⟨f, cap, by rw [hrow.cellAt i (by omega)]; exact k1, fun W' t D hD => ?_⟩
    exact ((k6 D (by omega)).later (Kept.of_touch t k4 (by simp))).wider (by omega) (by have := t.size; omega)

theorem KidsDone.list {l : List NodeV} {at_ : Nat} {ks : List Int} {nv : Array Value} {g n c : Nat} {wr W' : World} (h : KidsDone l nl at_ w ks nv (.slice (some ⟨g, 0, none⟩) (n + 1) c) wr) (hok : NodesOk l) (t : Touch [] wr W') (D : Nat) (hD : at_ ≤ D) :
    ActList w.heap.size W'.heap.size W' D nl g (n + 1) c (ks.map fun i => denN l D i.toNat) := by
  rcases h.row with ⟨a, c', e, _⟩ | ⟨g', c', e, h1, h2, h3, h4⟩
  · injection e with e1 e2 e3
    omega
  · injection e with e1 e2 e3
    injection e1 with e1
    injection e1 with e1
    subst e1 e3
    rw [← e2] at h3
    refine ⟨by simp [e2], fun k hk => ?_, h1, by have := t.size; omega, fun x hx => ?_, h3⟩
    · obtain ⟨f, cap, k1, k2⟩ := h4 k (by omega)
      refine ⟨_, cell_quiet t k1, ?_⟩
      have := k2 W' t D hD
      rw [List.getD, List.getElem?_map]
      rw [List.getD] at this
      rw [List.getElem?_eq_getElem (by omega)] at this ⊢
      exact this
    · obtain ⟨i, _, rfl⟩ := List.mem_map.1 hx
      exact keep_node hok D i.toNat

theorem made_end {l : List NodeV} {at_ A : Nat} {ks : List Int} {kind num : Int} {nv : Array Value} {rowV av : Value} {wr W2 : World} (h : KidsDone l nl at_ w ks nv rowV wr) (hl : l.getD at_ NodeV.none = ⟨kind, num, ks⟩) (t : Touch [] wr W2) (hA : Blk W2 A 56 #[.nilFunc]) (hAw : wr.heap.size ≤ A)
    (hk : ∀ D, at_ ≤ D → ActSem w.heap.size W2.heap.size (W2.setCell ⟨A, 0, none⟩ av) (D + 1) nl av (kindD ⟨kind, num, ks⟩ (ks.map fun i => denN l D i.toNat))) :
    ∃ v, Ending.returned (.func (.func 47) #[] #[.pointer (some ⟨A, 0, none⟩)]) = .returned v ∧ Touch [] w (W2.setCell ⟨A, 0, none⟩ av) ∧ ∀ D, at_ < D → ActSem w.heap.size (W2.setCell ⟨A, 0, none⟩ av).heap.size (W2.setCell ⟨A, 0, none⟩ av) D nl v (denN l D at_) := by
  have hws := h.t.size
  have hAl := hA.lt
  have hsz : (W2.setCell ⟨A, 0, none⟩ av).heap.size = W2.heap.size := by simp
  refine ⟨_, rfl, (h.t.trans t (by simp)).setCell (.inr (by simp only; omega)) _, fun D hD => ?_⟩
  obtain ⟨D', rfl⟩ : ∃ D', D = D' + 1 := ⟨D - 1, by omega⟩
  rw [hsz]
  have e : denN l (D' + 1) at_ = stepM.bind fun _ => kindD ⟨kind, num, ks⟩ (ks.map fun i => denN l D' i.toNat) := by
    show nodeD (l.getD at_ NodeV.none) ((l.getD at_ NodeV.none).kids.map fun i => denN l D' i.toNat) = _
    rw [hl]
    rfl
  rw [e]
  exact node_act (hk D' (by omega)) (hA.set_ 0 _) (by omega) hAl

theorem info_act : (Tryz.prog.info? 56).map (fun i => (i.zero, i.size, i.bytes)) = some (some .nilFunc, 1, 8) := by kernel_rfl
theorem info_act' : ∃ i0, Tryz.prog.info? 56 = some i0 ∧ i0.zero = some .nilFunc ∧ i0.size = 1 ∧ i0.bytes = 8 := by
  have h := info_act
  cases hi : Tryz.prog.info? 56 with
  | none => rw [hi] at h; cases h
  | some i => rw [hi] at h; simp at h; exact ⟨i, rfl, h.1, h.2.1, h.2.2⟩

set_option maxRecDepth 100000 in
set_option maxHeartbeats 4000000 in
theorem made_any (l : List NodeV) (nl : Nat) (hok : NodesOk l) (hfine : ∀ i, i < l.length → NodeFine nl i (l.getD i NodeV.none)) (lv : Value) (at_ : Nat) : at_ < l.length → ∀ w, NodesAt w lv l →
    Calls Tryz.prog 19 #[lv, .int .i64 at_] w fun e w' => ∃ v, e = .returned v ∧ Touch [] w w' ∧ ∀ D, at_ < D → ActSem w.heap.size w'.heap.size w' D nl v (denN l D at_) := by
  induction at_ using Nat.strongRecOn with
  | ind at_ ih =>
    intro hat w hN
    have hF := hfine at_ hat
    obtain ⟨g, c, rfl, hc, hcells⟩ := id hN
    obtain ⟨kv, c0, c1, c2, hk⟩ := hcells at_ hat
    obtain ⟨nv, hnv⟩ : ∃ nv, l.getD at_ NodeV.none = nv := ⟨_, rfl⟩
    rw [hnv] at hF c0 c1 hk
    obtain ⟨kind, num, kids⟩ := nv
    simp only at c0 c1 hk
    obtain ⟨len, hl⟩ : ∃ n, l.length = n := ⟨_, rfl⟩
    rw [hl] at hat hc
    have HN := Lib.hid hN
    have HI := Lib.hid ih
    have HF := Lib.hid hF
    have HK := Lib.hid hk
    have HC := Lib.hid (And.intro hok hcells)
    clear hN ih hF hk hfine hcells hok
    rw [hl]
    have hksl := HF.out.small
    have hkf := HF.out.kids
    simp only at hksl hkf
    have HKF := Lib.hid hkf
    obtain ⟨ka, kc, rfl⟩ : ∃ ka kc, kv = .slice ka kids.length kc := by
      rcases HK.out with ⟨a, c, rfl, rfl⟩ | ⟨g', off, c', rfl, _⟩
      · exact ⟨a, c, rfl⟩
      · exact ⟨_, _, rfl⟩
    obtain ⟨kl, hkl⟩ : ∃ n, kids.length = n := ⟨_, rfl⟩
    rw [hkl] at c2 hksl
    have HKL := Lib.hid hkl
    have bN := Blk.new w 37 #[.int .i64 kind, .int .i64 num, .slice ka kl kc]
    have tN := (Touch.refl [] w).alloc (.cells #[.int .i64 kind, .int .i64 num, .slice ka kl kc] 37)
    have sN : (w.alloc (.cells #[.int .i64 kind, .int .i64 num, .slice ka kl kc] 37)).heap.size = w.heap.size + 1 := by simp
    clear hkf hkl
    go_enter Tryz.func19, Tryz.ntmps19
    go_upto_region 2 with (fail)
    generalize w.alloc (.cells #[.int .i64 kind, .int .i64 num, .slice ka kl kc] 37) = W0 at *
    have d2 := bN.cell 2
    have hM0 : KidsMade l w.heap.size nl w kids #[.int .i64 kind, .int .i64 num, .slice ka kl kc] 0 (.slice none 0 0) W0 := ⟨[], rfl, World.ownsRow_nil _ _ _ _, tN, bN, fun i hi => by omega⟩
    clear bN tN sN c0 c1 c2
    go_wp2_with fail
    clear d2
    go_loopw [17, 6] (fun i rv wr => ∃ j : Nat, j ≤ kl ∧ i = .int .i64 j ∧ KidsMade l w.heap.size nl w kids #[.int .i64 kind, .int .i64 num, .slice ka kl kc] j rv wr) (fun i _ _ => kl - (intOf i).toNat)
    case atStart => exact ⟨0, by omega, rfl, hM0⟩
    case round =>
      obtain ⟨j, hj, rfl, hM⟩ := hrel
      clear hM0
      by_cases hlt : j < kl
      · obtain ⟨vals, hvl, hrow, tw, hB, hks⟩ := hM
        have hNr := HN.out.quiet tw
        have hKr := HK.out.quiet tw
        rw [HKL.out] at hKr
        obtain ⟨g', off, rfl, hkc⟩ : ∃ g' off, ka = some ⟨g', off, none⟩ ∧ ∀ i, i < kl → wr.cell? ⟨g', off + i, none⟩ = some (.int .i64 (kids.getD i 0)) := by
          rcases hKr with ⟨_, _, e, e'⟩ | ⟨g', off, c', e, hk⟩
          · rw [e'] at HKL; have := HKL.out; simp at this; omega
          · cases e
            exact ⟨g', off, rfl, fun i hi => hk i (by rw [HKL.out]; exact hi)⟩
        have hcj := hkc j hlt
        have hkj := HKF.out (kids.getD j 0) (by rw [List.getD, List.getElem?_eq_getElem (by rw [HKL.out]; exact hlt)]; exact List.getElem_mem _)
        obtain ⟨k, hk⟩ : ∃ k : Nat, kids.getD j 0 = k := ⟨(kids.getD j 0).toNat, by omega⟩
        rw [hk] at hcj hkj
        have hcall := HI.out k (by omega) (by rw [hl]; omega) wr hNr
        rw [hl] at hcall
        have HH := Lib.hid (And.intro hvl (And.intro hrow (And.intro tw (And.intro hB (And.intro hks hk)))))
        have ek : IntKind.i64.wrap ((j : Int) + 1) = (j + 1 : Nat) := by rw [IntKind.wrap_i64]; omega
        clear hvl hrow tw hB hks hkc hNr hKr hk hl
        go_wp2_with fail
        refine hcall.mono ?_
        rintro _ w1 ⟨v, rfl, t1, hA⟩
        obtain ⟨f, cap, rfl, _, _⟩ := hA (k + 1) (by omega)
        obtain ⟨hvl, hrow, tw, hB, hks, hk⟩ := HH.out
        obtain ⟨i0, hi0, hz0, hz1, hz2⟩ := info_act'
        have hwr : w.heap.size < wr.heap.size := hB.lt
        have hrow1 := row_touch hrow t1 (by simp)
        have hrow2 := hrow1.alloc (.cells #[.func (.func f) #[] cap] 56)
        have hN2 := Blk.new w1 56 #[.func (.func f) #[] cap]
        have t1s := t1.size
        have HA := Lib.hid hA
        clear hvl hks hk hB tw hA
        go_wp2_with (at_builtin; refine wpList_append_own_at _ rfl _ _ 75 rfl (w.heap.size + 1) 56 i0 .nilFunc 1 8 Tryz.underlying75 hi0 hz0 hz1 hz2 rfl (by decide) _ _ _ rfl hrow2 ⟨w1.heap.size, 0, none⟩ 1 1 [.func (.func f) #[] cap] rfl rfl ?qc2 ?qc3 (by unfold maxLen; omega) (by omega) (by simp; omega) ?_)
        case qc2 =>
          intro m u hm
          have h2 := (List.getElem?_eq_some_iff.1 hm).1
          have hm0 : m = 0 := by simp at h2; omega
          subst hm0
          exact (hN2.cell (0 + 0)).trans (by simpa using hm)
        case qc3 => intro u hu; simp at hu; rw [hu]; rfl
        intro v' w2 hown hgrow hnil hloc
        obtain ⟨hvl, _, tw, hB, hks, hk⟩ := HH.out
        have hrg : ∀ g ∈ rowOf u6, w.heap.size < g ∧ g < wr.heap.size := fun g hg => by
          have := hrow.lt g (rowOf_mem.1 hg)
          omega
        have hw2s : w1.heap.size + 1 ≤ w2.heap.size := by have := hgrow.size; simpa using this
        have hM1 : KidsMade l w.heap.size nl w kids #[.int .i64 kind, .int .i64 num, .slice (some ⟨g', off, none⟩) kl kc] (j + 1) v' w2 := by
          have tw2 : Touch [] w w2 := (((tw.trans t1 (by simp)).alloc _).grown hgrow (fun m hm => .inr (by have := (hrg m (rowOf_mem.2 hm)).1; omega)))
          have hB2 : Blk w2 w.heap.size 37 #[.int .i64 kind, .int .i64 num, .slice (some ⟨g', off, none⟩) kl kc] := ((hB.touch t1 (by simp)).alloc _).grown hgrow (fun e => by have := (hrg _ (rowOf_mem.2 e.symm)).1; omega)
          have hrv : ∀ g ∈ rowOf v', g ∈ rowOf u6 ∨ w1.heap.size ≤ g := fun g hg => by
            have hg' := rowOf_mem.1 hg
            rcases hloc with e | e
            · exact .inl (rowOf_mem.2 (e ▸ hg'))
            · rw [hg'] at e
              simp at e
              exact .inr (by omega)
          have hkeep : ∀ lo hi, hi ≤ w1.heap.size → (∀ g ∈ rowOf u6, ¬ (lo ≤ g ∧ g < hi)) → Kept lo hi w1 w2 := fun lo hi hhi hg m h1 h2 => by
            have e1 : (w1.alloc (.cells #[.func (.func f) #[] cap] 56)).heap[m]? = w1.heap[m]? := Below.heap_alloc w1 _ m (by omega)
            exact (hgrow.block m (by simp; omega) (fun e => hg m (rowOf_mem.2 e.symm) ⟨h1, h2⟩)).trans e1
          refine ⟨vals ++ [.func (.func f) #[] cap], by simp [hvl], hown, tw2, hB2, fun i hi => ?_⟩
          by_cases hij : i < j
          · obtain ⟨v, lo, hi', k1, k2, k3, k4, k5, k6⟩ := hks i hij
            refine ⟨v, lo, hi', by rw [List.getElem?_append_left (by omega)]; exact k1, k2, k3, by omega, fun g hg hgg => ?_, fun D hD => ?_⟩
            · rcases hrv g hg with h | h
              · exact k5 g h hgg
              · omega
            · exact ((k6 D hD).later (Kept.of_touch t1 k4 (by simp))).later (hkeep lo hi' (by omega) k5)
          · have hij' : i = j := by omega
            subst hij'
            refine ⟨.func (.func f) #[] cap, wr.heap.size, w1.heap.size, by rw [List.getElem?_append_right (by omega), hvl]; simp, rfl, by omega, by omega, fun g hg hgg => ?_, fun D hD => ?_⟩
            · rcases hrv g hg with h | h
              · have := (hrg g h).2; omega
              · omega
            · rw [hk] at hD ⊢
              exact (HA.out D (by simpa using hD)).later (hkeep _ _ (Nat.le_refl _) (fun g hg => by have := (hrg g hg).2; omega))
        have HM := Lib.hid hM1
        clear hM1 hown hgrow hnil hloc hrow hrow1 hrow2 hN2 hvl tw hB hks hk hrg hcall hcj
        go_wp2
        go_roundw
        case rel => exact ⟨j + 1, by omega, by simp, HM.out⟩
        case measure => simp only [intOf]; omega
      · have hje : j = kl := by omega
        have hD : KidsDone l nl at_ w kids #[.int .i64 kind, .int .i64 num, .slice ka kl kc] u6 wr := KidsMade.done (by rw [HKL.out]; rw [hje] at hM; exact hM) HKF.out
        clear hM
        have bA := Blk.new wr 56 #[.nilFunc]
        have bN := hD.blk.alloc (.cells #[.nilFunc] 56)
        have tA := (Touch.refl [] wr).alloc (.cells #[.nilFunc] 56)
        have HD := Lib.hid hD
        clear hD
        go_upto_region 9 with (fail)
        have hwl : w.heap.size < wr.heap.size := HD.out.blk.lt
        generalize hAg : wr.heap.size = A at *
        generalize wr.alloc (.cells #[.nilFunc] 56) = WA at *
        have hmf : ∀ (fn : Fn) (first cap : Array Value) (w : World), (Instr.makeFunc fn first cap).run Tryz.prog w = .ok (.func fn first cap) w := fun _ _ _ _ => rfl
        have n0 := bN.cell 0
        have n1 := bN.cell 1
        have HB := Lib.hid (And.intro bA (And.intro bN tA))
        have aA := bA.cell 0
        have fA := bA.frozen 0
        have hAl := bA.lt
        have hk1 := HF.out.lo
        have hk13 := HF.out.hi
        simp only at hk1 hk13
        have HL := Lib.hid hnv
        have HAg := Lib.hid hAg
        clear bA bN tA hnv hAg
        rcases (by omega : kind = 1 ∨ kind = 2 ∨ kind = 3 ∨ kind = 4 ∨ kind = 5 ∨ kind = 6 ∨ kind = 7 ∨ kind = 8 ∨ kind = 9 ∨ kind = 10 ∨ kind = 11 ∨ kind = 12 ∨ kind = 13) with rfl | rfl | rfl | rfl | rfl | rfl | rfl | rfl | rfl | rfl | rfl | rfl | rfl
        · clear hk1 hk13
          go_wp2_with fail
          refine (plain_new 31 #[.pointer (some ⟨w.heap.size, 0, none⟩)] WA).mono ?_
          rintro _ W2 ⟨rfl, hW⟩
          obtain ⟨bA, bN, tA⟩ := HB.out
          have bA2 := hW ▸ (bA).alloc _
          have bN2 := hW ▸ (bN).alloc _
          have t2 := hW ▸ (tA).alloc _
          have sW : W2.heap.size = WA.heap.size + 1 := (by rw [← hW]; simp)
          have bP := hW ▸ Blk.new WA _ _
          have hsf := store_func (P := Tryz.prog) (bA2.cell 0) (bA2.frozen 0)
          have K := Lib.hid (And.intro bA2 (And.intro bN2 (And.intro t2 (And.intro sW bP))))
          clear hW bA bN tA bA2 bN2 t2 sW bP aA fA n0 n1
          go_wp2
          go_ret
          obtain ⟨bA2, bN2, t2, sW, bP⟩ := K.out
          have hag := HAg.out
          refine made_end HD.out HL.out t2 bA2 (by rw [HAg.out]; exact Nat.le_refl _) (fun D hD => ?_)
          exact plain_act (lit_act (bN2.far (by simp only; omega) _) (by omega) (by omega)) (bP.far (by simp only; omega) _) (by omega) (by omega)
        · clear hk1 hk13
          have hpn := HF.out.prim rfl
          simp only at hpn
          have HPN := Lib.hid hpn
          clear hpn
          go_wp2_with fail
          refine (prim_new num WA).mono ?_
          rintro _ W2 ⟨rfl, hW⟩
          obtain ⟨bA, bN, tA⟩ := HB.out
          have bA2 := hW ▸ ((bA).alloc _).alloc _
          have bN2 := hW ▸ ((bN).alloc _).alloc _
          have t2 := hW ▸ ((tA).alloc _).alloc _
          have sW : W2.heap.size = WA.heap.size + 2 := (by rw [← hW]; simp)
          have bP := hW ▸ (Blk.new_at (n := WA.heap.size) WA rfl _ _).alloc _
          have bQ := hW ▸ Blk.new_at (n := WA.heap.size + 1) (WA.alloc _) (by simp) _ _
          have hsf := store_func (P := Tryz.prog) (bA2.cell 0) (bA2.frozen 0)
          have K := Lib.hid (And.intro bA2 (And.intro bN2 (And.intro t2 (And.intro sW (And.intro bP bQ)))))
          clear hW bA bN tA bA2 bN2 t2 sW bP bQ aA fA n0 n1
          go_wp2
          go_ret
          obtain ⟨bA2, bN2, t2, sW, bP, bQ⟩ := K.out
          have hag := HAg.out
          refine made_end HD.out HL.out t2 bA2 (by rw [HAg.out]; exact Nat.le_refl _) (fun D hD => ?_)
          exact plain_act (prim_act HPN.out (bP.far (by simp only; omega) _) (by omega) (by omega)) (bQ.far (by simp only; omega) _) (by omega) (by omega)
        · clear hk1 hk13
          by_cases hz : kids.length = 0
          · have hk0 : kids = [] := List.eq_nil_of_length_eq_zero hz
            obtain ⟨ra, rc, rfl⟩ : ∃ a c, u6 = .slice a 0 c := by
              rcases HD.out.row with ⟨a, c, e, _⟩ | ⟨g', c', e, _⟩
              · exact ⟨a, c, e⟩
              · rw [hz] at e; exact ⟨_, _, e⟩
            have Hk := Lib.hid hk0
            clear hz hk0
            go_wp2_with fail
            refine (all_new ra 0 rc WA).mono ?_
            rintro _ W2 ⟨rfl, hW⟩
            obtain ⟨bA, bN, tA⟩ := HB.out
            have bA2 := hW ▸ (bA).alloc _
            have bN2 := hW ▸ (bN).alloc _
            have t2 := hW ▸ (tA).alloc _
            have sW : W2.heap.size = WA.heap.size + 1 := (by rw [← hW]; simp)
            have bP := hW ▸ Blk.new WA _ _
            have hsf := store_func (P := Tryz.prog) (bA2.cell 0) (bA2.frozen 0)
            have K := Lib.hid (And.intro bA2 (And.intro bN2 (And.intro t2 (And.intro sW bP))))
            clear hW bA bN tA bA2 bN2 t2 sW bP aA fA n0 n1
            go_wp2
            go_ret
            obtain ⟨bA2, bN2, t2, sW, bP⟩ := K.out
            have hag := HAg.out
            refine made_end HD.out HL.out t2 bA2 (by rw [HAg.out]; exact Nat.le_refl _) (fun D hD => ?_)
            rw [Hk.out]
            exact (seq_none (bP.far (by simp only; omega) _) (by omega) (by omega)).deeper (Nat.le_succ _)
          · obtain ⟨gr, rc, rfl⟩ : ∃ g c, u6 = .slice (some ⟨g, 0, none⟩) kids.length c := by
              rcases HD.out.row with ⟨a, c, e, e'⟩ | ⟨g', c', e, _⟩
              · rw [e'] at hz; simp at hz
              · exact ⟨_, _, e⟩
            obtain ⟨m, hm⟩ : ∃ m, kids.length = m + 1 := ⟨kids.length - 1, by omega⟩
            have HD2 := HD.out
            rw [hm] at HD2
            have HE := Lib.hid HD2
            rw [hm]
            have hmb : m ≤ 1000 := by have := HKL.out; omega
            clear HD2 hz hm
            go_wp2_with fail
            refine (all_new (some ⟨gr, 0, none⟩) (m + 1) rc WA).mono ?_
            rintro _ W2 ⟨rfl, hW⟩
            obtain ⟨bA, bN, tA⟩ := HB.out
            have bA2 := hW ▸ (bA).alloc _
            have bN2 := hW ▸ (bN).alloc _
            have t2 := hW ▸ (tA).alloc _
            have sW : W2.heap.size = WA.heap.size + 1 := (by rw [← hW]; simp)
            have bP := hW ▸ Blk.new WA _ _
            have hsf := store_func (P := Tryz.prog) (bA2.cell 0) (bA2.frozen 0)
            have K := Lib.hid (And.intro bA2 (And.intro bN2 (And.intro t2 (And.intro sW bP))))
            clear hW bA bN tA bA2 bN2 t2 sW bP aA fA n0 n1
            go_wp2
            go_ret
            obtain ⟨bA2, bN2, t2, sW, bP⟩ := K.out
            have hag := HAg.out
            refine made_end HD.out HL.out t2 bA2 (by rw [HAg.out]; exact Nat.le_refl _) (fun D hD => ?_)
            have hsz : ∀ u, (W2.setCell ⟨A, 0, none⟩ u).heap.size = W2.heap.size := fun _ => by simp
            have hli := fun u => hsz u ▸ HE.out.list HC.out.1 (t2.setCell (p := ⟨A, 0, none⟩) (.inr (by simp only; omega)) u) D hD
            exact (seq_act (hli _) (by omega) (bP.far (by simp only; omega) _) (by omega) (by omega)).deeper (Nat.le_succ _)
        · clear hk1 hk13
          obtain ⟨gr, rc, rfl, hr1, hr2, hr3, hr4⟩ : ∃ g c, u6 = .slice (some ⟨g, 0, none⟩) 2 c ∧ w.heap.size ≤ g ∧ g < wr.heap.size ∧ 2 ≤ c ∧ ∀ i, i < 2 → ∃ f cap, wr.cell? ⟨g, i, none⟩ = some (.func (.func f) #[] cap) ∧ ∀ W', Touch [] wr W' → ∀ D, at_ ≤ D → ActSem w.heap.size W'.heap.size W' D nl (.func (.func f) #[] cap) (denN l D (kids.getD i 0).toNat) := by
            have hkl := HF.out.two (.inl rfl)
            simp only at hkl
            rcases HD.out.row with ⟨a, c, e, e'⟩ | ⟨g', c', e, k1, k2, k3, k4⟩
            · rw [e'] at hkl; simp at hkl
            · rw [hkl] at e k3 k4
              exact ⟨g', c', e, k1, k2, k3, k4⟩
          obtain ⟨f0, cap0, hc0, hs0⟩ := hr4 0 (by omega)
          obtain ⟨f1, cap1, hc1, hs1⟩ := hr4 1 (by omega)
          have q0 := cell_quiet HB.out.2.2 hc0
          have q1 := cell_quiet HB.out.2.2 hc1
          have hks : kids = [kids.getD 0 0, kids.getD 1 0] := by
            have hkl := HF.out.two (.inl rfl)
            simp only at hkl
            match kids, hkl with
            | [_, _], _ => rfl
          have HKS := Lib.hid (And.intro hs0 (And.intro hs1 hks))
          clear hr4 hs0 hs1 hks hc0 hc1 hr1 hr2
          go_wp2_with fail
          go_region_with (go_at_call 35; (refine (either_new f0 cap0 f1 cap1 _).mono ?_; rintro _ W2 ⟨rfl, hW⟩; obtain ⟨bA, bN, tA⟩ := HB.out; have bA2 := hW ▸ ((bA.drew).alloc _).alloc _; have bN2 := hW ▸ ((bN.drew).alloc _).alloc _; have t2 := hW ▸ ((tA.drew).alloc _).alloc _; have sW : W2.heap.size = WA.heap.size + 2 := (by rw [← hW]; simp); have bP := hW ▸ (Blk.new_at (n := WA.heap.size) WA.drew rfl _ _).alloc _; have bQ := hW ▸ Blk.new_at (n := WA.heap.size + 1) (WA.drew.alloc _) (by simp) _ _; have hsf := store_func (P := Tryz.prog) (bA2.cell 0) (bA2.frozen 0); have K := Lib.hid (And.intro bA2 (And.intro bN2 (And.intro t2 (And.intro sW (And.intro bP bQ))))); clear hW bA bN tA bA2 bN2 t2 sW bP bQ))
          all_goals go_wp2
          all_goals go_ret
          all_goals obtain ⟨bA2, bN2, t2, sW, bP, bQ⟩ := K.out
          all_goals have hag := HAg.out
          all_goals refine made_end HD.out HL.out t2 bA2 (by rw [HAg.out]; exact Nat.le_refl _) (fun D hD => ?_)
          all_goals have hsz : ∀ u, (W2.setCell ⟨A, 0, none⟩ u).heap.size = W2.heap.size := fun _ => by simp
          all_goals have m0 := fun u => hsz u ▸ HKS.out.1 (W2.setCell ⟨A, 0, none⟩ u) (t2.setCell (p := ⟨A, 0, none⟩) (.inr (by simp only; omega)) u) D hD
          all_goals have m1 := fun u => hsz u ▸ HKS.out.2.1 (W2.setCell ⟨A, 0, none⟩ u) (t2.setCell (p := ⟨A, 0, none⟩) (.inr (by simp only; omega)) u) D hD
          all_goals rw [HKS.out.2.2]
          all_goals exact (either_act (m0 _) (m1 _) (bP.far (by simp only; omega) _) (by omega) (by omega) (bQ.far (by simp only; omega) _) (by omega) (by omega)).deeper (Nat.le_succ _)
        · clear hk1 hk13
          obtain ⟨gr, rc, rfl, hr1, hr2, hr3, hr4⟩ : ∃ g c, u6 = .slice (some ⟨g, 0, none⟩) 1 c ∧ w.heap.size ≤ g ∧ g < wr.heap.size ∧ 1 ≤ c ∧ ∀ i, i < 1 → ∃ f cap, wr.cell? ⟨g, i, none⟩ = some (.func (.func f) #[] cap) ∧ ∀ W', Touch [] wr W' → ∀ D, at_ ≤ D → ActSem w.heap.size W'.heap.size W' D nl (.func (.func f) #[] cap) (denN l D (kids.getD i 0).toNat) := by
            have hkl := HF.out.one (.inl rfl)
            simp only at hkl
            rcases HD.out.row with ⟨a, c, e, e'⟩ | ⟨g', c', e, k1, k2, k3, k4⟩
            · rw [e'] at hkl; simp at hkl
            · rw [hkl] at e k3 k4
              exact ⟨g', c', e, k1, k2, k3, k4⟩
          obtain ⟨f0, cap0, hc0, hs0⟩ := hr4 0 (by omega)
          have q0 := cell_quiet HB.out.2.2 hc0
          have hks : kids = [kids.getD 0 0] := by
            have hkl := HF.out.one (.inl rfl)
            simp only at hkl
            match kids, hkl with
            | [_], _ => rfl
          have HKS := Lib.hid (And.intro hs0 hks)
          clear hr4 hs0  hks hc0  hr1 hr2
          go_wp2_with fail
          refine (do_new f0 cap0 WA).mono ?_
          rintro _ W2 ⟨rfl, hW⟩
          obtain ⟨bA, bN, tA⟩ := HB.out
          have bA2 := hW ▸ ((bA).alloc _).alloc _
          have bN2 := hW ▸ ((bN).alloc _).alloc _
          have t2 := hW ▸ ((tA).alloc _).alloc _
          have sW : W2.heap.size = WA.heap.size + 2 := (by rw [← hW]; simp)
          have bP := hW ▸ (Blk.new_at (n := WA.heap.size) WA rfl _ _).alloc _
          have bQ := hW ▸ Blk.new_at (n := WA.heap.size + 1) (WA.alloc _) (by simp) _ _
          have hsf := store_func (P := Tryz.prog) (bA2.cell 0) (bA2.frozen 0)
          have K := Lib.hid (And.intro bA2 (And.intro bN2 (And.intro t2 (And.intro sW (And.intro bP bQ)))))
          clear hW bA bN tA bA2 bN2 t2 sW bP bQ aA fA n0 n1 q0
          go_wp2
          go_ret
          obtain ⟨bA2, bN2, t2, sW, bP, bQ⟩ := K.out
          have hag := HAg.out
          refine made_end HD.out HL.out t2 bA2 (by rw [HAg.out]; exact Nat.le_refl _) (fun D hD => ?_)
          have hsz : ∀ u, (W2.setCell ⟨A, 0, none⟩ u).heap.size = W2.heap.size := fun _ => by simp
          have m0 := fun u => hsz u ▸ HKS.out.1 (W2.setCell ⟨A, 0, none⟩ u) (t2.setCell (p := ⟨A, 0, none⟩) (.inr (by simp only; omega)) u) D hD
          rw [HKS.out.2]
          exact plain_act (do_act (m0 _) (keep_node HC.out.1 _ _) (bP.far (by simp only; omega) _) (by omega) (by omega)) (bQ.far (by simp only; omega) _) (by omega) (by omega)
        · clear hk1 hk13
          obtain ⟨gr, rc, rfl, hr1, hr2, hr3, hr4⟩ : ∃ g c, u6 = .slice (some ⟨g, 0, none⟩) 1 c ∧ w.heap.size ≤ g ∧ g < wr.heap.size ∧ 1 ≤ c ∧ ∀ i, i < 1 → ∃ f cap, wr.cell? ⟨g, i, none⟩ = some (.func (.func f) #[] cap) ∧ ∀ W', Touch [] wr W' → ∀ D, at_ ≤ D → ActSem w.heap.size W'.heap.size W' D nl (.func (.func f) #[] cap) (denN l D (kids.getD i 0).toNat) := by
            have hkl := HF.out.one (.inr rfl)
            simp only at hkl
            rcases HD.out.row with ⟨a, c, e, e'⟩ | ⟨g', c', e, k1, k2, k3, k4⟩
            · rw [e'] at hkl; simp at hkl
            · rw [hkl] at e k3 k4
              exact ⟨g', c', e, k1, k2, k3, k4⟩
          obtain ⟨f0, cap0, hc0, hs0⟩ := hr4 0 (by omega)
          have q0 := cell_quiet HB.out.2.2 hc0
          have hks : kids = [kids.getD 0 0] := by
            have hkl := HF.out.one (.inr rfl)
            simp only at hkl
            match kids, hkl with
            | [_], _ => rfl
          have HKS := Lib.hid (And.intro hs0 hks)
          clear hr4 hs0  hks hc0  hr1 hr2
          go_wp2_with fail
          refine (until_new f0 cap0 WA).mono ?_
          rintro _ W2 ⟨rfl, hW⟩
          obtain ⟨bA, bN, tA⟩ := HB.out
          have bA2 := hW ▸ (bA).alloc _
          have bN2 := hW ▸ (bN).alloc _
          have t2 := hW ▸ (tA).alloc _
          have sW : W2.heap.size = WA.heap.size + 1 := (by rw [← hW]; simp)
          have bP := hW ▸ Blk.new WA _ _
          have hsf := store_func (P := Tryz.prog) (bA2.cell 0) (bA2.frozen 0)
          have K := Lib.hid (And.intro bA2 (And.intro bN2 (And.intro t2 (And.intro sW bP))))
          clear hW bA bN tA bA2 bN2 t2 sW bP aA fA n0 n1 q0
          go_wp2
          go_ret
          obtain ⟨bA2, bN2, t2, sW, bP⟩ := K.out
          have hag := HAg.out
          refine made_end HD.out HL.out t2 bA2 (by rw [HAg.out]; exact Nat.le_refl _) (fun D hD => ?_)
          have hsz : ∀ u, (W2.setCell ⟨A, 0, none⟩ u).heap.size = W2.heap.size := fun _ => by simp
          have m0 := fun u => hsz u ▸ HKS.out.1 (W2.setCell ⟨A, 0, none⟩ u) (t2.setCell (p := ⟨A, 0, none⟩) (.inr (by simp only; omega)) u) D hD
          rw [HKS.out.2]
          exact (until_act (m0 _) (keep_node HC.out.1 _ _) (bP.far (by simp only; omega) _) (by omega) (by omega)).deeper (Nat.le_succ _)
        · clear hk1 hk13
          obtain ⟨gr, rc, rfl, hr1, hr2, hr3, hr4⟩ : ∃ g c, u6 = .slice (some ⟨g, 0, none⟩) 2 c ∧ w.heap.size ≤ g ∧ g < wr.heap.size ∧ 2 ≤ c ∧ ∀ i, i < 2 → ∃ f cap, wr.cell? ⟨g, i, none⟩ = some (.func (.func f) #[] cap) ∧ ∀ W', Touch [] wr W' → ∀ D, at_ ≤ D → ActSem w.heap.size W'.heap.size W' D nl (.func (.func f) #[] cap) (denN l D (kids.getD i 0).toNat) := by
            have hkl := HF.out.two (.inr rfl)
            simp only at hkl
            rcases HD.out.row with ⟨a, c, e, e'⟩ | ⟨g', c', e, k1, k2, k3, k4⟩
            · rw [e'] at hkl; simp at hkl
            · rw [hkl] at e k3 k4
              exact ⟨g', c', e, k1, k2, k3, k4⟩
          obtain ⟨f0, cap0, hc0, hs0⟩ := hr4 0 (by omega)
          obtain ⟨f1, cap1, hc1, hs1⟩ := hr4 1 (by omega)
          have q0 := cell_quiet HB.out.2.2 hc0
          have q1 := cell_quiet HB.out.2.2 hc1
          have hks : kids = [kids.getD 0 0, kids.getD 1 0] := by
            have hkl := HF.out.two (.inr rfl)
            simp only at hkl
            match kids, hkl with
            | [_, _], _ => rfl
          have HKS := Lib.hid (And.intro hs0 (And.intro hs1 hks))
          clear hr4 hs0 hs1 hks hc0 hc1 hr1 hr2
          go_wp2_with fail
          go_region_with (go_at_call 38; (refine (while_new f0 cap0 f1 cap1 _).mono ?_; rintro _ W2 ⟨rfl, hW⟩; obtain ⟨bA, bN, tA⟩ := HB.out; have bA2 := hW ▸ ((bA.drew).alloc _).alloc _; have bN2 := hW ▸ ((bN.drew).alloc _).alloc _; have t2 := hW ▸ ((tA.drew).alloc _).alloc _; have sW : W2.heap.size = WA.heap.size + 2 := (by rw [← hW]; simp); have bP := hW ▸ (Blk.new_at (n := WA.heap.size) WA.drew rfl _ _).alloc _; have bQ := hW ▸ Blk.new_at (n := WA.heap.size + 1) (WA.drew.alloc _) (by simp) _ _; have hsf := store_func (P := Tryz.prog) (bA2.cell 0) (bA2.frozen 0); have K := Lib.hid (And.intro bA2 (And.intro bN2 (And.intro t2 (And.intro sW (And.intro bP bQ))))); clear hW bA bN tA bA2 bN2 t2 sW bP bQ))
          all_goals go_wp2
          all_goals go_ret
          all_goals obtain ⟨bA2, bN2, t2, sW, bP, bQ⟩ := K.out
          all_goals have hag := HAg.out
          all_goals refine made_end HD.out HL.out t2 bA2 (by rw [HAg.out]; exact Nat.le_refl _) (fun D hD => ?_)
          all_goals have hsz : ∀ u, (W2.setCell ⟨A, 0, none⟩ u).heap.size = W2.heap.size := fun _ => by simp
          all_goals have m0 := fun u => hsz u ▸ HKS.out.1 (W2.setCell ⟨A, 0, none⟩ u) (t2.setCell (p := ⟨A, 0, none⟩) (.inr (by simp only; omega)) u) D hD
          all_goals have m1 := fun u => hsz u ▸ HKS.out.2.1 (W2.setCell ⟨A, 0, none⟩ u) (t2.setCell (p := ⟨A, 0, none⟩) (.inr (by simp only; omega)) u) D hD
          all_goals rw [HKS.out.2.2]
          all_goals exact (while_act (m0 _) (keep_node HC.out.1 _ _) (bP.far (by simp only; omega) _) (by omega) (by omega) (m1 _) (keep_node HC.out.1 _ _) (bQ.far (by simp only; omega) _) (by omega) (by omega)).deeper (Nat.le_succ _)
        · clear hk1 hk13
          go_wp2_with fail
          refine (plain_new 39 #[] WA).mono ?_
          rintro _ W2 ⟨rfl, hW⟩
          obtain ⟨bA, bN, tA⟩ := HB.out
          have bA2 := hW ▸ (bA).alloc _
          have bN2 := hW ▸ (bN).alloc _
          have t2 := hW ▸ (tA).alloc _
          have sW : W2.heap.size = WA.heap.size + 1 := (by rw [← hW]; simp)
          have bP := hW ▸ Blk.new WA _ _
          have hsf := store_func (P := Tryz.prog) (bA2.cell 0) (bA2.frozen 0)
          have K := Lib.hid (And.intro bA2 (And.intro bN2 (And.intro t2 (And.intro sW bP))))
          clear hW bA bN tA bA2 bN2 t2 sW bP aA fA n0 n1
          go_wp2
          go_ret
          obtain ⟨bA2, bN2, t2, sW, bP⟩ := K.out
          have hag := HAg.out
          refine made_end HD.out HL.out t2 bA2 (by rw [HAg.out]; exact Nat.le_refl _) (fun D hD => ?_)
          exact plain_act (index_act) (bP.far (by simp only; omega) _) (by omega) (by omega)
        · clear hk1 hk13
          have hsf := store_func (P := Tryz.prog) aA fA
          clear aA fA n1
          go_wp2
          go_ret
          obtain ⟨bA, bN, tA⟩ := HB.out
          refine made_end HD.out HL.out tA bA (by rw [HAg.out]; exact Nat.le_refl _) (fun D hD => ?_)
          exact leave_act
        · clear hk1 hk13
          go_wp2_with fail
          refine (plain_new 41 #[] WA).mono ?_
          rintro _ W2 ⟨rfl, hW⟩
          obtain ⟨bA, bN, tA⟩ := HB.out
          have bA2 := hW ▸ (bA).alloc _
          have bN2 := hW ▸ (bN).alloc _
          have t2 := hW ▸ (tA).alloc _
          have sW : W2.heap.size = WA.heap.size + 1 := (by rw [← hW]; simp)
          have bP := hW ▸ Blk.new WA _ _
          have hsf := store_func (P := Tryz.prog) (bA2.cell 0) (bA2.frozen 0)
          have K := Lib.hid (And.intro bA2 (And.intro bN2 (And.intro t2 (And.intro sW bP))))
          clear hW bA bN tA bA2 bN2 t2 sW bP aA fA n0 n1
          go_wp2
          go_ret
          obtain ⟨bA2, bN2, t2, sW, bP⟩ := K.out
          have hag := HAg.out
          refine made_end HD.out HL.out t2 bA2 (by rw [HAg.out]; exact Nat.le_refl _) (fun D hD => ?_)
          exact plain_act (throw_act) (bP.far (by simp only; omega) _) (by omega) (by omega)
        · clear hk1 hk13
          have hkl := HF.out.some_ rfl
          simp only at hkl
          obtain ⟨gr, rc, rfl⟩ : ∃ g c, u6 = .slice (some ⟨g, 0, none⟩) kids.length c := by
            rcases HD.out.row with ⟨a, c, e, e'⟩ | ⟨g', c', e, _⟩
            · rw [e'] at hkl; simp at hkl
            · exact ⟨_, _, e⟩
          obtain ⟨m, hm⟩ : ∃ m, kids.length = m + 1 := ⟨kids.length - 1, by omega⟩
          have HD2 := HD.out
          rw [hm] at HD2
          have HE := Lib.hid HD2
          rw [hm]
          have hmb : m ≤ 1000 := by have := HKL.out; omega
          clear HD2 hkl hm
          go_wp2_with fail
          refine (choice_new (some ⟨gr, 0, none⟩) (m + 1) rc WA).mono ?_
          rintro _ W2 ⟨rfl, hW⟩
          obtain ⟨bA, bN, tA⟩ := HB.out
          have bA2 := hW ▸ (bA).alloc _
          have bN2 := hW ▸ (bN).alloc _
          have t2 := hW ▸ (tA).alloc _
          have sW : W2.heap.size = WA.heap.size + 1 := (by rw [← hW]; simp)
          have bP := hW ▸ Blk.new WA _ _
          have hsf := store_func (P := Tryz.prog) (bA2.cell 0) (bA2.frozen 0)
          have K := Lib.hid (And.intro bA2 (And.intro bN2 (And.intro t2 (And.intro sW bP))))
          clear hW bA bN tA bA2 bN2 t2 sW bP aA fA n0 n1
          go_wp2
          go_ret
          obtain ⟨bA2, bN2, t2, sW, bP⟩ := K.out
          have hag := HAg.out
          refine made_end HD.out HL.out t2 bA2 (by rw [HAg.out]; exact Nat.le_refl _) (fun D hD => ?_)
          have hsz : ∀ u, (W2.setCell ⟨A, 0, none⟩ u).heap.size = W2.heap.size := fun _ => by simp
          have hli := fun u => hsz u ▸ HE.out.list HC.out.1 (t2.setCell (p := ⟨A, 0, none⟩) (.inr (by simp only; omega)) u) D hD
          exact (choice_act (hli _) (by omega) (bP.far (by simp only; omega) _) (by omega) (by omega)).deeper (Nat.le_succ _)
        · clear hk1 hk13
          have hpn := HF.out.loc (.inl rfl)
          simp only at hpn
          obtain ⟨m, rfl⟩ : ∃ m : Nat, num = m := ⟨num.toNat, by omega⟩
          have HPN := Lib.hid (show m < nl by omega)
          clear hpn
          go_wp2_with fail
          refine (plain_new 45 #[.pointer (some ⟨w.heap.size, 0, none⟩)] WA).mono ?_
          rintro _ W2 ⟨rfl, hW⟩
          obtain ⟨bA, bN, tA⟩ := HB.out
          have bA2 := hW ▸ (bA).alloc _
          have bN2 := hW ▸ (bN).alloc _
          have t2 := hW ▸ (tA).alloc _
          have sW : W2.heap.size = WA.heap.size + 1 := (by rw [← hW]; simp)
          have bP := hW ▸ Blk.new WA _ _
          have hsf := store_func (P := Tryz.prog) (bA2.cell 0) (bA2.frozen 0)
          have K := Lib.hid (And.intro bA2 (And.intro bN2 (And.intro t2 (And.intro sW bP))))
          clear hW bA bN tA bA2 bN2 t2 sW bP aA fA n0 n1
          go_wp2
          go_ret
          obtain ⟨bA2, bN2, t2, sW, bP⟩ := K.out
          have hag := HAg.out
          refine made_end HD.out HL.out t2 bA2 (by rw [HAg.out]; exact Nat.le_refl _) (fun D hD => ?_)
          exact plain_act (local_act HPN.out (bN2.far (by simp only; omega) _) (by omega) (by omega)) (bP.far (by simp only; omega) _) (by omega) (by omega)
        · clear hk1 hk13
          have hpn := HF.out.loc (.inr rfl)
          simp only at hpn
          obtain ⟨m, rfl⟩ : ∃ m : Nat, num = m := ⟨num.toNat, by omega⟩
          have HPN := Lib.hid (show m < nl by omega)
          clear hpn
          go_wp2_with fail
          refine (plain_new 46 #[.pointer (some ⟨w.heap.size, 0, none⟩)] WA).mono ?_
          rintro _ W2 ⟨rfl, hW⟩
          obtain ⟨bA, bN, tA⟩ := HB.out
          have bA2 := hW ▸ (bA).alloc _
          have bN2 := hW ▸ (bN).alloc _
          have t2 := hW ▸ (tA).alloc _
          have sW : W2.heap.size = WA.heap.size + 1 := (by rw [← hW]; simp)
          have bP := hW ▸ Blk.new WA _ _
          have hsf := store_func (P := Tryz.prog) (bA2.cell 0) (bA2.frozen 0)
          have K := Lib.hid (And.intro bA2 (And.intro bN2 (And.intro t2 (And.intro sW bP))))
          clear hW bA bN tA bA2 bN2 t2 sW bP aA fA n0 n1
          go_wp2
          go_ret
          obtain ⟨bA2, bN2, t2, sW, bP⟩ := K.out
          have hag := HAg.out
          refine made_end HD.out HL.out t2 bA2 (by rw [HAg.out]; exact Nat.le_refl _) (fun D hD => ?_)
          exact plain_act (set_act HPN.out (bN2.far (by simp only; omega) _) (by omega) (by omega)) (bP.far (by simp only; omega) _) (by omega) (by omega)
end Go.Proofs.YtnhhflnanogpjaaGreatDoor
