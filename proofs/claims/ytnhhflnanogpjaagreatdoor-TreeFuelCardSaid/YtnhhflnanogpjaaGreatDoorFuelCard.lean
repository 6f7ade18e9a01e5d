import Derived.Test.YtnhhflnanogpjaaGreatDoorShownT
import Derived.Test.YtnhhflnanogpjaaGreatDoorTreeGood
import Derived.Test.YtnhhflnanogpjaaGreatDoorNodeRow
import Derived.Deep.RegionWith
import Derived.Deep.Slices
import Derived.ChangeSlices
import Derived.OpenShut
import Derived.Test.YtnhhflnanogpjaaGreatDoorWorld
import Derived.ProofKit
import Derived.SizedLaws
import Derived.Test.YtnhhflnanogpjaaGreatDoorWord1
import Derived.Test.YtnhhflnanogpjaaGreatDoorCards
import Derived.Test.YtnhhflnanogpjaaGreatDoorTie
import Derived.WalkKit
import Derived.Deep.DeepHandedRow
import Derived.Lib.LaidTab
/- TreeFuel: how many words a right tree has; Right, Mean and Text of what is no tree. -/
namespace Go.Proofs.YtnhhflnanogpjaaGreatDoor
open Go.RowKit

theorem sum_rev (f : Int → Nat) : ∀ ks : List Int, (ks.reverse.map f).sum = (ks.map f).sum
  | [] => rfl
  | k :: ks => by
    have := sum_rev f ks
    rw [List.reverse_cons, List.map_append, List.sum_append, this]
    simp
    omega
theorem cnt_kids (l : List NodeV) (ps : List Within) (kind : Int) (D : Nat) (hc : ∀ i, i < ps.length → (cntF l D i : Int) + 3 ≤ 6 * (i + 1 - (ps.getD i Within.none).first)) : ∀ (ks : List Int) (p q : Within), (∀ k ∈ ks, 0 ≤ k ∧ k < ps.length) → kidsF ps kind p ks = some q →
    ((ks.map fun i => 3 + cntF l D i.toNat).sum : Int) ≤ 6 * (p.first - q.first)
  | [], p, q, _, h => by
    simp only [kidsF] at h
    cases h
    simp
  | k :: ks, p, q, hk, h => by
    simp only [kidsF] at h
    cases e : stepK ps kind p k with
    | none => rw [e] at h; cases h
    | some p' =>
      rw [e] at h
      have ih := cnt_kids l ps kind D hc ks p' q (fun k hk' => hk k (by simp [hk'])) h
      have h0 := hk k (by simp)
      have h1 := hc k.toNat (by omega)
      unfold stepK at e
      split at e
      · cases e
      · rename_i hn
        cases e
        simp only at ih
        rw [List.map_cons, List.sum_cons]
        omega
theorem cnt_parts (l : List NodeV) (nl : Int) : ∀ (k : Nat) (ps : List Within), partsF l nl k = some ps → ∀ i, i < k → ∀ D, (cntF l D i : Int) + 3 ≤ 6 * (i + 1 - (ps.getD i Within.none).first)
  | 0, _, _, i, hi, _ => by omega
  | k + 1, ps, h, i, hi, D => by
    have hall := partsF_ok l nl (k + 1) ps h
    simp only [partsF] at h
    cases e : partsF l nl k with
    | none => rw [e] at h; cases h
    | some qs =>
      rw [e] at h
      have hq := partsF_ok l nl k qs e
      cases e2 : nodeW qs (l.getD k NodeV.none) k nl with
      | none => simp only [e2] at h; cases h
      | some p =>
        simp only [e2] at h
        cases h
        by_cases hik : i < k
        · have ih := cnt_parts l nl k qs e i hik D
          rw [List.getD, List.getElem?_append_left (by rw [hq.1]; exact hik)]
          exact ih
        · obtain rfl : i = k := by omega
          have e0 : (qs ++ [p]).getD i Within.none = p := by
            rw [List.getD, List.getElem?_append_right (by rw [hq.1]; exact Nat.le_refl _), hq.1]
            simp
          rw [e0]
          unfold nodeW at e2
          split at e2
          · cases e2
          · cases e3 : kidsF qs (l.getD i NodeV.none).kind ⟨i, 0, decide ((l.getD i NodeV.none).kind = 9)⟩ (l.getD i NodeV.none).kids.reverse with
            | none => rw [e3] at e2; cases e2
            | some q =>
              rw [e3] at e2
              cases e2
              have hkid := (hall.2.2 i (by omega)).2
              have hf := (hall.2.1.first i (by rw [hall.1]; omega))
              rw [e0] at hf
              simp only at hf
              cases D with
              | zero => simp only [cntF]; omega
              | succ D =>
                have h3 := cnt_kids l qs _ D (fun j hj => cnt_parts l nl i qs e j (by rw [hq.1] at hj; exact hj) D) _ _ _ (fun x hx => by rw [hq.1]; exact hkid x (List.mem_reverse.1 hx)) e3
                rw [sum_rev (fun i => 3 + cntF l D i.toNat)] at h3
                simp only at h3
                simp only [cntF]
                omega
theorem cnt_right {l : List NodeV} {nl : Int} (h : rightB l nl = true) (D : Nat) : cntF l D (l.length - 1) ≤ 1000000 := by
  obtain ⟨_, _, _, h1, h2, ps, hps⟩ := rightB_spec h
  have h3 := cnt_parts l nl l.length ps hps (l.length - 1) (by omega) D
  have h4 := (partsF_ok l nl l.length ps hps).2.1.first (l.length - 1) (by rw [(partsF_ok l nl l.length ps hps).1]; omega)
  omega
/-- a node that is no row of others has words -/
theorem words_some {l : List NodeV} : ∀ {D k : Nat} {ws : List ByteArray}, wordsR l D k ws → (l.getD k NodeV.none).kind ≠ 3 → ws ≠ []
  | 0, _, _, h, _ => h.elim
  | D + 1, k, ws, h, h3 => by
    unfold wordsR at h
    split at h
    · rcases h with h | h | h | h | h | h | h
      all_goals first | (rw [h.2]; simp) | (obtain ⟨_, s, _, rfl⟩ := h; simp)
    · split at h
      · rintro rfl; simp at h
      · obtain ⟨p, _, rfl⟩ := h
        unfold endF
        rw [if_neg h3]
        simp
theorem text_some {ws : List ByteArray} (h : ws ≠ []) : (textF ws).size ≠ 0 := by
  cases ws with
  | nil => exact absurd rfl h
  | cons x r =>
    unfold textF
    show (Lib.join (((x :: r) ++ [ByteArray.empty]).map (·.data.toList)) (⟨#[32]⟩ : ByteArray).data.toList).toArray.size ≠ 0
    rw [List.size_toArray, List.cons_append, List.map_cons, Lib.join_length, show (⟨#[32]⟩ : ByteArray).data.toList.length = 1 from rfl]
    simp

/-- what few tells: a row of nodes, or none -/
def FewAt (w : World) (v : Value) (l : List NodeV) : Prop := (∃ a c, v = .slice a l.length c) ∧ (1 ≤ l.length → NodesAt w v l)
theorem FewAt.quiet {w w' : World} {v : Value} {l : List NodeV} (h : FewAt w v l) (t : Touch [] w w') : FewAt w' v l := ⟨h.1, fun k => (h.2 k).quiet t⟩

theorem Right_no (a : Option Addr) (n c : Nat) (nl : Int) (w : World) (h : nl < 0 ∨ 16 < nl ∨ n < 1 ∨ 100 < n) :
    Calls Tryz.prog 9 #[.slice a n c, .int .i64 nl] w fun e w' => e = .returned (.bool false) ∧ Touch [] w w' := by
  have b := Blk.new w 4 #[.bool false]
  have t := (Touch.refl [] w).alloc (.cells #[.bool false] 4)
  have hc : nl < 0 ∨ (¬ nl < 0 ∧ nl > 16) ∨ (¬ nl < 0 ∧ ¬ nl > 16 ∧ (n : Int) < 1) ∨ (¬ nl < 0 ∧ ¬ nl > 16 ∧ ¬ (n : Int) < 1 ∧ (n : Int) > 100) := by omega
  go_enter Tryz.func9, Tryz.ntmps9
  rcases hc with h1 | ⟨h1, h2⟩ | ⟨h1, h2, h3⟩ | ⟨h1, h2, h3, h4⟩
  all_goals clear h
  all_goals go_wp2
  all_goals refine bodyPost_ret (v := .bool false) ?_ rfl ⟨rfl, t⟩
  all_goals simp [results, Tryz.f9, go_sem]

theorem rightB_no {l : List NodeV} {nl : Int} (h : nl < 0 ∨ 16 < nl ∨ l.length < 1 ∨ 100 < l.length) : rightB l nl = false := by
  unfold rightB
  rw [if_pos h]
theorem Right_any (l : List NodeV) (v : Value) (nl : Int) (w : World) (hN : FewAt w v l) (hk : ∀ v ∈ l, v.kids.length ≤ 1000) :
    Calls Tryz.prog 9 #[v, .int .i64 nl] w fun e w' => e = .returned (.bool (rightB l nl)) ∧ Touch [] w w' := by
  by_cases h : nl < 0 ∨ 16 < nl ∨ l.length < 1 ∨ 100 < l.length
  · obtain ⟨a, c, rfl⟩ := hN.1
    rw [rightB_no h]
    exact Right_no a l.length c nl w h
  · obtain ⟨n, rfl⟩ : ∃ n : Nat, nl = n := ⟨nl.toNat, by omega⟩
    exact Right_go l v n w (hN.2 (by omega)) (by omega) (by omega) (by omega) hk

set_option maxRecDepth 100000 in
set_option maxHeartbeats 1000000 in
theorem Text_no (l : List NodeV) (v : Value) (nl : Int) (w : World) (hN : FewAt w v l) (hk : ∀ v ∈ l, v.kids.length ≤ 1000) (hR : rightB l nl = false) :
    Calls Tryz.prog 11 #[v, .int .i64 nl] w fun e w' => e = .returned (.string .empty) ∧ Touch [] w w' := by
  have hRight := Right_any l v nl w hN hk
  rw [hR] at hRight
  clear hN hk hR
  go_enter Tryz.func11, Tryz.ntmps11
  go_wp2_with fail
  refine hRight.mono ?_
  rintro _ w1 ⟨rfl, t1⟩
  clear hRight
  go_wp2_with fail
  go_ret
  exact ⟨rfl, t1⟩
set_option maxRecDepth 100000 in
set_option maxHeartbeats 1000000 in
theorem Mean_no (l : List NodeV) (v : Value) (nl : Int) (cv : Value) (f : Nat) (w : World) (hN : FewAt w v l) (hk : ∀ v ∈ l, v.kids.length ≤ 1000) (hR : rightB l nl = false) :
    Calls Tryz.prog 8 #[v, .int .i64 nl, cv, .int .i64 f] w (Told w ⟨[], 0, false, 0⟩) := by
  have b := Blk.new w 29 #[.slice none 0 0, .int .i64 0, .bool false, .int .i64 0]
  have t := (Touch.refl [] w).alloc (.cells #[.slice none 0 0, .int .i64 0, .bool false, .int .i64 0] 29)
  have hRight := Right_any l v nl (w.alloc (.cells #[.slice none 0 0, .int .i64 0, .bool false, .int .i64 0] 29)) (hN.quiet t) hk
  rw [hR] at hRight
  have HB := Lib.hid (And.intro b t)
  clear hN hk hR b t
  go_enter Tryz.func8, Tryz.ntmps8
  go_wp2_with fail
  refine hRight.mono ?_
  rintro _ w1 ⟨rfl, t1⟩
  clear hRight
  have b1 := HB.out.1.touch t1 (by simp)
  have T := HB.out.2.trans t1 (by simp)
  have d0 := b1.cell 0
  have d1 := b1.cell 1
  have d2 := b1.cell 2
  have d3 := b1.cell 3
  have f0 := b1.frozen 0
  have f1 := b1.frozen 1
  have f2 := b1.frozen 2
  have f3 := b1.frozen 3
  have HX := Lib.hid (And.intro b1 T)
  clear b1 T t1
  go_wp2_with fail
  exact mean_ret (m := ⟨[], 0, false, 0⟩) (by rfl) HX.out.1 HX.out.2 (World.ownsRow_nil _ _ _ _) (by simp [rowOf])
end Go.Proofs.YtnhhflnanogpjaaGreatDoor

/- TreeFuel: the nodes that are few; two meanings held against each other. -/
namespace Go.Proofs.YtnhhflnanogpjaaGreatDoor
open Go.RowKit

def cutN (v : NodeV) : NodeV := ⟨v.kind, v.n, v.kids.take 20⟩
def fewL (l : List NodeV) : List NodeV := (l.take 101).map cutN
theorem few_next {l : List NodeV} {j : Nat} (hj : j < l.length) (h : j < 101) : fewL (l.take (j + 1)) = fewL (l.take j) ++ [cutN (l.getD j NodeV.none)] := by
  unfold fewL
  rw [List.take_take, List.take_take, Nat.min_eq_right (by omega), Nat.min_eq_right (by omega), List.take_add_one, List.map_append, List.getElem?_eq_getElem hj]
  simp [List.getD, List.getElem?_eq_getElem hj]
theorem few_stay {l : List NodeV} {j : Nat} (h : ¬ j < 101) : fewL (l.take (j + 1)) = fewL (l.take j) := by
  unfold fewL
  rw [List.take_take, List.take_take, Nat.min_eq_left (by omega), Nat.min_eq_left (by omega)]
theorem few_len (l : List NodeV) : (fewL l).length ≤ 101 := by
  unfold fewL
  rw [List.length_map, List.length_take]
  omega
theorem few_ok {l : List NodeV} (h : ∀ v ∈ l, Cell64 v.n) : NodesOk (fewL l) := by
  intro v hv
  obtain ⟨x, hx, rfl⟩ := List.mem_map.1 hv
  refine ⟨h x (List.mem_of_mem_take hx), ?_⟩
  show (x.kids.take 20).length ≤ 1000
  rw [List.length_take]
  omega

/-- nodes that came in -/
def ArgNodes (w : World) (v : Value) (l : List NodeV) : Prop := ∃ a c, v = .slice a l.length c ∧ ∀ i, i < l.length → ∃ g off kv, a = some ⟨g, off, none⟩ ∧ w.cell? ⟨g, off + i * 3, none⟩ = some (.int .i64 (l.getD i NodeV.none).kind) ∧ w.cell? ⟨g, off + i * 3 + 1, none⟩ = some (.int .i64 (l.getD i NodeV.none).n) ∧
  w.cell? ⟨g, off + i * 3 + 2, none⟩ = some kv ∧ KidsAt w kv (l.getD i NodeV.none).kids ∧ ∃ a c, kv = .slice a (l.getD i NodeV.none).kids.length c ∧ (l.getD i NodeV.none).kids.length ≤ c ∧ c ≤ 9223372036854775807
theorem ArgNodes.quiet {w w' : World} {v : Value} {l : List NodeV} (h : ArgNodes w v l) (t : Touch [] w w') : ArgNodes w' v l := by
  obtain ⟨a, c, e, k⟩ := h
  refine ⟨a, c, e, fun i hi => ?_⟩
  obtain ⟨g, off, kv, e, c0, c1, c2, hk, hs⟩ := k i hi
  exact ⟨g, off, kv, e, cell_quiet t c0, cell_quiet t c1, cell_quiet t c2, hk.quiet t, hs⟩

/-- the rows so far -/
def FewRow (w wr : World) (v : Value) (l : List NodeV) : Prop := ∃ ns : List (NodeV × Value), ns.map (·.1) = l ∧ NodeRow wr w.heap.size v ns ∧ (∀ p ∈ ns, KidsAt w p.2 p.1.kids) ∧ Touch [] w wr

set_option maxRecDepth 100000 in
set_option maxHeartbeats 1000000 in
theorem few_any (l : List NodeV) (v : Value) (w : World) (hN : ArgNodes w v l) (hl : l.length ≤ 9223372036854775807) (hk : ∀ v ∈ l, v.kids.length ≤ 9223372036854775807) :
    Calls Tryz.prog 7 #[v] w fun e w' => ∃ v', e = .returned v' ∧ FewAt w' v' (fewL l) ∧ Touch [] w w' := by
  obtain ⟨a, c, rfl, hc⟩ := id hN
  obtain ⟨n, hn⟩ : ∃ n, l.length = n := ⟨_, rfl⟩
  rw [hn] at hl hc ⊢
  have HC := Lib.hid (And.intro hc (And.intro hn hk))
  clear hc hn hN hk
  go_enter Tryz.func7, Tryz.ntmps7
  go_wp2_with fail
  go_loopw [8, 3] (fun i v wr => ∃ j : Nat, j ≤ n ∧ i = .int .i64 j ∧ FewRow w wr v (fewL (l.take j))) (fun i _ _ => n - (intOf i).toNat)
  case atStart => exact ⟨0, Nat.zero_le _, rfl, [], by simp [fewL], NodeRow.nil _ _, by simp, Touch.refl _ _⟩
  case round =>
    obtain ⟨j, hj, rfl, hR⟩ := hrel
    by_cases hlt : j < n
    · have hlt2 : (j : Int) < n := by omega
      obtain ⟨ns, e1, e2, e3, t1⟩ := hR
      obtain ⟨g, off, kv, rfl, c0, c1, c2, hkk, ka, kc, rfl, hkc⟩ := HC.out.1 j hlt
      have c0 := cell_quiet t1 c0
      have c1 := cell_quiet t1 c1
      have c2 := cell_quiet t1 c2
      have hkl := HC.out.2.2 (l.getD j NodeV.none) (by rw [List.getD, List.getElem?_eq_getElem (by rw [HC.out.2.1]; exact hlt)]; exact List.getElem_mem _)
      obtain ⟨nv, hnv⟩ : ∃ nv, l.getD j NodeV.none = nv := ⟨_, rfl⟩
      rw [hnv] at c0 c1 c2 hkk hkl hkc
      obtain ⟨kind, num, ks⟩ := nv
      simp only at c0 c1 c2 hkk hkl hkc
      have ek : IntKind.i64.wrap ((j : Int) + 1) = (j + 1 : Nat) := by rw [IntKind.wrap_i64]; omega
      have HR := Lib.hid (And.intro e1 (And.intro e2 (And.intro e3 (And.intro t1 hnv))))
      clear e1 e2 e3 t1 hnv
      obtain ⟨kl, hkl2⟩ : ∃ kl, ks.length = kl := ⟨_, rfl⟩
      rw [hkl2] at c2 hkk hkl hkc
      have HK := Lib.hid (And.intro hkk hkl2)
      clear hkk hkl2
      by_cases h101 : j < 101
      · have h101' : (j : Int) < 101 := by omega
        go_upto_region 6 with fail
        have b0 := Blk.new wr 37 #[.int .i64 kind, .int .i64 num, .slice ka kl kc]
        have t0 := (Touch.refl [] wr).alloc (.cells #[.int .i64 kind, .int .i64 num, .slice ka kl kc] 37)
        have hs0 : (wr.alloc (.cells #[.int .i64 kind, .int .i64 num, .slice ka kl kc] 37)).heap.size = wr.heap.size + 1 := by simp
        generalize (wr.alloc (.cells #[.int .i64 kind, .int .i64 num, .slice ka kl kc] 37)) = W0 at *
        have d2 := b0.cell 2
        have f2 := b0.frozen 2
        clear c0 c1 c2
        go_upto_region 7 with fail
        obtain ⟨m, hm⟩ : ∃ m, (min (kl : Int) 20).toNat = m := ⟨_, rfl⟩
        have hb1 := b0.set_ 2 (.slice ka m kc)
        have b1 : Blk (W0.setCell ⟨wr.heap.size, 2, none⟩ (.slice ka m kc)) wr.heap.size 37 #[.int .i64 kind, .int .i64 num, .slice ka m kc] := hb1
        have t1 := t0.setCell (p := ⟨wr.heap.size, 2, none⟩) (.inr (Nat.le_refl _)) (.slice ka m kc)
        rw [hm]
        obtain ⟨gx, hgx⟩ : ∃ g, wr.heap.size = g := ⟨_, rfl⟩
        rw [hgx] at b1 t1 ⊢
        clear hb1 d2 f2 hs0 t0 b0
        generalize (W0.setCell ⟨gx, 2, none⟩ (.slice ka m kc)) = W1 at *
        have d0 := b1.cell 0
        have d1 := b1.cell 1
        have d2 := b1.cell 2
        have bN := Blk.new W1 37 #[.int .i64 kind, .int .i64 num, .slice ka m kc]
        have tN := t1.alloc (.cells #[.int .i64 kind, .int .i64 num, .slice ka m kc] 37)
        have T1 := HR.out.2.2.2.1.trans tN (by simp)
        have hR2 : NodeRow (W1.alloc (.cells #[.int .i64 kind, .int .i64 num, .slice ka m kc] 37)) w.heap.size u3 ns := row_touch HR.out.2.1 tN (by simp)
        have hnl : ns.length ≤ 1000 := by
          have h1 := congrArg List.length HR.out.1
          have h2 := few_len (l.take j)
          rw [List.length_map] at h1
          omega
        have hbs := T1.size
        have hkids : KidsAt w (.slice ka m kc) (ks.take 20) := by
          have hkk := HK.out.1
          have hkl2 := HK.out.2
          rcases hkk with ⟨a', c', e, rfl⟩ | ⟨g', off', c', e, hc'⟩
          · left
            have : m = 0 := by simp at hkl2; omega
            exact ⟨ka, kc, by rw [this], rfl⟩
          · right
            injection e with e1 e2 e3
            have hml : (ks.take 20).length = m := by rw [List.length_take]; omega
            refine ⟨g', off', kc, by rw [e1, hml], fun i hi => ?_⟩
            rw [hml] at hi
            rw [hc' i (by omega)]
            simp only [List.getD, List.getElem?_take]
            rw [if_pos (by omega)]
        have HKK := Lib.hid (And.intro hkids (And.intro T1 (And.intro tN hR2)))
        clear t1 tN T1 hkids hgx hm
        go_wp2_with (at_builtin; refine wpList_node rfl _ _ rfl _ _ (⟨kind, num, ks.take 20⟩, .slice ka m kc) W1.heap.size w.heap.size rfl hR2 rfl bN rfl hnl hbs ?_)
        intro v' w2 k1 k2 k3 k4
        have hF : FewRow w w2 v' (fewL (l.take (j + 1))) := by
          have tG : Touch (rowOf u3) (W1.alloc (.cells #[.int .i64 kind, .int .i64 num, .slice ka m kc] 37)) w2 := (Touch.refl (rowOf u3) _).grown k2 (fun k hk => .inl (rowOf_mem.2 hk))
          have hro : ∀ g ∈ rowOf u3, w.heap.size ≤ g := fun g hg => (World.ownsRow.lt HKK.out.2.2.2 g (rowOf_mem.1 hg)).1
          refine ⟨ns ++ [(⟨kind, num, ks.take 20⟩, .slice ka m kc)], ?_, k1, fun p hp => ?_, HKK.out.2.1.trans tG (fun g hg => .inr (hro g hg))⟩
          · rw [few_next (by rw [HC.out.2.1]; exact hlt) h101, List.map_append, HR.out.1, HR.out.2.2.2.2]
            rfl
          · rcases List.mem_append.1 hp with h | h
            · exact HR.out.2.2.1 p h
            · rw [List.mem_singleton.1 h]
              exact HKK.out.1
        have HF := Lib.hid hF
        clear hF k1 k2 k3 k4 hR2 bN d0 d1 d2 hbs
        go_wp2_with fail
        go_roundw
        case rel => exact ⟨j + 1, by omega, vint (by omega), HF.out⟩
        case measure => simp only [intOf]; omega
      · have h101' : ¬ (j : Int) < 101 := by omega
        have hF : FewRow w (wr.alloc (.cells #[.int .i64 kind, .int .i64 num, .slice ka kl kc] 37)) u3 (fewL (l.take (j + 1))) :=
          ⟨ns, by rw [few_stay h101]; exact HR.out.1, HR.out.2.1.alloc _, HR.out.2.2.1, HR.out.2.2.2.1.alloc _⟩
        have HF := Lib.hid hF
        clear hF
        go_wp2_with fail
        go_roundw
        case rel => exact ⟨j + 1, by omega, vint (by omega), HF.out⟩
        case measure => simp only [intOf]; omega
    · have hlt2 : ¬ (j : Int) < n := by omega
      obtain rfl : j = n := by omega
      have hfin : FewAt wr u3 (fewL l) ∧ Touch [] w wr := by
        obtain ⟨ns, e1, e2, e3, t1⟩ := hR
        rw [List.take_of_length_le (by rw [HC.out.2.1]; exact Nat.le_refl _)] at e1
        refine ⟨⟨?_, fun h1 => ?_⟩, t1⟩
        · obtain ⟨a, c, rfl⟩ := own_slice e2
          exact ⟨a, c, by rw [← e1, List.length_map]⟩
        · rw [← e1]
          exact e2.nodes (by rintro rfl; rw [← e1] at h1; simp at h1) (fun p hp => (e3 p hp).quiet t1)
      have HF := Lib.hid hfin
      clear hfin hR
      go_wp2_with fail
      go_ret
      exact ⟨_, rfl, HF.out.1, HF.out.2⟩
end Go.Proofs.YtnhhflnanogpjaaGreatDoor

/- TreeFuel: two meanings held against each other; Mean and Text of any nodes. -/
namespace Go.Proofs.YtnhhflnanogpjaaGreatDoor
open Go.RowKit

set_option maxRecDepth 100000 in
set_option maxHeartbeats 1000000 in
theorem Same20_eq (s1 s2 : Value) (m : MeantV) (w : World) (h1 : RowC w s1 m.st) (h2 : RowC w s2 m.st) (hl : m.st.length ≤ 9223372036854775807) :
    Calls Tryz.prog 10 #[m.val s1, m.val s2] w fun e w' => e = .returned (.bool true) ∧ Touch [] w w' := by
  obtain ⟨st, code, done, steps⟩ := m
  simp only [MeantV.val]
  simp only at h1 h2 hl
  obtain ⟨a1, c1, rfl, _⟩ := id h1
  obtain ⟨a2, c2, rfl, _⟩ := id h2
  obtain ⟨n, hn⟩ : ∃ n, st.length = n := ⟨_, rfl⟩
  have HL := Lib.hid (And.intro hl hn)
  rw [hn] at h1 h2 ⊢
  have H12 := Lib.hid (And.intro h1 h2)
  clear hn hl h1 h2
  have hcc : (code == code) = true := by simp
  have hdd : (done == done) = true := by simp
  have hee : ((steps : Int) == steps) = true := by simp
  go_enter Tryz.func10, Tryz.ntmps10
  go_upto_region 1 with fail
  have bA : Blk ((w.alloc (Obj.cells #[Value.slice a1 n c1, Value.int IntKind.i64 code, Value.bool done, Value.int IntKind.i64 (steps : Int)] 29)).alloc (Obj.cells #[Value.slice a2 n c2, Value.int IntKind.i64 code, Value.bool done, Value.int IntKind.i64 (steps : Int)] 29)) w.heap.size 29 #[Value.slice a1 n c1, Value.int IntKind.i64 code, Value.bool done, Value.int IntKind.i64 (steps : Int)] := (Blk.new w _ _).alloc _
  have bB : Blk ((w.alloc (Obj.cells #[Value.slice a1 n c1, Value.int IntKind.i64 code, Value.bool done, Value.int IntKind.i64 (steps : Int)] 29)).alloc (Obj.cells #[Value.slice a2 n c2, Value.int IntKind.i64 code, Value.bool done, Value.int IntKind.i64 (steps : Int)] 29)) (w.heap.size + 1) 29 #[Value.slice a2 n c2, Value.int IntKind.i64 code, Value.bool done, Value.int IntKind.i64 (steps : Int)] := Blk.new_at _ (by simp) _ _
  have tt : Touch [] w ((w.alloc (Obj.cells #[Value.slice a1 n c1, Value.int IntKind.i64 code, Value.bool done, Value.int IntKind.i64 (steps : Int)] 29)).alloc (Obj.cells #[Value.slice a2 n c2, Value.int IntKind.i64 code, Value.bool done, Value.int IntKind.i64 (steps : Int)] 29)) := ((Touch.refl [] w).alloc _).alloc _
  generalize ((w.alloc (Obj.cells #[Value.slice a1 n c1, Value.int IntKind.i64 code, Value.bool done, Value.int IntKind.i64 (steps : Int)] 29)).alloc (Obj.cells #[Value.slice a2 n c2, Value.int IntKind.i64 code, Value.bool done, Value.int IntKind.i64 (steps : Int)] 29)) = wz at *
  have hS := Same_eq (.slice a1 n c1) (.slice a2 n c2) st wz (H12.out.1.quiet tt) (H12.out.2.quiet tt) HL.out.1
  have HB := Lib.hid (And.intro bA (And.intro bB tt))
  have a0 := bA.cell 0
  have b0 := bB.cell 0
  clear bA bB tt
  go_wp2_with fail
  refine hS.mono ?_
  rintro _ w2 ⟨rfl, t2⟩
  have bA := HB.out.1.touch t2 (by simp)
  have bB := HB.out.2.1.touch t2 (by simp)
  have a1 := bA.cell 1
  have a2 := bA.cell 2
  have a3 := bA.cell 3
  have b1 := bB.cell 1
  have b2 := bB.cell 2
  have b3 := bB.cell 3
  have HT := Lib.hid (HB.out.2.2.trans t2 (by simp))
  clear bA bB t2 hS a0 b0
  go_wp2_with fail
  go_ret
  exact ⟨rfl, HT.out⟩

def meanT (l : List NodeV) (nl : Int) (cs : List Int) (f : Nat) : MeantV := if rightB l nl = true then meanF l nl.toNat cs f else ⟨[], 0, false, 0⟩
theorem Mean_any (l : List NodeV) (v : Value) (nl : Int) (cv : Value) (cs : List Int) (f : Nat) (w : World) (hN : FewAt w v l) (hok : NodesOk l) (hC : CellsAt w cv cs) (hcs : AllCells cs) (hcl : cs.length ≤ 128) (hf : f ≤ 100000) :
    Calls Tryz.prog 8 #[v, .int .i64 nl, cv, .int .i64 f] w (Told w (meanT l nl cs f)) := by
  unfold meanT
  by_cases h : rightB l nl = true
  · rw [if_pos h]
    obtain ⟨n, rfl, _, h1, _⟩ := rightB_spec h
    exact Mean_go l v n cv cs f w (hN.2 h1) h hok hC hcs hcl hf
  · rw [if_neg h]
    exact Mean_no l v nl cv f w hN (fun v hv => (hok v hv).2) (by simpa using h)
def TextT (l : List NodeV) (nl : Int) (s : ByteArray) : Prop := (rightB l nl = false → s = .empty) ∧ (rightB l nl = true → (l.getD (l.length - 1) NodeV.none).kind ≠ 3 → s.size ≠ 0)
theorem Text_any (l : List NodeV) (v : Value) (nl : Int) (w : World) (hN : FewAt w v l) (hok : NodesOk l) (hT : TabsOk w) :
    Calls Tryz.prog 11 #[v, .int .i64 nl] w fun e w' => ∃ s, e = .returned (.string s) ∧ TextT l nl s ∧ Touch [] w w' := by
  by_cases h : rightB l nl = true
  · obtain ⟨n, rfl, _, h1, _⟩ := id (rightB_spec h)
    refine (Text_go l n v w (hN.2 h1) h hok (cnt_right h _) hT).mono fun e w' ⟨pre, ws, _, h2, h3, h4⟩ => ⟨_, h3, ⟨fun hf => ?_, fun _ h3 => text_some (fun e0 => ?_)⟩, h4⟩
    · rw [hf] at h; cases h
    · exact words_some h2 h3 (List.append_eq_nil_iff.1 e0).2
  · have hf : rightB l nl = false := by simpa using h
    exact (Text_no l v nl w hN (fun v hv => (hok v hv).2) hf).mono fun e w' ⟨h1, h2⟩ => ⟨_, h1, ⟨fun _ => rfl, fun ht => absurd ht h⟩, h2⟩

/-- cells that came in -/
def ArgCells (w : World) (cv : Value) (cs : List Int) : Prop :=
  (cv = .slice none 0 0 ∧ cs = []) ∨ ∃ ad c, cv = .slice (some ad) cs.length c ∧ cs.length ≤ c ∧ c ≤ 9223372036854775807 ∧ ∀ j, j < cs.length → w.cell? (ad.add j) = some (.int .i64 (cs.getD j 0))
theorem ArgCells.form {w : World} {cv : Value} {cs : List Int} (h : ArgCells w cv cs) : ∃ a c, cv = .slice a cs.length c ∧ cs.length ≤ c ∧ c ≤ 9223372036854775807 := by
  rcases h with ⟨rfl, rfl⟩ | ⟨ad, c, rfl, h1, h2, _⟩
  · exact ⟨none, 0, rfl, Nat.le_refl _, by decide⟩
  · exact ⟨_, c, rfl, h1, h2⟩
theorem ArgCells.cut {w : World} {a : Option Addr} {n c : Nat} {cs : List Int} (h : ArgCells w (.slice a n c) cs) (hn : cs.length = n) {m : Nat} (hm : (min (n : Int) 60).toNat = m) : CellsAt w (.slice a m c) (cs.take 60) := by
  rcases h with ⟨e, rfl⟩ | ⟨ad, c', e, h1, h2, hc⟩
  · injection e with e1 e2 e3
    subst e1 e3
    left
    refine ⟨?_, rfl⟩
    have : m = 0 := by omega
    rw [this]
  · injection e with e1 e2 e3
    subst e1 e3
    right
    have hml : (cs.take 60).length = m := by rw [List.length_take]; omega
    refine ⟨ad, c, by rw [hml], fun j u hj => ?_⟩
    have hj2 := (List.getElem?_eq_some_iff.1 hj).1
    have hj3 : j < m := by rw [← hml]; simpa [cells] using hj2
    rw [hc j (by omega), ← hj]
    simp only [cells, List.getElem?_map, List.getElem?_take]
    rw [if_pos (by omega), List.getElem?_eq_getElem (by omega)]
    simp [List.getD, List.getElem?_eq_getElem (show j < cs.length by omega)]
theorem AllCells.cut {cs : List Int} (h : AllCells cs) (n : Nat) : AllCells (cs.take n) := fun x hx => h x (List.mem_of_mem_take hx)
end Go.Proofs.YtnhhflnanogpjaaGreatDoor

/- TreeFuel: the walk. -/
namespace Go.Proofs.YtnhhflnanogpjaaGreatDoor
open Go.RowKit

theorem own_max {w : World} {base n : Nat} {e : TypeId} {v : Value} {xs : List Value} (h : w.ownsRow base e 1 v n xs) : n ≤ 9223372036854775807 := by
  rcases h.2 with ⟨_, h0⟩ | ⟨g, cap, cur, _, _, _, h1, h2, _⟩
  · omega
  · unfold maxLen at h2; omega

set_option maxRecDepth 100000 in
set_option maxHeartbeats 1500000 in
theorem TreeFuel_walk (l : List NodeV) (v : Value) (x : Int) (cs : List Int) (cv : Value) (fu mo : Int) (hlr : l.length ≤ 9223372036854775807) (hkr : ∀ v ∈ l, v.kids.length ≤ 9223372036854775807) (hnr : ∀ v ∈ l, Cell64 v.n) (hcs : AllCells cs) (hf : 0 ≤ fu ∧ fu ≤ 65535) (hm : 0 ≤ mo ∧ mo ≤ 65535) (w : World) (hN : ArgNodes w v l) (hC : ArgCells w cv cs) (hT : TabsOk w) :
    Calls Tryz.prog 3 #[v, .int .i64 x, cv, .int .u16 fu, .int .u16 mo] w fun e w' => e = .returned (.bool true) ∧ Touch [] w w' := by
  have hSh := shown_any w hT
  obtain ⟨ca, cc, rfl, hcl, hcc⟩ := hC.form
  obtain ⟨n, hn⟩ : ∃ n, cs.length = n := ⟨_, rfl⟩
  rw [hn] at hC hcl ⊢
  have HC := Lib.hid (And.intro hC hn)
  have HT := Lib.hid hT
  have HA := Lib.hid (And.intro hlr (And.intro hkr (And.intro hnr (And.intro hcs hN))))
  clear hC hn hT hlr hkr hnr hcs hN
  obtain ⟨f, hff⟩ : ∃ f : Nat, fu % 500 = f := ⟨(fu % 500).toNat, by omega⟩
  obtain ⟨k, hkk⟩ : ∃ k : Nat, mo % 500 = k := ⟨(mo % 500).toNat, by omega⟩
  have HF := Lib.hid (And.intro hff (And.intro hkk (And.intro (show f < 500 by omega) (show k < 500 by omega))))
  clear hff hkk
  go_enter Tryz.func3, Tryz.ntmps3
  go_wp2_with fail
  refine hSh.mono ?_
  rintro _ w1 ⟨rfl, T1⟩
  clear hSh
  go_upto_region 2 with fail
  have hFew := few_any l v w1.drew (HA.out.2.2.2.2.quiet T1.drew) HA.out.1 HA.out.2.1
  have HT1 := Lib.hid T1
  clear T1
  go_cut [12, 13, 14] from 18 to 27 (fun a b c wx => ∃ v', a = v' ∧ b = .slice ca (min (n : Int) 60).toNat cc ∧ c = .int .i64 (fu % 500) ∧ FewAt wx v' (fewL l) ∧ Touch [] w1 wx)
  case first =>
    go_region_with (go_at_call 7; refine hFew.mono ?_; rintro _ w2 ⟨v', rfl, hv, t2⟩)
    all_goals (go_wp2_with fail; go_meet; exact ⟨v', rfl, rfl, rfl, hv, t2.of_drew⟩)
  case rest =>
    obtain ⟨v', rfl, rfl, rfl, hv, t2⟩ := hcut
    obtain ⟨xa, xc, rfl⟩ := hv.1
    obtain ⟨m, hm⟩ : ∃ m, (min (n : Int) 60).toNat = m := ⟨_, rfl⟩
    rw [hm, HF.out.1]
    have t12 := HT1.out.trans t2 (by simp)
    have hCw := ((HC.out.1.cut HC.out.2 hm).quiet t12)
    have hok := few_ok HA.out.2.2.1
    have hall := HA.out.2.2.2.1.cut 60
    have hlen : (cs.take 60).length ≤ 128 := by rw [List.length_take]; omega
    have hM1 := Mean_any (fewL l) (.slice xa (fewL l).length xc) x (.slice ca m cc) (cs.take 60) f wc hv hok hCw hall hlen (by have := HF.out.2.2.1; omega)
    have hM2 := fun W (t : Touch [] wc W) => Mean_any (fewL l) (.slice xa (fewL l).length xc) x (.slice ca m cc) (cs.take 60) (f + k) W (hv.quiet t) hok (hCw.quiet t) hall hlen (by have := HF.out.2.2.1; have := HF.out.2.2.2; omega)
    have hRR := fun W (t : Touch [] wc W) => Right_any (fewL l) (.slice xa (fewL l).length xc) x W (hv.quiet t) (fun v hv => (hok v hv).2)
    have hTx := fun W (t : Touch [] wc W) => Text_any (fewL l) (.slice xa (fewL l).length xc) x W (hv.quiet t) hok (HT.out.touch (t12.trans t (by simp)))
    have hlaw := fun (h : rightB (fewL l) x = true) => mean_more (fewL l) x.toNat (cs.take 60) f k
    obtain ⟨A, hA⟩ : ∃ A, meanT (fewL l) x (cs.take 60) f = A := ⟨_, rfl⟩
    obtain ⟨D, hD⟩ : ∃ A, meanT (fewL l) x (cs.take 60) (f + k) = A := ⟨_, rfl⟩
    rw [hA] at hM1
    rw [hD] at hM2
    have hnot : rightB (fewL l) x = false → A = ⟨[], 0, false, 0⟩ := fun h => by
      rw [← hA]
      unfold meanT
      rw [h]
      rfl
    have hyes : rightB (fewL l) x = true → A.steps ≤ f ∧ A.steps ≤ D.steps ∧ (A.done = false → A.steps = f ∧ A.st = [] ∧ A.code = 0) ∧ (A.done = true → D = A) := fun h => by
      have h1 := hlaw h
      unfold meanT at hA hD
      rw [if_pos h] at hA hD
      rw [hA, hD] at h1
      exact h1
    clear hA hD hlaw hall hlen hok hCw
    obtain ⟨L, hL⟩ : ∃ L, (fewL l).length = L := ⟨_, rfl⟩
    rw [hL] at hM1 hM2 hRR hTx hv ⊢
    have H1 := Lib.hid (And.intro hv (And.intro hM2 (And.intro hRR (And.intro hTx (And.intro hnot (And.intro hyes (And.intro t12 hL)))))))
    clear hv hM2 hRR hTx hnot hyes t12 hL t2
    obtain ⟨ast, acode, adone, asteps⟩ := A
    go_wp2_with fail
    refine hM1.mono ?_
    rintro _ wm ⟨sv, rfl, hrow, t3⟩
    obtain ⟨sa, sc, rfl⟩ := own_slice hrow
    simp only [MeantV.val] at hrow ⊢
    have hrr := row_read hrow
    have hmx := own_max hrow
    obtain ⟨al, hal⟩ : ∃ z, ast.length = z := ⟨_, rfl⟩
    rw [hal] at hrow hmx ⊢
    have hrr2 : RowC wm (.slice sa al sc) ast := by obtain ⟨a, c, e, h⟩ := hrr; rw [hal] at e h; injection e with e1 e2 e3; exact ⟨sa, sc, by rw [hal], fun i hi => by rw [hal] at hi; rw [e1]; exact h i hi⟩
    clear hM1 hrow hrr
    go_upto_region 4 with fail
    have bA := Blk.new wm 29 #[Value.slice sa al sc, Value.int IntKind.i64 acode, Value.bool adone, Value.int IntKind.i64 (asteps : Int)]
    have tA := (Touch.refl [] wm).alloc (Obj.cells #[Value.slice sa al sc, Value.int IntKind.i64 acode, Value.bool adone, Value.int IntKind.i64 (asteps : Int)] 29)
    obtain ⟨gA, hgA⟩ : ∃ g, wm.heap.size = g := ⟨_, rfl⟩
    rw [hgA] at bA ⊢
    generalize (wm.alloc (Obj.cells #[Value.slice sa al sc, Value.int IntKind.i64 acode, Value.bool adone, Value.int IntKind.i64 (asteps : Int)] 29)) = wn at *
    have tcn := t3.trans tA (by simp)
    have hM2 := H1.out.2.1 wn tcn
    have H2 := Lib.hid (And.intro bA (And.intro (hrr2.quiet tA) (And.intro tcn (And.intro hmx hal))))
    clear hgA bA tA hrr2 tcn hmx hal t3
    have hkk := HF.out.2.1
    have ew : IntKind.i64.wrap ((f : Int) + k) = ((f + k : Nat) : Int) := by have := HF.out.2.2; rw [IntKind.wrap_i64]; omega
    go_wp2_with fail
    refine hM2.mono ?_
    rintro _ wp ⟨sv, rfl, hrow, t3⟩
    clear hkk ew
    obtain ⟨dst, dcode, ddone, dsteps⟩ := D
    obtain ⟨sb, sd, rfl⟩ := own_slice hrow
    simp only [MeantV.val] at hrow ⊢
    have hrr := row_read hrow
    have hmx := own_max hrow
    obtain ⟨dl, hdl⟩ : ∃ z, dst.length = z := ⟨_, rfl⟩
    rw [hdl] at hrow hmx ⊢
    have hrr2 : RowC wp (.slice sb dl sd) dst := by obtain ⟨a, c, e, h⟩ := hrr; rw [hdl] at e h; injection e with e1 e2 e3; exact ⟨sb, sd, by rw [hdl], fun i hi => by rw [hdl] at hi; rw [e1]; exact h i hi⟩
    clear hM2 hrow hrr
    go_upto_region 5 with fail
    have bD := Blk.new wp 29 #[Value.slice sb dl sd, Value.int IntKind.i64 dcode, Value.bool ddone, Value.int IntKind.i64 (dsteps : Int)]
    have tD := (Touch.refl [] wp).alloc (Obj.cells #[Value.slice sb dl sd, Value.int IntKind.i64 dcode, Value.bool ddone, Value.int IntKind.i64 (dsteps : Int)] 29)
    obtain ⟨gD, hgD⟩ : ∃ g, wp.heap.size = g := ⟨_, rfl⟩
    rw [hgD] at bD ⊢
    generalize (wp.alloc (Obj.cells #[Value.slice sb dl sd, Value.int IntKind.i64 dcode, Value.bool ddone, Value.int IntKind.i64 (dsteps : Int)] 29)) = wq at *
    have tnq := t3.trans tD (by simp)
    have tcq := H2.out.2.2.1.trans tnq (by simp)
    have hRR := H1.out.2.2.1 wq tcq
    have H3 := Lib.hid (And.intro bD (And.intro (hrr2.quiet tD) (And.intro tnq (And.intro tcq hmx))))
    clear hgD bD tD hrr2 tnq tcq hmx t3
    cases hR : rightB (fewL l) x with
    | false =>
      rw [hR] at hRR
      have hA := H1.out.2.2.2.2.1 hR
      injection hA with e1 e2 e3 e4
      subst e1 e2 e3 e4
      obtain rfl : al = 0 := H2.out.2.2.2.2.symm
      go_wp2_with fail
      refine hRR.mono ?_
      rintro _ wr ⟨rfl, t5⟩
      have bA := H2.out.1.touch (H3.out.2.2.1.trans t5 (by simp)) (by simp)
      have a0 := bA.cell 0
      have a1 := bA.cell 1
      have a2 := bA.cell 2
      have a3 := bA.cell 3
      have hS := Same20_eq (.slice sa 0 sc) (.slice none 0 0) ⟨[], 0, false, 0⟩ wr (H2.out.2.1.quiet (H3.out.2.2.1.trans t5 (by simp))) ⟨none, 0, rfl, fun i hi => by simp at hi⟩ (by simp)
      simp only [MeantV.val] at hS
      have H4 := Lib.hid (And.intro t5 bA)
      clear hRR t5 bA
      go_wp2_with fail
      refine hS.mono ?_
      rintro _ ws ⟨rfl, t6⟩
      have hTx := H1.out.2.2.2.1 ws ((H3.out.2.2.2.1.trans H4.out.1 (by simp)).trans t6 (by simp))
      clear hS a0 a1 a2 a3
      go_wp2_with fail
      refine hTx.mono ?_
      rintro _ wt ⟨s, rfl, hs, t7⟩
      obtain rfl := hs.1 hR
      have hfin := (((H1.out.2.2.2.2.2.2.1.trans H3.out.2.2.2.1 (by simp)).trans H4.out.1 (by simp)).trans t6 (by simp)).trans t7 (by simp)
      have HFin := Lib.hid hfin
      clear hfin hTx t6 t7 hs
      go_wp2_with fail
      go_ret
      exact ⟨rfl, HFin.out⟩
    | true =>
      rw [hR] at hRR
      obtain ⟨y1, y2, y3, y4⟩ := H1.out.2.2.2.2.2.1 hR
      simp only at y1 y2 y3 y4
      have HY := Lib.hid (And.intro y3 y4)
      have g1 : ¬ ((asteps : Int) > f) := by omega
      have g2 : ¬ ((dsteps : Int) < asteps) := by omega
      have hHR := Lib.hid hR
      clear y1 y2 y3 y4 hR
      go_wp2_with fail
      refine hRR.mono ?_
      rintro _ wr ⟨rfl, t5⟩
      have tnr := H3.out.2.2.1.trans t5 (by simp)
      have bA := H2.out.1.touch tnr (by simp)
      have bD := H3.out.1.touch t5 (by simp)
      have a3 := bA.cell 3
      have d3 := bD.cell 3
      have hTx := H1.out.2.2.2.1 wr (H3.out.2.2.2.1.trans t5 (by simp))
      have H4 := Lib.hid (And.intro tnr (And.intro t5 (And.intro bA bD)))
      clear hRR t5 bA bD tnr
      go_wp2_with fail
      refine hTx.mono ?_
      rintro _ wt ⟨s, rfl, hs, t7⟩
      have hs3 := hs.2 hHR.out
      have tnt := H4.out.1.trans t7 (by simp)
      have tct := (H3.out.2.2.2.1.trans H4.out.2.1 (by simp)).trans t7 (by simp)
      have bA := H4.out.2.2.1.touch t7 (by simp)
      have bD := H4.out.2.2.2.touch t7 (by simp)
      have a0 := bA.cell 0
      have a1 := bA.cell 1
      have a2 := bA.cell 2
      have a3 := bA.cell 3
      have d0 := bD.cell 0
      have d1 := bD.cell 1
      have d2 := bD.cell 2
      have d3 := bD.cell 3
      have hL1 : 1 ≤ L ∧ L ≤ 100 := by
        obtain ⟨_, _, _, h1, h2, _⟩ := rightB_spec hHR.out
        have := H1.out.2.2.2.2.2.2.2
        omega
      obtain ⟨gx, cx, hxe, _, hcx⟩ := (H1.out.1.quiet tct).2 (by have := H1.out.2.2.2.2.2.2.2; omega)
      injection hxe with hx1 hx2 hx3
      subst hx1
      clear hx2 hx3
      obtain ⟨_, c0, _⟩ := hcx (L - 1) (by have := H1.out.2.2.2.2.2.2.2; omega)
      obtain ⟨rk, hrk⟩ : ∃ z, ((fewL l).getD (L - 1) NodeV.none).kind = z := ⟨_, rfl⟩
      rw [hrk] at c0
      rw [H1.out.2.2.2.2.2.2.2, hrk] at hs3
      have hwl : IntKind.i64.wrap ((L : Int) - 1) = ((L - 1 : Nat) : Int) := by rw [IntKind.wrap_i64]; omega
      have hfin := H1.out.2.2.2.2.2.2.1.trans tct (by simp)
      have hrA := H2.out.2.1.quiet tnt
      have hrD := H3.out.2.1.quiet (H4.out.2.1.trans t7 (by simp))
      have HZ := Lib.hid (And.intro hfin (And.intro hrA hrD))
      clear hfin hrA hrD bA bD tnt tct t7 hTx hs hcx
      have hLL : (L : Int) > 0 := by omega
      rcases Decidable.em (s.size = 0) with hz | hz
      case' inl =>
        have hk3 : rk = 3 := Decidable.by_contra fun h => hs3 h hz
        subst hk3
        clear hs3 hrk
        go_upto_region 9 with fail
      case' inr =>
        have hz2 : ¬ ((s.size : Int) = 0) := by omega
        have hz3 : ((s.size : Int) == 0) = false := by simpa using hz
        clear hs3 hrk
        go_upto_region 9 with fail
      all_goals
        clear hz c0 hLL hwl
        cases adone with
        | false =>
          obtain ⟨e1, e2, e3⟩ := HY.out.1 rfl
          subst e2 e3
          have hee : ((asteps : Int) == f) = true := by rw [e1]; simp
          clear e1
          obtain rfl : al = 0 := H2.out.2.2.2.2.symm
          go_wp2_with fail
          go_ret
          exact ⟨rfl, HZ.out.1⟩
        | true =>
          have e := HY.out.2 rfl
          injection e with e1 e2 e3 e4
          subst e1 e2 e3 e4
          obtain rfl : dl = al := by have h1 := H2.out.2.2.2.2; have h2 := H3.out.2.2.2.2; omega
          have hS := Same20_eq (.slice sa dl sc) (.slice sb dl sd) ⟨dst, dcode, true, dsteps⟩ wt HZ.out.2.1 HZ.out.2.2 (by have h1 := H2.out.2.2.2.2; have h2 := H2.out.2.2.2.1; simp only; omega)
          simp only [MeantV.val] at hS
          go_wp2_with fail
          refine hS.mono ?_
          rintro _ wz ⟨rfl, t8⟩
          go_wp2_with fail
          go_ret
          exact ⟨rfl, HZ.out.1.trans t8 (by simp)⟩
end Go.Proofs.YtnhhflnanogpjaaGreatDoor

/- TreeFuel: the nodes and the cells that come in, opened. -/
namespace Go.Proofs.YtnhhflnanogpjaaGreatDoor
open Go.ChangeShapes Go.WideShapes Go.ChangeAt Go.RowKit

instance : Inhabited NodeV := ⟨NodeV.none⟩
theorem trodAll_five {H : Type} {enc : TypeId × Value → H} {P : Program} {w : World} {base : Nat} {spare : Nat → Bool} {held : Bool} {t0 t1 t2 t3 t4 : TypeId} {args : Array Value} {ds : List (DataW H)} {ps : List MemPlace} (h : DataW.TrodAll enc P w base spare held [t0, t1, t2, t3, t4] args.toList ds ps) :
    ∃ v0 v1 v2 v3 v4 d0 d1 d2 d3 d4 p0 p1 p2 p3 p4, args = #[v0, v1, v2, v3, v4] ∧ ds = [d0, d1, d2, d3, d4] ∧ ps = p0 ++ (p1 ++ (p2 ++ (p3 ++ p4))) ∧ DataW.Trod enc P w base spare held t0 v0 d0 p0 ∧ DataW.Trod enc P w base spare held t1 v1 d1 p1 ∧ DataW.Trod enc P w base spare held t2 v2 d2 p2 ∧ DataW.Trod enc P w base spare held t3 v3 d3 p3 ∧ DataW.Trod enc P w base spare held t4 v4 d4 p4 := by
  obtain ⟨v0, r0, d0, e0, p0, q0, hargs, rfl, rfl, h0, k0⟩ := trodAll_cons h
  obtain ⟨v1, r1, d1, e1, p1, q1, rfl, rfl, rfl, h1, k1⟩ := trodAll_cons k0
  obtain ⟨v2, r2, d2, e2, p2, q2, rfl, rfl, rfl, h2, k2⟩ := trodAll_cons k1
  obtain ⟨v3, r3, d3, e3, p3, q3, rfl, rfl, rfl, h3, k3⟩ := trodAll_cons k2
  obtain ⟨v4, r4, d4, e4, p4, q4, rfl, rfl, rfl, h4, k4⟩ := trodAll_cons k3
  obtain ⟨rfl, rfl, rfl⟩ := trodAll_nil k4
  exact ⟨v0, v1, v2, v3, v4, d0, d1, d2, d3, d4, p0, p1, p2, p3, p4, by cases args; simp_all, rfl, by simp, h0, h1, h2, h3, h4⟩

section
variable {H : Type} {enc : TypeId × Value → H} {P : Program} {w : World}
theorem wf64 {n : Int} (h : (Lit.int .i64 n).wf = true) : Cell64 n := by
  unfold Cell64
  simpa [Lit.wf, IntKind.min, IntKind.max, IntKind.signed, IntKind.bits] using h
/-- a row of numbers that is read -/
theorem open_nums {t e : TypeId} {fuel : Nat} {v : Value} {x : DataW H × List MemPlace} (ht : P.underlying t = some (.slice e)) (he : P.underlying e = some (.int .i64)) (hc : P.cellsOf e = 1)
    (h : DataW.trod enc P w 0 (fun _ => true) true fuel t [v] = some x) :
    ∃ cs : List Int, ((v = .slice none 0 0 ∧ cs = []) ∨ ∃ ad c, v = .slice (some ad) cs.length c ∧ cs.length ≤ c ∧ c ≤ 9223372036854775807 ∧ ∀ j, j < cs.length → w.cell? (ad.add j) = some (.int .i64 (cs.getD j 0))) ∧ ∀ n ∈ cs, Cell64 n := by
  rcases open_ints ht he hc h with ⟨hcs, _⟩ | ⟨a, len, cap, zs, hcs, _, hl, hm, hz, _, hcell, hwf⟩
  · injection hcs with e1 _
    exact ⟨[], .inl ⟨e1, rfl⟩, by simp⟩
  · injection hcs with e1 _
    subst e1
    simp only [if_true] at hz
    have htl : (zs.take len).length = len := by rw [List.length_take]; omega
    refine ⟨zs.take len, .inr ⟨a, cap, by rw [htl], by omega, by unfold maxLen at hm; exact hm, fun j hj => ?_⟩, fun n hn => wf64 (hwf n (List.mem_of_mem_take hn))⟩
    rw [htl] at hj
    rw [hcell j (by omega)]
    simp only [List.getD, List.getElem?_take]
    rw [if_pos hj]
theorem open_cells {t e : TypeId} {v : Value} {d : DataW H} {p : List MemPlace} {b0 : Nat} (ht : P.underlying t = some (.slice e)) (he : P.underlying e = some (.int .i64)) (hc : P.cellsOf e = 1)
    (hv : Value.okWide P w .any b0 t v) (h : DataW.Trod enc P w 0 (fun _ => true) true t v d p) : ∃ cs, ArgCells w v cs ∧ AllCells cs := by
  obtain ⟨a0, len, cap, rfl⟩ := okWide_slice ht hv
  obtain ⟨fuel, hf⟩ := h
  exact open_nums ht he hc hf

theorem open_nodes {t e : TypeId} {f0 f1 f2 : Field} {q : TypeId} {v : Value} {d : DataW H} {p : List MemPlace} {b0 : Nat} (ht : P.underlying t = some (.slice e)) (he : P.underlying e = some (.struct #[f0, f1, f2])) (ce : P.cellsOf e = 3)
    (o0 : f0.offset = 0) (o1 : f1.offset = 1) (o2 : f2.offset = 2) (c0 : P.cellsOf f0.type = 1) (c1 : P.cellsOf f1.type = 1) (c2 : P.cellsOf f2.type = 1) (u0 : P.underlying f0.type = some (.int .i64)) (u1 : P.underlying f1.type = some (.int .i64)) (u2 : P.underlying f2.type = some (.slice q)) (uq : P.underlying q = some (.int .i64)) (cq : P.cellsOf q = 1)
    (hv : Value.okWide P w .any b0 t v) (h : DataW.Trod enc P w 0 (fun _ => true) true t v d p) : ∃ l, ArgNodes w v l ∧ l.length ≤ 9223372036854775807 ∧ (∀ x ∈ l, x.kids.length ≤ 9223372036854775807) ∧ ∀ x ∈ l, Cell64 x.n := by
  obtain ⟨a0, len, cap, rfl⟩ := okWide_slice ht hv
  obtain ⟨fuel, hf⟩ := h
  rcases Go.Deep.open_slice ht hf with ⟨hcs, _⟩ | ⟨a, len', cap', m, n, D, Pl, hcs, _, hl, hm, hmm, _, hx⟩
  · have hcs' : [Value.slice a0 len cap] = [.slice none 0 0] := hcs
    injection hcs' with e1 _
    exact ⟨[], ⟨none, 0, e1, fun i hi => by simp at hi⟩, by simp, by simp, by simp⟩
  · have hcs' : [Value.slice a0 len cap] = [.slice (some a) len' cap'] := hcs
    injection hcs' with e1 _
    injection e1 with e2 e3 e4
    subst e2 e3 e4
    simp only [if_true] at hmm
    subst hmm
    have each : ∀ i, i < len → ∃ z : NodeV × Value, (∃ g off, a = ⟨g, off, none⟩ ∧ w.cell? ⟨g, off + i * 3, none⟩ = some (.int .i64 z.1.kind) ∧ w.cell? ⟨g, off + i * 3 + 1, none⟩ = some (.int .i64 z.1.n) ∧ w.cell? ⟨g, off + i * 3 + 2, none⟩ = some z.2) ∧
        KidsAt w z.2 z.1.kids ∧ (∃ a c, z.2 = .slice a z.1.kids.length c ∧ z.1.kids.length ≤ c ∧ c ≤ 9223372036854775807) ∧ Cell64 z.1.n := by
      intro i hi
      obtain ⟨cs', h1, h2⟩ := hx i (by omega)
      rw [ce] at h1
      obtain ⟨_, hlen, hcell⟩ := World.cells?_some h1
      obtain ⟨xs, k, _, _, _, hxl, hfl⟩ := DataW.trod_struct he h2
      match xs, hxl, cs', hlen with
      | [y0, y1, y2], _, [v0, v1, v2], _ =>
        have g0 := hfl 0 f0 rfl
        have g1 := hfl 1 f1 rfl
        have g2 := hfl 2 f2 rfl
        simp [o0, o1, o2, c0, c1, c2] at g0 g1 g2
        obtain ⟨kind, hk, _, _⟩ := DataW.trod_int u0 g0
        obtain ⟨num, hn, _, hnw⟩ := DataW.trod_int u1 g1
        injection hk with hk _
        injection hn with hn _
        subst hk hn
        obtain ⟨ks, hks, _⟩ := open_nums u2 uq cq g2
        have z0 := hcell 0 (by omega)
        have z1 := hcell 1 (by omega)
        have z2 := hcell 2 (by omega)
        rw [Go.Deep.add_add] at z0 z1 z2
        obtain ⟨g, off, spot⟩ := a
        have hsp : spot = none := by
          obtain ⟨cs0, h10, _⟩ := hx 0 (by omega)
          rw [ce] at h10
          obtain ⟨_, hlen0, hcell0⟩ := World.cells?_some h10
          have z00 := hcell0 0 (by omega)
          rw [List.getElem?_eq_getElem (by omega)] at z00
          simpa [Addr.add] using World.cell?_spot z00
        subst hsp
        rw [add_off] at z0 z1 z2
        refine ⟨(⟨kind, num, ks⟩, v2), ⟨g, off, rfl, by simpa using z0, by simpa [Nat.add_assoc] using z1, by simpa [Nat.add_assoc] using z2⟩, ?_, ?_, wf64 hnw⟩
        · rcases hks with ⟨rfl, rfl⟩ | ⟨ad, c, rfl, h3, h4, h5⟩
          · exact .inl ⟨_, _, rfl, rfl⟩
          · cases hz : ks with
            | nil => exact .inl ⟨_, _, rfl, rfl⟩
            | cons x r =>
              rw [← hz]
              obtain ⟨gk, ok, spot⟩ := ad
              have hp := h5 0 (by rw [hz]; simp)
              have hsp : spot = none := by
                have := World.cell?_spot hp
                simpa [Addr.add] using this
              subst hsp
              exact .inr ⟨gk, ok, c, rfl, fun j hj => by rw [← add_off]; exact h5 j hj⟩
        · rcases hks with ⟨rfl, rfl⟩ | ⟨ad, c, rfl, h3, h4, h5⟩
          · exact ⟨none, 0, rfl, Nat.le_refl _, by decide⟩
          · exact ⟨_, c, rfl, h3, h4⟩
    obtain ⟨z, hz⟩ := Go.Deep.choose_lt (α := NodeV × Value) each
    have hgl : ((List.range len).map fun i => (z i).1).length = len := by simp
    have hmem : ∀ x ∈ (List.range len).map (fun i => (z i).1), ∃ i, i < len ∧ x = (z i).1 := fun x hx => by
      obtain ⟨i, hi, rfl⟩ := List.mem_map.1 hx
      exact ⟨i, List.mem_range.1 hi, rfl⟩
    refine ⟨(List.range len).map fun i => (z i).1, ⟨some a, m, by rw [hgl], fun i hi => ?_⟩, by rw [hgl]; unfold maxLen at hm; omega, fun x hx => ?_, fun x hx => ?_⟩
    · rw [hgl] at hi
      have e : ((List.range len).map fun i => (z i).1).getD i NodeV.none = (z i).1 := by simp [List.getD, hi]
      rw [e]
      obtain ⟨⟨g, off, h1, h2, h3, h4⟩, h5, h6, _⟩ := hz i hi
      exact ⟨g, off, (z i).2, by rw [h1], h2, h3, h4, h5, h6⟩
    · obtain ⟨i, hi, rfl⟩ := hmem x hx
      obtain ⟨_, _, ⟨_, c, _, h1, h2⟩, _⟩ := hz i hi
      omega
    · obtain ⟨i, hi, rfl⟩ := hmem x hx
      exact (hz i hi).2.2.2
end
end Go.Proofs.YtnhhflnanogpjaaGreatDoor

/- What every law's row asks behind its walk: the call returned true, and below the heap's size nothing has turned. Arguments that are slices of strings. -/
namespace Go.Proofs.YtnhhflnanogpjaaGreatDoor
open Go.ChangeShapes Go.WideShapes Go.ChangeAt Go.RowKit

theorem law_trod {H : Type} {enc : TypeId × Value → H} {P : Program} (hl : laidOutB P = true) {W W' : World} (hb : Below W.heap.size W W') : ∀ (ts : List TypeId) (vs : List Value) (ds : List (DataW H)) (ps : List MemPlace),
    (∀ t ∈ ts, P.readableRec t = true ∧ t < P.types.size) → DataW.TrodAll enc P W 0 (fun _ => true) true ts vs ds ps → (∀ x ∈ ps, x.block < W.heap.size) →
    DataW.TrodAll enc P W' 0 (fun b => decide (b < W.heap.size)) true ts vs ds ps
  | [], vs, ds, ps, _, h, _ => by
    obtain ⟨rfl, rfl, rfl⟩ := trodAll_nil h
    exact trodAll_mk0
  | t :: ts, vs, ds, ps, ht, h, hlt => by
    obtain ⟨v, vs', d, ds', p, q, rfl, rfl, rfl, h1, h2⟩ := trodAll_cons h
    refine ⟨p, q, Below.trod hl (ht t (by simp)).1 (ht t (by simp)).2 h1 hb fun x hx => hlt x (by simp [hx]), ?_, rfl⟩
    exact law_trod hl hb ts vs' ds' q (fun t' h' => ht t' (by simp [h'])) h2 fun x hx => hlt x (by simp [hx])

theorem law_post {H : Type} {enc : TypeId × Value → H} {P : Program} {f : Func} {s : ChangeSpec} {W W' : World} {args : Array Value} {ds gs : List (DataW H)} {before : List MemPlace} {tb : TypeId}
    (hl : laidOutB P = true) (hts : ∀ t ∈ f.params.toList, P.readableRec t = true ∧ t < P.types.size) (hv : s.vars = []) (hrt : f.resultTypes = #[tb]) (htb : P.underlying tb = some .bool)
    (hW : DataW.Whole enc P f.params.toList s.vars false W args.toList ds gs before) (hfn : ∀ l, l = ds → s.fn H (l ++ []) = { results := [.lit (.bool true)], args := l }) (hb : Below W.heap.size W W') :
    s.post enc P f false true false false W args (.bool true) W' := by
  have hW' := hW
  obtain ⟨p, q, hA, hV, rfl, _, _⟩ := hW
  rw [hv] at hV
  obtain ⟨rfl, rfl⟩ : gs = [] ∧ q = [] := by
    cases gs with
    | nil => exact ⟨rfl, hV⟩
    | cons x r => cases hV
  have hlt : ∀ x ∈ p, x.block < W.heap.size := fun x hx => hW'.lt x (by simp [hx])
  have e := hfn ds rfl
  refine ⟨ds, [], _, [] ++ [], p, [], hW', ?_, ?_, ?_, hb.frame _, fun h => by cases h⟩
  · rw [e, hrt]; exact trodAll_mk1 (shut_bool htb true)
  · rw [e]; exact law_trod hl hb _ _ _ _ hts hA hlt
  · rw [e, hv]; rfl

/-- a slice of strings, nil let in: n texts -/
structure Strs (w : World) (v : Value) (ss : List ByteArray) : Prop where
  form : (v = .slice none 0 0 ∧ ss = []) ∨ (∃ a cap, v = .slice (some a) 0 cap ∧ cap ≤ 140737488355328 ∧ ss = []) ∨ ∃ b off cap, v = .slice (some ⟨b, off, none⟩) ss.length cap ∧ b < w.heap.size ∧ ss.length ≤ cap ∧ cap ≤ 140737488355328 ∧ ∀ i, i < ss.length → w.cell? ⟨b, off + i, none⟩ = some (.string (ss.getD i .empty))
  size : ∀ s, s ∈ ss → s.size ≤ maxLen

theorem open_strs {H : Type} {enc : TypeId × Value → H} {P : Program} {w : World} {t e : TypeId} {v : Value} {d : DataW H} {p : List MemPlace} {b0 : Nat} (ht : P.underlying t = some (.slice e)) (he : P.underlying e = some .string) (hc : P.cellsOf e = 1)
    (hv : Value.okWide P w .any b0 t v) (h : DataW.Trod enc P w 0 (fun _ => true) true t v d p) (hlt : ∀ x ∈ p, x.block < w.heap.size)
    (hsz : ∀ elems spare, d = .slice elems spare → elems.length + spare.length ≤ 140737488355328) : ∃ ss, Strs w v ss := by
  obtain ⟨a0, len, cap, rfl⟩ := okWide_slice ht hv
  obtain ⟨fuel, hf⟩ := h
  rcases open_strings ht he hc hf with ⟨hcs, hx⟩ | ⟨a, len', cap', ss, hcs, _, hl, hm, hz, hx, hcell, hws⟩
  · simp [Value.cells] at hcs
    obtain ⟨rfl, rfl, rfl⟩ := hcs
    exact ⟨[], .inl ⟨rfl, rfl⟩, by simp⟩
  · simp [Value.cells] at hcs
    obtain ⟨rfl, rfl, rfl⟩ := hcs
    simp only [Prod.mk.injEq] at hx
    obtain ⟨rfl, rfl⟩ := hx
    simp only [if_true] at hz
    have hcap := hsz _ _ rfl
    simp only [strs, List.length_map, List.length_take, List.length_drop] at hcap
    refine ⟨ss.take len, ?_, fun s hs => hws s (List.mem_of_mem_take hs)⟩
    by_cases h0 : len = 0
    · subst h0
      exact .inr (.inl ⟨a, cap, rfl, by omega, by simp⟩)
    · obtain ⟨b, off, spot⟩ := a
      have hspot : spot = none := by simpa [Addr.add] using World.cell?_spot (hcell 0 (by omega))
      subst hspot
      have hlen : (ss.take len).length = len := by rw [List.length_take]; omega
      rw [hlen]
      refine .inr (.inr ⟨b, off, cap, rfl, hlt (.cell b off) (MemPlace.mem_row.2 ⟨0, by omega, by simp⟩), hl, by omega, fun i hi => ?_⟩)
      have hc := hcell i (by omega)
      rw [add_plain] at hc
      rw [hc]
      have e : (ss.take len).getD i .empty = ss.getD i .empty := by simp [List.getD, hi]
      rw [e]

end Go.Proofs.YtnhhflnanogpjaaGreatDoor

/- Closed facts of the program that every row's proof asks. -/
namespace Go.Proofs.YtnhhflnanogpjaaGreatDoor
theorem laidOut : laidOutB Tryz.prog = true := by kernel_rfl
theorem cellsStr : Tryz.prog.cellsOf 9 = 1 := by kernel_rfl
theorem bytesStr : Tryz.prog.bytesOf 9 = 16 := by kernel_rfl
end Go.Proofs.YtnhhflnanogpjaaGreatDoor

/- What the rows of the Tree door list: five tables; a world for the witness. -/
namespace Go.Proofs.YtnhhflnanogpjaaGreatDoor
open Go.ChangeShapes Go.WideShapes Go.ChangeAt Go.RowKit

theorem own : ownKnob Tryz.prog.godebug = none := by kernel_rfl
theorem gPowT : Tryz.prog.globalNamed "internal/strconv.uint64pow10" = some 0 := by kernel_rfl
theorem tPowT : (Tryz.prog.globals[0]?).map (·.type) = some 138 := by kernel_rfl
theorem cPowT : Tryz.prog.cellsOf 138 = 20 := by kernel_rfl
theorem cU64T : Tryz.prog.cellsOf 124 = 1 := by kernel_rfl

theorem laid_tail {P : Program} {x : String × DataW Unit} {l : List (String × DataW Unit)} {w : World} (h : laidMet P (x :: l) w) : laidMet P l w := by
  obtain ⟨n, d⟩ := x
  obtain ⟨ps, ⟨g, t, cs, fuel, p, q, e1, e2, e3, e4, hr, rfl⟩, hnd, hrows⟩ := h
  exact ⟨q, hr, (List.nodup_append.1 hnd).2.1, fun b off hp => hrows b off (List.mem_append_right _ hp)⟩

theorem pow_of {W : World} {rest : List (String × DataW Unit)} (h : laidMet Tryz.prog (("internal/strconv.uint64pow10", Rows.laid_internal_strconv_uint64pow10) :: rest) W) : PowTab W :=
  Lib.tabIs_of_head gPowT tPowT (n := 20) (e := 124) (by kernel_rfl) (by kernel_rfl) cU64T cPowT h
theorem max_is {W : World} (h : W.ShapedOpen Tryz.prog) : MaxIs W :=
  Go.Proofs.cell_of_shapedOpen_int (zero := #[.int .i64 0]) (t := 3) h (of_decide_eq_true (by kernel_rfl)) (by kernel_rfl) rfl (by kernel_rfl) (by kernel_rfl) Tryz.underlying3

def lit0 : DataW Unit → List Value
  | .lit (.int k n) => [.int k n]
  | _ => []
def lit1 : DataW Unit → List Value
  | .agg xs => xs.flatMap lit0
  | _ => []
def lit2 : DataW Unit → List Value
  | .agg xs => xs.flatMap lit1
  | _ => []
def putCells (vs : Array Value) : Obj → Obj
  | .cells _ t frozen => .cells vs t frozen
  | o => o
/-- A WORLD FOR THE WITNESS: the settled one, the tables holding what their initialisers lay. -/
noncomputable def laidWorld (os : Os) : World :=
  { World.holding Tryz.prog os ⟨#[], #[], []⟩ with heap := (((((World.holding Tryz.prog os ⟨#[], #[], []⟩).heap.modify 2 (putCells (lit1 Rows.laid_math_bits_deBruijn32tab).toArray)).modify 3 (putCells (lit1 Rows.laid_math_bits_deBruijn64tab).toArray)).modify 0 (putCells (lit1 Rows.laid_internal_strconv_uint64pow10).toArray)).modify 5 (putCells (lit2 Rows.laid_unicode_utf8_acceptRanges).toArray)).modify 4 (putCells (lit1 Rows.laid_unicode_utf8_first).toArray) }
end Go.Proofs.YtnhhflnanogpjaaGreatDoor

/- TreeFuel: its card, from its walk. -/
namespace Go.Proofs.YtnhhflnanogpjaaGreatDoor
open Go.ChangeShapes Go.WideShapes Go.ChangeAt Go.RowKit
open Go.ChangeMaps (open_string shut_string)

set_option maxRecDepth 100000 in
theorem treeFuel_contract (H : Type) (enc : TypeId × Value → H) (W : World) (base : Nat) (args : Array Value) (ds gs : List (DataW H)) (before : List MemPlace)
    (hval : ∀ (j : Nat) t v, Tryz.f3.params[j]? = some t → args[j]? = some v → Value.okWide Tryz.prog W .any base t v)
    (hW : DataW.Whole enc Tryz.prog Tryz.f3.params.toList Rows.treeFuelSpec.vars false W args.toList ds gs before) (hL : laidMetH Tryz.prog Rows.treeFuelRow.laid W) (hS : W.ShapedOpen Tryz.prog) :
    Calls Tryz.prog 3 args W fun e W' => ∃ v, e = .returned v ∧ Rows.treeFuelSpec.post enc Tryz.prog Tryz.f3 false true false false W args v W' := by
  have hW' := hW
  have hP := pow_of (laid_tail (laid_tail hL))
  have hM := max_is hS
  obtain ⟨p, q, hA0, hV, rfl, _, _⟩ := hW
  have hA : DataW.TrodAll enc Tryz.prog W 0 (fun _ => true) true Tryz.f3.params.toList args.toList ds p := hA0
  rw [Tryz.params3] at hA hval
  obtain ⟨v0, v1, v2, v3, v4, d0, d1, d2, d3, d4, p0, p1, p2, p3, p4, rfl, rfl, rfl, h0, h1, h2, h3, h4⟩ := trodAll_five hA
  obtain ⟨l, hN, hl, hk, hn⟩ := open_nodes Tryz.underlying22 Tryz.underlying37 (by kernel_rfl) rfl rfl rfl (by kernel_rfl) (by kernel_rfl) (by kernel_rfl) Tryz.underlying3 Tryz.underlying34 Tryz.underlying35 Tryz.underlying3 (by kernel_rfl) (hval 0 22 v0 rfl rfl) h0
  obtain ⟨x1, rfl, rfl, rfl, wx1⟩ := open_int Tryz.underlying3 (hval 1 3 v1 rfl rfl) h1
  obtain ⟨cs, hC, hcs⟩ := open_cells Tryz.underlying23 Tryz.underlying34 (by kernel_rfl) (hval 2 23 v2 rfl rfl) h2
  obtain ⟨x3, rfl, rfl, rfl, wx3⟩ := open_int Tryz.underlying24 (hval 3 24 v3 rfl rfl) h3
  have bx3 : 0 ≤ x3 ∧ x3 ≤ 65535 := by simpa [Lit.wf, IntKind.min, IntKind.max, IntKind.signed, IntKind.bits] using wx3
  obtain ⟨x4, rfl, rfl, rfl, wx4⟩ := open_int Tryz.underlying24 (hval 4 24 v4 rfl rfl) h4
  have bx4 : 0 ≤ x4 ∧ x4 ≤ 65535 := by simpa [Lit.wf, IntKind.min, IntKind.max, IntKind.signed, IntKind.bits] using wx4
  refine (TreeFuel_walk l v0 x1 cs v2 x3 x4 hl hk hn hcs bx3 bx4 W hN hC ⟨hP, hM⟩).mono fun e W' ⟨he, hb⟩ => ?_
  subst he
  exact ⟨_, rfl, law_post laidOut (by rw [Tryz.params3]; exact of_decide_eq_true (by kernel_rfl)) rfl rfl Tryz.underlying4 hW' (fun l hl => by subst hl; rfl) (hb.below (Nat.le_refl _) (by simp))⟩

theorem treeFuel_laid_met (os : Os) : laidMet Tryz.prog Rows.treeFuelRow.laid ((laidWorld os).forCall (fun _ _ => 0) ⟨#[], #[.slice none 0 0, .int .i64 0, .slice none 0 0, .int .u16 0, .int .u16 0], []⟩).memory :=
  laidMet_of_run' 8 (by kernel_rfl) (by kernel_rfl)
theorem treeFuel_reads (os : Os) {H : Type} (enc : TypeId × Value → H) : ∃ places, DataW.whole enc Tryz.prog ((laidWorld os).forCall (fun _ _ => 0) ⟨#[], #[.slice none 0 0, .int .i64 0, .slice none 0 0, .int .u16 0, .int .u16 0], []⟩).memory Tryz.f3.params.toList Rows.treeFuelSpec.vars false (#[.slice none 0 0, .int .i64 0, .slice none 0 0, .int .u16 0, .int .u16 0] : Array Value).toList 8 = some ([.nil, .lit (.int .i64 0), .nil, .lit (.int .u16 0), .lit (.int .u16 0)], [], places) :=
  ⟨[], by kernel_rfl⟩

set_option maxRecDepth 100000 in
theorem treeFuel_lifted (os : Os) (started : os.Started) (H : Type) (enc : TypeId × Value → H) (F : Stop.Interp) :
    ReturnsInHanded {} Tryz.checked os 3 .any ((OpenSpec.ofChange Rows.treeFuelSpec).preRow enc Tryz.prog Tryz.f3 Rows.treeFuelRow.domain false Rows.treeFuelRow.laid) (((OpenSpec.ofChange Rows.treeFuelSpec).at F).post enc Tryz.prog Tryz.f3 false true false false) := by
  obtain ⟨places, hx⟩ := treeFuel_reads os enc
  refine returnsInHanded_of_row (C := Tryz.checked) (s := OpenSpec.ofChange Rows.treeFuelSpec) own started (by kernel_rfl) Tryz.func3
    (witness_row_at (enc := enc) (C := Tryz.checked) false (laidWorld os) #[.slice none 0 0, .int .i64 0, .slice none 0 0, .int .u16 0, .int .u16 0] rfl (by kernel_rfl) (by kernel_rfl) (by kernel_rfl)
      (OpenSpec.preRow_of_cond 8 hx (by kernel_rfl) (fun k hk => by cases hk) (by kernel_rfl) (treeFuel_laid_met os))) ?_
  intro W base args ds gs before hval hW _ _ _ hL hS _
  exact treeFuel_contract H enc W base args ds gs before hval hW hL hS

theorem treeFuel_said : Rows.TreeFuelSaid :=
  OpenClaim.holds_of_cond 3 Tryz.f3 rfl rfl rfl rfl rfl rfl rfl ⟨rfl, rfl, rfl, rfl, rfl⟩ rfl rfl rfl rfl rfl (by kernel_rfl) Tryz.func3 (by kernel_rfl)
    (of_decide_eq_true (by kernel_rfl)) (by unfold Func.isWrapper; first | (rw [if_pos (by decide +kernel)]; kernel_rfl) | (rw [if_neg (by decide +kernel)]; exact ⟨rfl, rfl⟩))
    (fun os started H enc _ F => by rw [OpenClaim.pre_eq_preRow]; exact treeFuel_lifted os started H enc F)

theorem treeFuel_plain (f : FuncId) (fn : Func) (hf : Tryz.pinned.checked.prog.funcNamed "rhyton/rhytonlaw20.TreeFuel" = some f) (hfn : Tryz.pinned.checked.prog.funcs[f]? = some fn) :
    true = Tryz.pinned.checked.prog.looks [] ∧ ∀ (j : Nat) t, fn.params[j]? = some t → Tryz.pinned.checked.prog.wantsStandIn t = false := by
  obtain rfl : f = 3 := Option.some.inj ((show Tryz.prog.funcNamed "rhyton/rhytonlaw20.TreeFuel" = some 3 by kernel_rfl).symm.trans hf) |>.symm
  obtain rfl : fn = Tryz.f3 := (Option.some.inj (Tryz.func3.symm.trans hfn)).symm
  refine ⟨by kernel_rfl, fun j t ht => ?_⟩
  rw [Tryz.params3] at ht
  have hm := Array.mem_of_getElem? ht
  simp only [List.mem_toArray, List.mem_cons, List.not_mem_nil, or_false] at hm
  rcases hm with rfl | rfl | rfl | rfl | rfl
  · exact (show Tryz.prog.wantsStandIn 22 = false by kernel_rfl)
  · exact (show Tryz.prog.wantsStandIn 3 = false by kernel_rfl)
  · exact (show Tryz.prog.wantsStandIn 23 = false by kernel_rfl)
  · exact (show Tryz.prog.wantsStandIn 24 = false by kernel_rfl)
  · exact (show Tryz.prog.wantsStandIn 24 = false by kernel_rfl)

theorem TreeFuel_card : Rows.TreeFuelCardSaid :=
  Claim7.holds_tied_plain_at .later [] _ _ _ _ treeFuel_said (fun _ h => by cases h) (by kernel_rfl) (fun _ h => by cases h) treeFuel_row_tie rfl ⟨rfl, rfl⟩ (by kernel_rfl) rfl treeFuel_plain (by kernel_rfl)

#print axioms TreeFuel_card
end Go.Proofs.YtnhhflnanogpjaaGreatDoor
