/- recog's closure for locals: the last local of a name. -/
import Derived.Test.YtgdmiodcfdcihaaGreatDoorBack
import Derived.Test.YtgdmiodcfdcihaaGreatDoorFold
import Derived.Stop.RegionWithIn
namespace Go.Proofs.YtgdmiodcfdcihaaGreatDoor
open Go.RowKit Go.Shelf

attribute [local go_sem] Oper.semAt_some

theorem Blk.own {A B : World} {row : Option Nat} {g : Nat} {t : TypeId} {cs : Array Value} (h : Blk A g t cs) (hg : A.grownBy B row) (hr : ∀ r, row = some r → ∃ o : Obj, A.heap[r]? = some o ∧ o.isCells = false) : Blk B g t cs :=
  h.grown hg fun e => by
    obtain ⟨o, ho, hc⟩ := hr g e.symm
    unfold Blk at h
    rw [h] at ho
    cases ho
    simp [Obj.isCells] at hc

theorem wideIn {n : Nat} {P : Program} {f : FuncId} {args : Array Value} {w : World} {R : Ending → World → Prop} (h : Calls P f args w R) : CallsIn Fence.wide n P f args w R := callsIn_wide.2 h
theorem wideRound {n : Nat} {P : Program} {f : FuncId} {args : Array Value} {w : World} {R : Ending → World → Prop} (l : Nat) (h : Calls P f args w R) : CallsIn (Fence.wide.inRound l) n P f args w R := CallsIn.inRound l (wideIn h)

theorem Touch.keeps {W W' : World} (h : Touch [] W W') (B : Nat) : KeepsFrom B W W' :=
  ⟨h.size, fun k o _ hk _ => (h.block k (Array.getElem?_eq_some_iff.1 hk).1 (by simp)).trans hk⟩
theorem Blk.five {w : World} {g : Nat} {t : TypeId} {a b c d e : Value} (h : Blk w g t #[a, b, c, d, e]) (x y z u v : Value) :
    Blk (((((w.setCell ⟨g, 0, none⟩ x).setCell ⟨g, 1, none⟩ y).setCell ⟨g, 2, none⟩ z).setCell ⟨g, 3, none⟩ u).setCell ⟨g, 4, none⟩ v) g t #[x, y, z, u, v] :=
  ((((h.set_ 0 x).set_ 1 y).set_ 2 z).set_ 3 u).set_ 4 v
theorem five_far {w : World} {g k : Nat} {t : TypeId} {cs : Array Value} (h : Blk w g t cs) (hk : g ≠ k) (x y z u v : Value) :
    Blk (((((w.setCell ⟨k, 0, none⟩ x).setCell ⟨k, 1, none⟩ y).setCell ⟨k, 2, none⟩ z).setCell ⟨k, 3, none⟩ u).setCell ⟨k, 4, none⟩ v) g t cs :=
  ((((h.far hk x).far hk y).far hk z).far hk u).far hk v
theorem five_touch {a w : World} {F : List Nat} {g : Nat} (h : Touch F a w) (hg : g ∈ F ∨ a.heap.size ≤ g) (x y z u v : Value) :
    Touch F a (((((w.setCell ⟨g, 0, none⟩ x).setCell ⟨g, 1, none⟩ y).setCell ⟨g, 2, none⟩ z).setCell ⟨g, 3, none⟩ u).setCell ⟨g, 4, none⟩ v) :=
  ((((h.setCell hg x).setCell hg y).setCell hg z).setCell hg u).setCell hg v

theorem five_keeps (w : World) (g : Nat) (x y z u v : Value) :
    KeepsOthers w (((((w.setCell ⟨g, 0, none⟩ x).setCell ⟨g, 1, none⟩ y).setCell ⟨g, 2, none⟩ z).setCell ⟨g, 3, none⟩ u).setCell ⟨g, 4, none⟩ v) :=
  ((((KeepsOthers.setCell _ _ _).trans (KeepsOthers.setCell _ _ _)).trans (KeepsOthers.setCell _ _ _)).trans (KeepsOthers.setCell _ _ _)).trans (KeepsOthers.setCell _ _ _)

/-- the last of the first k whose name, made small, is f -/
def lastF (zs : List Small) (f : ByteArray) : Nat → Option Nat
  | 0 => none
  | k + 1 => if foldB (zs.getD k Small.nil).1 = f then some k else lastF zs f k
theorem lastF_skip (zs : List Small) (f : ByteArray) (k : Nat) (hk : k ≤ zs.length) (h : ∀ p ∈ upto (behind zs) k, foldB p.2.1 ≠ f) : lastF zs f zs.length = lastF zs f (zs.length - k) := by
  induction k with
  | zero => rfl
  | succ k ih =>
    rw [upto_succ] at h
    rw [ih (by omega) (fun p hp => h p (List.mem_append_left _ hp))]
    have h1 := h (behind zs k) (by simp)
    obtain ⟨m, hm⟩ : ∃ m, zs.length - k = m + 1 := ⟨zs.length - k - 1, by omega⟩
    rw [hm, show zs.length - (k + 1) = m by omega, lastF, if_neg]
    simpa [behind, show zs.length - 1 - k = m by omega] using h1

/-- what a recognizer tells -/
structure KnownV where
  kind : Int
  xt : Int
  now : Bool
  a : Int
  b : Int
def KnownV.v (k : KnownV) : Value := .agg #[.int .i64 k.kind, .int .i64 k.xt, .bool k.now, .int .i64 k.a, .int .i64 k.b]
def KnownV.none : KnownV := ⟨0, 0, false, 0, 0⟩
def localK (o : Option Nat) : KnownV := match o with
  | some i => ⟨4, 0, false, i, 0⟩
  | .none => KnownV.none

set_option maxRecDepth 100000 in
set_option maxHeartbeats 3200000 in
theorem Local_any (s : ByteArray) (hs : s.size ≤ 100000) (zs : List Small) (hz : zs.length ≤ 1000) (sv : Value) (bS bL : Nat) (w : World) (cS : w.cell? ⟨bS, 0, none⟩ = some (.string s)) (cL : w.cell? ⟨bL, 0, none⟩ = some sv) (hS : bS < w.heap.size) (hL : bL < w.heap.size)
    (hT : Texts w.heap.size w sv zs) :
    Calls Tryz.prog 40 #[.pointer (some ⟨bS, 0, none⟩), .pointer (some ⟨bL, 0, none⟩)] w fun e w' =>
      e = .returned (.tuple #[(localK (lastF zs (foldB s) zs.length)).v, .bool (lastF zs (foldB s) zs.length).isSome]) ∧ Touch [] w w' := by
  suffices h : CallsIn Fence.wide 10 Tryz.prog 40 #[.pointer (some ⟨bS, 0, none⟩), .pointer (some ⟨bL, 0, none⟩)] w fun e w' =>
      e = .returned (.tuple #[(localK (lastF zs (foldB s) zs.length)).v, .bool (lastF zs (foldB s) zs.length).isSome]) ∧ Below w.heap.size w w' from
    (callsIn_wide.1 h).mono fun _ _ h => ⟨h.1, Touch.of_below h.2 _⟩
  have hfold := fun w => wideIn (n := 9) (Fold_any s hs w)
  have hfoldI := fun (x : Small) l w => wideRound (n := 7) l (Fold_any x.1 x.2 w)
  obtain ⟨f, hf⟩ : ∃ f, foldB s = f := ⟨_, rfl⟩
  rw [hf] at hfold ⊢
  obtain ⟨R, hR⟩ : ∃ R, lastF zs f zs.length = R := ⟨_, rfl⟩
  rw [hR]
  clear hf
  obtain ⟨a0, cap0, rfl, hTT⟩ := hT
  refine callsIn_of_wp_marks Tryz.func40 rfl trivial ?_ rfl
  simp only [Tryz.ntmps40, List.size_toArray, List.length_cons, List.length_nil, Nat.reduceAdd, Nat.reduceSub, Array.replicate_succ, Array.replicate_zero, List.push_toArray, List.append_toArray, List.nil_append, List.cons_append]
  gi_wp2_with fail
  refine ⟨trivial, (hfold _).mono ?_⟩
  rintro _ w1 ⟨rfl, t1⟩
  have e0 : ((w.alloc (.cells #[.int .i64 0, .int .i64 0, .bool false, .int .i64 0, .int .i64 0] 27)).alloc (.cells #[.bool false] 4)).heap.size = w.heap.size + 2 := by simp
  have bK : Blk w1 w.heap.size 27 #[.int .i64 0, .int .i64 0, .bool false, .int .i64 0, .int .i64 0] := ((Blk.new w _ _).alloc _).touch t1 (by simp)
  have bB : Blk w1 (w.heap.size + 1) 4 #[.bool false] := (Blk.new_at _ (by simp) _ _).touch t1 (by simp)
  have tw : Touch [] w w1 := (((Touch.refl [] w).alloc _).alloc _).trans t1 (by simp)
  have hs1 : w.heap.size + 2 ≤ w1.heap.size := by have := t1.size; omega
  have cL1 := (tw.cell (p := ⟨bL, 0, none⟩) hL (by simp)).trans cL
  have hL1 : bL < w1.heap.size := by omega
  clear t1 e0 hfold
  gi_wp2_with fail
  refine ⟨trivial, (back_in Fence.wide 9 trivial rfl (.slice a0 zs.length cap0) _ rfl ⟨_, _, _, rfl⟩).mono ?_⟩
  rintro _ _ ⟨rfl, rfl⟩
  have hsN : (w1.alloc (.cells #[.string f] 9)).heap.size = w1.heap.size + 1 := by simp
  rw [hsN]
  have bF : Blk ((w1.alloc (.cells #[.string f] 9)).alloc (.cells #[.slice a0 zs.length cap0] 34)) w1.heap.size 9 #[.string f] := (Blk.new w1 _ _).alloc _
  have bN : Blk ((w1.alloc (.cells #[.string f] 9)).alloc (.cells #[.slice a0 zs.length cap0] 34)) (w1.heap.size + 1) 34 #[.slice a0 zs.length cap0] := Blk.new_at _ hsN _ _
  have bK := (bK.alloc (.cells #[.string f] 9)).alloc (.cells #[.slice a0 zs.length cap0] 34)
  have bB := (bB.alloc (.cells #[.string f] 9)).alloc (.cells #[.slice a0 zs.length cap0] 34)
  have tw := (tw.alloc (.cells #[.string f] 9)).alloc (.cells #[.slice a0 zs.length cap0] 34)
  have hs0 : ((w1.alloc (.cells #[.string f] 9)).alloc (.cells #[.slice a0 zs.length cap0] 34)).heap.size = w1.heap.size + 2 := by simp
  generalize hW0 : (w1.alloc (.cells #[.string f] 9)).alloc (.cells #[.slice a0 zs.length cap0] 34) = W0 at *
  clear hW0 hsN cL1
  have hB0 : Below w.heap.size w W0 := tw.below (Nat.le_refl _) (by simp)
  have hT0 : Texts w.heap.size W0 (.slice a0 zs.length cap0) zs := (show Texts w.heap.size w (.slice a0 zs.length cap0) zs from ⟨a0, cap0, rfl, hTT⟩).below hB0
  gi_wp2_with fail
  have hT1 : Texts W0.heap.size W0 (.slice a0 zs.length cap0) zs := by
    obtain ⟨a, cap, e, h⟩ := hT0
    exact ⟨a, cap, e, h.imp id fun ⟨b, off, ha, hb, hc⟩ => ⟨b, off, ha, by omega, hc⟩⟩
  have hK0 := bK.lt
  have g0 := fun W (h : Blk W w.heap.size 27 #[.int .i64 0, .int .i64 0, .bool false, .int .i64 0, .int .i64 0]) => h.cell 0
  refine wpIn_rangeFunc_ownG (F := Fence.wide) rfl (by omega) (gf := 58) (lb := #[.pointer (some ⟨w1.heap.size + 1, 0, none⟩)]) rfl trivial (enters_of Tryz.func58 (by kernel_rfl) rfl)
    (back_stops Fence.wide 9 trivial rfl (by omega) (w1.heap.size + 1) W0.heap.size _ zs (by omega) W0 (by omega) (Nat.le_refl _) (bN.cell 0) hT1) belowK_t (belowK_b (Nat.le_refl _)) (Below.refl _ _) (fun _ => rfl)
    (fun pre W => ((∀ p ∈ pre, foldB p.2.1 ≠ f) ∧ Blk W w.heap.size 27 #[.int .i64 0, .int .i64 0, .bool false, .int .i64 0, .int .i64 0] ∧ Blk W (w.heap.size + 1) 4 #[.bool false] ∧ Blk W w1.heap.size 9 #[.string f] ∧ Blk W (w1.heap.size + 1) 34 #[.slice a0 zs.length cap0]) ∧ Below w.heap.size w W)
    (fun c pre W => (c = .ret ∧ ∃ ini last, pre = ini ++ [last] ∧ (∀ p ∈ ini, foldB p.2.1 ≠ f) ∧ foldB last.2.1 = f ∧ Blk W w.heap.size 27 #[.int .i64 4, .int .i64 0, .bool false, .int .i64 (last.1 : Int), .int .i64 0] ∧ Blk W (w.heap.size + 1) 4 #[.bool true]) ∧ Below w.heap.size w W)
    (OwnFrom.and (Own.from (fun s A B row hs hg hr => ⟨hs.1, hs.2.1.own hg hr, hs.2.2.1.own hg hr, hs.2.2.2.1.own hg hr, hs.2.2.2.2.own hg hr⟩) _) (ownFrom_below (Nat.le_refl _) (by omega)))
    (fun c => OwnFrom.and (Own.from (fun s A B row hs hg hr => by obtain ⟨hc, ini, last, e1, e2, e3, e4, e5⟩ := hs; exact ⟨hc, ini, last, e1, e2, e3, e4.own hg hr, e5.own hg hr⟩) _) (ownFrom_below (Nat.le_refl _) (by omega)))
    ⟨⟨by simp, bK, bB, bF, bN⟩, hB0⟩
    (fun x => { tmps := #[.pointer (some ⟨bS, 0, none⟩), .pointer (some ⟨bL, 0, none⟩), .pointer (some ⟨w.heap.size, 0, none⟩), .pointer (some ⟨w.heap.size + 1, 0, none⟩), .pointer (some ⟨w1.heap.size, 0, none⟩), .int .i64 (x.1 : Int), .string x.2.1, .string s, .string f, .slice a0 zs.length cap0, .func (.func 58) #[] #[.pointer (some ⟨w1.heap.size + 1, 0, none⟩)], .int .i64 (x.1 : Int), .string x.2.1, undef, undef, undef, undef, undef, undef, undef], defers := [] }) ?assign ?body ?done ?stop
  case assign =>
    intro l x W K hK
    gi_wp2
    exact hK
  case body =>
    rintro l pre x W ⟨⟨hp, cK, cB, cF, cN⟩, hB⟩ _
    have hNl := cN.lt
    have hF0 := cF.cell 0
    by_cases hx : foldB x.2.1 = f
    · have hx' : ((foldB x.2.1).toList == f.toList) = true := by rw [str_beq]; simpa using hx
      gi_wp2_with fail
      gi_region_with (refine ⟨trivial, (hfoldI x.2 l _).mono ?_⟩; rintro _ w5 ⟨rfl, t5⟩; have t5 := t5.of_drew; have cK := cK.touch t5 (by simp); have cB := cB.touch t5 (by simp); have cF := cF.touch t5 (by simp); have hF0 := cF.cell 0; have k0 := cK.cell 0; have k1 := cK.cell 1; have k2 := cK.cell 2; have k3 := cK.cell 3; have k4 := cK.cell 4; have j0 := cK.frozen 0; have j1 := cK.frozen 1; have j2 := cK.frozen 2; have j3 := cK.frozen 3; have j4 := cK.frozen 4; have b0 := cB.cell 0; have b1 := cB.frozen 0)
      all_goals gi_wp2_with fail
      all_goals
        refine ⟨?_, ⟨rfl, pre, x, rfl, hp, hx, (cK.five _ _ _ _ _).far (by simp) _, (five_far cB (by simp) _ _ _ _ _).set_ 0 _⟩, ?_⟩
        · exact (t5.keeps _).trans (((((((KeepsOthers.setCell _ _ _).trans (KeepsOthers.setCell _ _ _)).trans (KeepsOthers.setCell _ _ _)).trans (KeepsOthers.setCell _ _ _)).trans (KeepsOthers.setCell _ _ _)).trans (KeepsOthers.setCell _ _ _)).from _)
        · have u1 : Touch [] w w5 := (Touch.of_below hB []).trans t5 (by simp)
          exact ((five_touch u1 (.inr (Nat.le_refl _)) _ _ _ _ _).setCell (.inr (by simp)) _).below (Nat.le_refl _) (by simp)
    · have hx' : ((foldB x.2.1).toList == f.toList) = false := by rw [str_beq]; simpa using hx
      gi_wp2_with fail
      gi_region_with (refine ⟨trivial, (hfoldI x.2 l _).mono ?_⟩; rintro _ w5 ⟨rfl, t5⟩; have t5 := t5.of_drew; have cK := cK.touch t5 (by simp); have cB := cB.touch t5 (by simp); have cF := cF.touch t5 (by simp); have cN := cN.touch t5 (by simp); have hF0 := cF.cell 0)
      all_goals gi_wp2_with fail
      all_goals
        refine ⟨t5.keeps _, t5.below (by omega) (by simp), ⟨⟨fun y hy => (List.mem_append.1 hy).elim (hp y) (fun e => by simp at e; subst e; exact hx), cK, cB, cF, cN⟩, ?_⟩⟩
        exact hB.trans (t5.below hB.size (by simp))
  case done =>
    rintro D ys W hD rfl ⟨⟨hne, cK, cB, _⟩, hB⟩ hK
    have hnone : lastF zs f zs.length = none := by
      rw [lastF_skip zs f zs.length (Nat.le_refl _) hne]
      simp [lastF]
    rw [hnone] at hR
    subst hR
    have k0 := cK.cell 0
    have k1 := cK.cell 1
    have k2 := cK.cell 2
    have k3 := cK.cell 3
    have k4 := cK.cell 4
    have j0 := cK.frozen 0
    have j1 := cK.frozen 1
    have j2 := cK.frozen 2
    have j3 := cK.frozen 3
    have j4 := cK.frozen 4
    have b0 := cB.cell 0
    have b1 := cB.frozen 0
    gi_wp2_with fail
    have hKn := cK.lt
    have bz := (cK.five (.int .i64 0) (.int .i64 0) (.bool false) (.int .i64 0) (.int .i64 0)).far (p := ⟨w.heap.size + 1, 0, none⟩) (by simp) (.bool false)
    have bz1 := (five_far (k := w.heap.size) cB (by simp) (.int .i64 0) (.int .i64 0) (.bool false) (.int .i64 0) (.int .i64 0)).set_ 0 (.bool false)
    have hK' := ((five_keeps W w.heap.size (.int .i64 0) (.int .i64 0) (.bool false) (.int .i64 0) (.int .i64 0)).trans (KeepsOthers.setCell _ ⟨w.heap.size + 1, 0, none⟩ (.bool false))).same D _ hK rfl
    refine ⟨by simp, .inl ⟨_, _, rfl, run_takeDeferred hK', ?_⟩⟩
    have bz2 := bz.grown (grownBy_putObj' _ D (.deferred none)) (by simp; omega)
    have bz3 := bz1.grown (grownBy_putObj' _ D (.deferred none)) (by simp; omega)
    have q0 := bz2.cell 0
    have q1 := bz2.cell 1
    have q2 := bz2.cell 2
    have q3 := bz2.cell 3
    have q4 := bz2.cell 4
    have r0 := bz3.cell 0
    refine ⟨.tuple #[.agg #[.int .i64 0, .int .i64 0, .bool false, .int .i64 0, .int .i64 0], .bool false], ?_, rfl, ?_⟩
    · simp [results, Tryz.f40, go_sem, q0, q1, q2, q3, q4, r0]
    · have u1 : Touch [] w W := Touch.of_below hB []
      exact (((five_touch u1 (.inr (Nat.le_refl _)) _ _ _ _ _).setCell (.inr (by simp)) _).below (Nat.le_refl _) (by simp)).trans (belowK_b (w := w) (Nat.le_refl _) _ D _ _ (by omega) hK' rfl rfl)
  case stop =>
    rintro D c pre W hD ⟨k, hk, rfl⟩ ⟨⟨rfl, ini, last, e1, e2, e3, cK, cB⟩, hB⟩ hK
    obtain ⟨k', rfl⟩ : ∃ k', k = k' + 1 := by
      cases k with
      | zero => simp [upto] at e1
      | succ k' => exact ⟨k', rfl⟩
    rw [upto_succ] at e1
    obtain ⟨rfl, e5⟩ := List.append_inj' e1 rfl
    obtain rfl : behind zs k' = last := by simpa using e5
    have hsome : lastF zs f zs.length = some (behind zs k').1 := by
      rw [lastF_skip zs f k' (by omega) e2]
      obtain ⟨m, hm⟩ : ∃ m, zs.length - k' = m + 1 := ⟨zs.length - k' - 1, by omega⟩
      rw [hm, lastF]
      have hb : behind zs k' = (m, zs.getD m Small.nil) := by simp [behind, show zs.length - 1 - k' = m by omega]
      rw [hb] at e3 ⊢
      rw [if_pos e3]
    rw [hsome] at hR
    subst hR
    gi_wp2_with fail
    refine ⟨by simp, .inl ⟨_, _, rfl, run_takeDeferred hK, ?_⟩⟩
    have hKn := cK.lt
    have hBn := cB.lt
    have bz2 := cK.grown (grownBy_putObj' _ D (.deferred none)) (by simp; omega)
    have bz3 := cB.grown (grownBy_putObj' _ D (.deferred none)) (by simp; omega)
    have q0 := bz2.cell 0
    have q1 := bz2.cell 1
    have q2 := bz2.cell 2
    have q3 := bz2.cell 3
    have q4 := bz2.cell 4
    have r0 := bz3.cell 0
    refine ⟨.tuple #[.agg #[.int .i64 4, .int .i64 0, .bool false, .int .i64 ((behind zs k').1 : Int), .int .i64 0], .bool true], ?_, rfl, ?_⟩
    · simp [results, Tryz.f40, go_sem, q0, q1, q2, q3, q4, r0]
    · exact hB.trans (belowK_b (w := w) (Nat.le_refl _) W D _ _ (by omega) hK rfl rfl)
end Go.Proofs.YtgdmiodcfdcihaaGreatDoor
