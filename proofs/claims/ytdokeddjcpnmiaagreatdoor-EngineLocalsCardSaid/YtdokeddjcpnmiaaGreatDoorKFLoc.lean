import Derived.Test.YtdokeddjcpnmiaaGreatDoorKFrmX
/- frame.Frames.local: where a local lies. -/
namespace Go.Proofs.YtdokeddjcpnmiaaGreatDoor
open Go.RowKit Go.Shelf
namespace En

attribute [local go_sem] Oper.semAt_some

/-- the uppermost frame that holds locals, or that was called -/
def locK (ks : Nat → Int) : Nat → Option Nat
  | 0 => none
  | n + 1 => if ks n = 4 ∨ ks n = 1 then some n else locK ks n
theorem locK_none {ks : Nat → Int} : ∀ {n : Nat}, (∀ j, j < n → ¬ (ks j = 4 ∨ ks j = 1)) → locK ks n = none
  | 0, _ => rfl
  | n + 1, h => by
    unfold locK
    rw [if_neg (h n (by omega))]
    exact locK_none fun j hj => h j (by omega)
theorem locK_at {ks : Nat → Int} : ∀ {n m : Nat}, m < n → (ks m = 4 ∨ ks m = 1) → (∀ j, m < j → j < n → ¬ (ks j = 4 ∨ ks j = 1)) → locK ks n = some m
  | 0, m, h, _, _ => absurd h (Nat.not_lt_zero _)
  | n + 1, m, h, h1, h2 => by
    unfold locK
    by_cases e : m = n
    · rw [if_pos (e ▸ h1), e]
    · rw [if_neg (h2 n (by omega) (by omega))]
      exact locK_at (by omega) h1 fun j hj hjn => h2 j hj (by omega)
def locR (ks : Nat → Int) (ns gs : Nat → Nat) (i : Int) (j : Nat) : Option Addr := if ks j = 4 ∧ 0 ≤ i ∧ i < ns j then some ⟨gs j, i.toNat, none⟩ else none

set_option maxRecDepth 100000 in
set_option maxHeartbeats 3200000 in
theorem local_any (w : World) (b g n cap : Nat) (a : Option Addr) (ks : Nat → Int) (vs : Nat → Option Addr) (ns cs gs : Nat → Nat) (hb : b < w.heap.size) (hc : w.cell? ⟨b, 0, none⟩ = some (.slice a n cap)) (ha : n ≠ 0 → a = some ⟨g, 0, none⟩) (hg : g < w.heap.size) (hn : n ≤ 1000)
    (hk : ∀ j, j < n → w.cell? ⟨g, j * 6, none⟩ = some (.int .i64 (ks j))) (hv : ∀ j, j < n → w.cell? ⟨g, j * 6 + 5, none⟩ = some (.slice (vs j) (ns j) (cs j))) (hvs : ∀ j, j < n → ns j ≠ 0 → vs j = some ⟨gs j, 0, none⟩) (i : Int) (R : Option Addr) (hR : R = (match locK ks n with | none => none | some j => locR ks ns gs i j)) :
    Calls Tryz.prog 143 #[.pointer (some ⟨b, 0, none⟩), .int .i64 i] w fun e w' => e = .returned (.pointer R) ∧ Touch [] w w' := by
  suffices h : CallsIn Fence.wide 10 Tryz.prog 143 #[.pointer (some ⟨b, 0, none⟩), .int .i64 i] w fun e w' => e = .returned (.pointer R) ∧ Below w.heap.size w w' from
    (callsIn_wide.1 h).mono fun _ _ h => ⟨h.1, Touch.of_below h.2 _⟩
  have HR := Lib.hid hR
  clear hR
  refine callsIn_of_wp_marks Tryz.func143 rfl trivial ?_ rfl
  simp only [Tryz.ntmps143, List.size_toArray, List.length_cons, List.length_nil, Nat.reduceAdd, Nat.reduceSub, Array.replicate_succ, Array.replicate_zero, List.push_toArray, List.append_toArray, List.nil_append, List.cons_append]
  gi_wp2_with fail
  refine ⟨trivial, (down_in 9 b _).mono ?_⟩
  rintro _ _ ⟨rfl, rfl⟩
  have bK : Blk (((w.alloc (.cells #[.int .i64 i] 3)).alloc (.cells #[.pointer none] 189)).alloc (.cells #[.pointer (some ⟨b, 0, none⟩)] 41)) w.heap.size 3 #[.int .i64 i] := ((Blk.new w _ _).alloc _).alloc _
  have bP : Blk (((w.alloc (.cells #[.int .i64 i] 3)).alloc (.cells #[.pointer none] 189)).alloc (.cells #[.pointer (some ⟨b, 0, none⟩)] 41)) (w.heap.size + 1) 189 #[.pointer none] := (Blk.new_at _ (by simp) _ _).alloc _
  have bB : Blk (((w.alloc (.cells #[.int .i64 i] 3)).alloc (.cells #[.pointer none] 189)).alloc (.cells #[.pointer (some ⟨b, 0, none⟩)] 41)) (w.heap.size + 2) 41 #[.pointer (some ⟨b, 0, none⟩)] := Blk.new_at _ (by simp) _ _
  have tw := (((Touch.refl [] w).alloc (.cells #[.int .i64 i] 3)).alloc (.cells #[.pointer none] 189)).alloc (.cells #[.pointer (some ⟨b, 0, none⟩)] 41)
  have hsN : ((w.alloc (.cells #[.int .i64 i] 3)).alloc (.cells #[.pointer none] 189)).heap.size = w.heap.size + 2 := by simp
  have hs0 : (((w.alloc (.cells #[.int .i64 i] 3)).alloc (.cells #[.pointer none] 189)).alloc (.cells #[.pointer (some ⟨b, 0, none⟩)] 41)).heap.size = w.heap.size + 3 := by simp
  rw [hsN]
  generalize hW0 : ((w.alloc (.cells #[.int .i64 i] 3)).alloc (.cells #[.pointer none] 189)).alloc (.cells #[.pointer (some ⟨b, 0, none⟩)] 41) = W0 at *
  clear hW0 hsN
  have hB0 : Below w.heap.size w W0 := tw.below (Nat.le_refl _) (by simp)
  have hc0 := (hB0.cell (p := ⟨b, 0, none⟩) hb).trans hc
  gi_wp2_with fail
  refine wpIn_rangeFunc_ownG (F := Fence.wide) rfl (by omega) (gf := 141) (lb := #[.pointer (some ⟨w.heap.size + 2, 0, none⟩)]) rfl trivial (enters_of Tryz.func141 (by kernel_rfl) rfl)
    (down_stops 9 (by omega) (w.heap.size + 2) W0.heap.size b g n cap a (by omega) (by omega) ha W0 (by omega) (Nat.le_refl _) (bB.cell 0) hc0) belowK_t (belowK_b (Nat.le_refl _)) (Below.refl _ _) (fun _ => rfl)
    (fun pre W => ((∀ x ∈ pre, ¬ (ks x.1 = 4 ∨ ks x.1 = 1)) ∧ Blk W w.heap.size 3 #[.int .i64 i] ∧ Blk W (w.heap.size + 1) 189 #[.pointer none]) ∧ Below w.heap.size w W)
    (fun c pre W => (∃ ini x, pre = ini ++ [x] ∧ (∀ x ∈ ini, ¬ (ks x.1 = 4 ∨ ks x.1 = 1)) ∧ c = .ret ∧ (ks x.1 = 4 ∨ ks x.1 = 1) ∧ Blk W (w.heap.size + 1) 189 #[.pointer (locR ks ns gs i x.1)]) ∧ Below w.heap.size w W)
    (OwnFrom.and (Own.from (fun s A B row hs hg hr => ⟨hs.1, hs.2.1.ownE hg hr, hs.2.2.ownE hg hr⟩) _) (ownFrom_below (Nat.le_refl _) (by omega)))
    (fun c => OwnFrom.and (Own.from (fun s A B row hs hg hr => by
      obtain ⟨ini, x, e1, e0, e2, e3, e4⟩ := hs
      exact ⟨ini, x, e1, e0, e2, e3, e4.ownE hg hr⟩) _) (ownFrom_below (Nat.le_refl _) (by omega)))
    ⟨⟨by simp, bK, bP⟩, hB0⟩
    (fun x => { tmps := #[.pointer (some ⟨b, 0, none⟩), .int .i64 i, undef, .pointer (some ⟨w.heap.size, 0, none⟩), .pointer (some ⟨w.heap.size + 1, 0, none⟩), undef, .pointer (some ⟨g, x.1 * 6, none⟩), .pointer (some ⟨b, 0, none⟩), .func (.func 141) #[] #[.pointer (some ⟨w.heap.size + 2, 0, none⟩)], .int .i64 (x.1 : Int), .pointer (some ⟨g, x.1 * 6, none⟩), undef, undef, undef, undef, undef, undef, undef, undef, undef, undef, undef, undef, undef, undef, undef, undef, undef, undef, undef, undef, undef, undef, undef, undef, undef, undef, undef, undef, undef, undef, undef, undef, undef, undef, undef, undef, undef, undef], defers := [] }) ?assign ?body ?done ?stop
  case assign =>
    intro l x W K hK
    gi_wp2
    exact hK
  case body =>
    rintro l pre x W ⟨⟨hpre, cK, cP⟩, hB⟩ hx
    have hx1 : x.1 < n := by have := x.2; omega
    have k0 := cK.cell 0
    have p0 := cP.frozen 0
    have p1 := cP.cell 0
    have kx := (hB.cell (p := ⟨g, x.1 * 6, none⟩) hg).trans (hk x.1 hx1)
    have vx := (hB.cell (p := ⟨g, x.1 * 6 + 5, none⟩) hg).trans (hv x.1 hx1)
    have hbs := hB.size
    have HPRE := Lib.hid hpre
    have HVS := Lib.hid (hvs x.1 hx1)
    clear hpre
    by_cases h4 : ks x.1 = 4
    · rw [h4] at kx
      by_cases hr : 0 ≤ i ∧ i < ns x.1
      · obtain ⟨hr1, hr2⟩ := hr
        have hRR : locR ks ns gs i x.1 = some ⟨gs x.1, i.toNat, none⟩ := if_pos ⟨h4, hr1, hr2⟩
        rw [HVS.out (by omega)] at vx
        obtain ⟨k, rfl⟩ : ∃ k : Nat, i = k := ⟨i.toNat, by omega⟩
        have q1 : (k : Int) ≥ 0 := hr1
        rw [show ((k : Int)).toNat = k by omega] at hRR
        gi_wp2_with fail
        gi_region_with (fail)
        all_goals gi_wp2_with fail
        all_goals gi_region_with (fail)
        all_goals gi_wp2_with fail
        all_goals
          have hkk : KeepsFrom W0.heap.size W (W.setCell ⟨w.heap.size + 1, 0, none⟩ (.pointer (some ⟨gs x.1, k, none⟩))) := (KeepsOthers.setCell _ _ _).from _
          have hbb : Touch [] w (W.setCell ⟨w.heap.size + 1, 0, none⟩ (.pointer (some ⟨gs x.1, k, none⟩))) := (Touch.of_below hB []).setCell (.inr (by simp)) _
          have hpp : Blk (W.setCell ⟨w.heap.size + 1, 0, none⟩ (.pointer (some ⟨gs x.1, k, none⟩))) (w.heap.size + 1) 189 #[.pointer (locR ks ns gs k x.1)] := by rw [hRR]; exact cP.set_ 0 _
          first
            | exact ⟨hkk, ⟨pre, x, rfl, HPRE.out, rfl, .inl h4, hpp⟩, hbb.below (Nat.le_refl _) (by simp)⟩
            | exact ⟨hkk.trans (drew_keeps _ _), ⟨pre, x, rfl, HPRE.out, rfl, .inl h4, hpp⟩, hbb.drew.below (Nat.le_refl _) (by simp)⟩
            | exact ⟨(hkk.trans (drew_keeps _ _)).trans (drew_keeps _ _), ⟨pre, x, rfl, HPRE.out, rfl, .inl h4, hpp⟩, hbb.drew.drew.below (Nat.le_refl _) (by simp)⟩
      · have hRR : locR ks ns gs i x.1 = none := if_neg fun e => hr ⟨e.2.1, e.2.2⟩
        rcases Int.lt_or_le i 0 with hr1 | hr1
        · have q1 : ¬ i ≥ 0 := by omega
          gi_wp2_with fail
          gi_region_with (fail)
          all_goals gi_wp2_with fail
          all_goals (try gi_region_with (fail))
          all_goals (try gi_wp2_with fail)
          all_goals
            have hkk : KeepsFrom W0.heap.size W (W.setCell ⟨w.heap.size + 1, 0, none⟩ (.pointer none)) := (KeepsOthers.setCell _ _ _).from _
            have hbb : Touch [] w (W.setCell ⟨w.heap.size + 1, 0, none⟩ (.pointer none)) := (Touch.of_below hB []).setCell (.inr (by simp)) _
            have hpp : Blk (W.setCell ⟨w.heap.size + 1, 0, none⟩ (.pointer none)) (w.heap.size + 1) 189 #[.pointer (locR ks ns gs i x.1)] := by rw [hRR]; exact cP.set_ 0 _
            first
              | exact ⟨hkk, ⟨pre, x, rfl, HPRE.out, rfl, .inl h4, hpp⟩, hbb.below (Nat.le_refl _) (by simp)⟩
              | exact ⟨hkk.trans (drew_keeps _ _), ⟨pre, x, rfl, HPRE.out, rfl, .inl h4, hpp⟩, hbb.drew.below (Nat.le_refl _) (by simp)⟩
              | exact ⟨(hkk.trans (drew_keeps _ _)).trans (drew_keeps _ _), ⟨pre, x, rfl, HPRE.out, rfl, .inl h4, hpp⟩, hbb.drew.drew.below (Nat.le_refl _) (by simp)⟩
        · have q1 : i ≥ 0 := by omega
          have q2 : ¬ i < ns x.1 := fun e => hr ⟨hr1, e⟩
          gi_wp2_with fail
          gi_region_with (fail)
          all_goals gi_wp2_with fail
          all_goals (try gi_region_with (fail))
          all_goals (try gi_wp2_with fail)
          all_goals
            have hkk : KeepsFrom W0.heap.size W (W.setCell ⟨w.heap.size + 1, 0, none⟩ (.pointer none)) := (KeepsOthers.setCell _ _ _).from _
            have hbb : Touch [] w (W.setCell ⟨w.heap.size + 1, 0, none⟩ (.pointer none)) := (Touch.of_below hB []).setCell (.inr (by simp)) _
            have hpp : Blk (W.setCell ⟨w.heap.size + 1, 0, none⟩ (.pointer none)) (w.heap.size + 1) 189 #[.pointer (locR ks ns gs i x.1)] := by rw [hRR]; exact cP.set_ 0 _
            first
              | exact ⟨hkk, ⟨pre, x, rfl, HPRE.out, rfl, .inl h4, hpp⟩, hbb.below (Nat.le_refl _) (by simp)⟩
              | exact ⟨hkk.trans (drew_keeps _ _), ⟨pre, x, rfl, HPRE.out, rfl, .inl h4, hpp⟩, hbb.drew.below (Nat.le_refl _) (by simp)⟩
              | exact ⟨(hkk.trans (drew_keeps _ _)).trans (drew_keeps _ _), ⟨pre, x, rfl, HPRE.out, rfl, .inl h4, hpp⟩, hbb.drew.drew.below (Nat.le_refl _) (by simp)⟩
    · have h4' : (ks x.1 == 4) = false := by simpa using h4
      have hRR : locR ks ns gs i x.1 = none := if_neg fun e => h4 e.1
      by_cases h1 : ks x.1 = 1
      · rw [h1] at kx h4'
        gi_wp2_with fail
        gi_region_with (fail)
        all_goals gi_wp2_with fail
        all_goals (try gi_region_with (fail))
        all_goals (try gi_wp2_with fail)
        all_goals
          have hkk : KeepsFrom W0.heap.size W (W.setCell ⟨w.heap.size + 1, 0, none⟩ (.pointer none)) := (KeepsOthers.setCell _ _ _).from _
          have hbb : Touch [] w (W.setCell ⟨w.heap.size + 1, 0, none⟩ (.pointer none)) := (Touch.of_below hB []).setCell (.inr (by simp)) _
          have hpp : Blk (W.setCell ⟨w.heap.size + 1, 0, none⟩ (.pointer none)) (w.heap.size + 1) 189 #[.pointer (locR ks ns gs i x.1)] := by rw [hRR]; exact cP.set_ 0 _
          first
            | exact ⟨hkk, ⟨pre, x, rfl, HPRE.out, rfl, .inr h1, hpp⟩, hbb.below (Nat.le_refl _) (by simp)⟩
            | exact ⟨hkk.trans (drew_keeps _ _), ⟨pre, x, rfl, HPRE.out, rfl, .inr h1, hpp⟩, hbb.drew.below (Nat.le_refl _) (by simp)⟩
            | exact ⟨(hkk.trans (drew_keeps _ _)).trans (drew_keeps _ _), ⟨pre, x, rfl, HPRE.out, rfl, .inr h1, hpp⟩, hbb.drew.drew.below (Nat.le_refl _) (by simp)⟩
      · have h1' : (ks x.1 == 1) = false := by simpa using h1
        gi_wp2_with fail
        gi_region_with (fail)
        all_goals gi_wp2_with fail
        all_goals (try gi_region_with (fail))
        all_goals (try gi_wp2_with fail)
        all_goals
          have hkk := drew_keeps W0.heap.size W
          have hbb : Below w.heap.size w W.drew := ((Touch.of_below hB []).drew).below (Nat.le_refl _) (by simp)
          have hbb2 : Below w.heap.size w W.drew.drew := ((Touch.of_below hB []).drew.drew).below (Nat.le_refl _) (by simp)
          have hpr : ∀ y ∈ pre ++ [x], ¬ (ks y.1 = 4 ∨ ks y.1 = 1) := fun y hy => (List.mem_append.1 hy).elim (HPRE.out y) (fun e => by simp at e; subst e; exact fun e => e.elim h4 h1)
          first
            | exact ⟨hkk, (Below.refl _ W).drew, ⟨⟨hpr, cK, cP⟩, hbb⟩⟩
            | exact ⟨hkk.trans (drew_keeps _ _), (Below.refl _ W).drew.drew, ⟨⟨hpr, cK, cP⟩, hbb2⟩⟩
            | exact ⟨KeepsFrom.refl _ _, Below.refl _ _, ⟨⟨hpr, cK, cP⟩, hB⟩⟩
  case done =>
    rintro D ys W hD rfl ⟨⟨hne, cK, cP⟩, hB⟩ hK
    have hnone : locK ks n = none := locK_none fun j hj => by
      have h1 := hne (nth n (n - 1 - j)) (by unfold uptoF; exact List.mem_map.2 ⟨n - 1 - j, by simp; omega, rfl⟩)
      have h2 : (nth n (n - 1 - j)).1 = j := by show n - 1 - (n - 1 - j) = j; omega
      rw [h2] at h1
      exact h1
    have hR := HR.out
    rw [hnone] at hR
    subst hR
    have p0 := cP.frozen 0
    have p1 := cP.cell 0
    have hPn := cP.lt
    gi_wp2_with fail
    have bz := cP.set_ 0 (.pointer none)
    have hK' := (KeepsOthers.setCell W ⟨w.heap.size + 1, 0, none⟩ (.pointer none)).same D _ hK rfl
    refine ⟨by simp, .inl ⟨_, _, rfl, run_takeDeferred hK', ?_⟩⟩
    have bz2 := bz.grown (grownBy_putObj' _ D (.deferred none)) (by simp; omega)
    have q0 := bz2.cell 0
    refine ⟨.pointer none, ?_, rfl, ?_⟩
    · simp [results, Tryz.f143, go_sem, q0]
    · have u1 : Touch [] w W := Touch.of_below hB []
      exact ((u1.setCell (.inr (by simp)) _).below (Nat.le_refl _) (by simp)).trans (belowK_b (w := w) (Nat.le_refl _) _ D _ _ (by omega) hK' rfl rfl)
  case stop =>
    rintro D c pre W hD ⟨k, hk, rfl⟩ ⟨⟨ini, x, e1, e0, rfl, e3, cP⟩, hB⟩ hK
    obtain ⟨k', rfl⟩ : ∃ k', k = k' + 1 := by
      cases k with
      | zero => simp [uptoF] at e1
      | succ k' => exact ⟨k', rfl⟩
    rw [uptoF_succ] at e1
    obtain ⟨rfl, e5⟩ := List.append_inj' e1 rfl
    obtain rfl : nth n k' = x := by simpa using e5
    have e9 : (nth n k').1 = n - 1 - k' := rfl
    rw [e9] at e3 cP
    have hbef : ∀ j, j < k' → ¬ (ks (n - 1 - j) = 4 ∨ ks (n - 1 - j) = 1) := fun j hj => e0 (nth n j) (by unfold uptoF; exact List.mem_map.2 ⟨j, by simp [hj], rfl⟩)
    have hat : locK ks n = some (n - 1 - k') := locK_at (by omega) e3 fun j h1 h2 => by
      have := hbef (n - 1 - j) (by omega)
      rwa [show n - 1 - (n - 1 - j) = j by omega] at this
    have hR := HR.out
    rw [hat] at hR
    subst hR
    gi_wp2_with fail
    refine ⟨by simp, .inl ⟨_, _, rfl, run_takeDeferred hK, ?_⟩⟩
    have hPn := cP.lt
    have bz2 := cP.grown (grownBy_putObj' _ D (.deferred none)) (by simp; omega)
    have q0 := bz2.cell 0
    refine ⟨.pointer (locR ks ns gs i (n - 1 - k')), ?_, rfl, ?_⟩
    · simp [results, Tryz.f143, go_sem, q0]
    · exact hB.trans (belowK_b (w := w) (Nat.le_refl _) W D _ _ (by omega) hK rfl rfl)
end En
end Go.Proofs.YtdokeddjcpnmiaaGreatDoor
