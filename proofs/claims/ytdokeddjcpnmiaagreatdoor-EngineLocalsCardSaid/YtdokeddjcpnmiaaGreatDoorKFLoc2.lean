import Derived.Test.YtdokeddjcpnmiaaGreatDoorKFLoc
import Derived.Test.YtdokeddjcpnmiaaGreatDoorJPlX
import Derived.Deep.Cut
/- frame.Frames.Local, SetLocal. -/
namespace Go.Proofs.YtdokeddjcpnmiaaGreatDoor
open Go.RowKit Go.Shelf
namespace En

def slA : Value → Option Addr
  | .slice a _ _ => a
  | _ => none
def slN : Value → Nat
  | .slice _ n _ => n
  | _ => 0
def slC : Value → Nat
  | .slice _ _ c => c
  | _ => 0
def slG : Value → Nat
  | .slice (some a) _ _ => a.block
  | _ => 0
def localN (L : List Fr) (i : Int) : Option Nat := match locals L.reverse with
  | none => none
  | some j => if 0 ≤ i ∧ i < (L.getD j .none).l.length then some j else none
theorem locK_congr {ks ks' : Nat → Int} : ∀ {n : Nat}, (∀ j, j < n → ks j = ks' j) → locK ks n = locK ks' n
  | 0, _ => rfl
  | n + 1, h => by
    unfold locK
    rw [h n (by omega), locK_congr fun j hj => h j (by omega)]
theorem locK_lt {ks : Nat → Int} : ∀ {n j : Nat}, locK ks n = some j → j < n ∧ (ks j = 4 ∨ ks j = 1)
  | 0, j, h => by cases h
  | n + 1, j, h => by
    unfold locK at h
    by_cases e : ks n = 4 ∨ ks n = 1
    · rw [if_pos e] at h
      injection h with h
      subst h
      exact ⟨by omega, e⟩
    · rw [if_neg e] at h
      have := locK_lt h
      exact ⟨by omega, this.2⟩
theorem getD_app_lt {Q R : List Fr} {j : Nat} (h : j < Q.length) : (Q ++ R).getD j .none = Q.getD j .none := by
  rw [List.getD_eq_getElem?_getD, List.getD_eq_getElem?_getD, List.getElem?_append_left h]
theorem locals_rev : ∀ (n : Nat) (L : List Fr), L.length = n → locals L.reverse = (match locK (fun j => (L.getD j .none).k) L.length with | none => none | some j => if (L.getD j .none).k = 4 then some j else none)
  | 0, L, h => by rw [List.eq_nil_of_length_eq_zero h]; rfl
  | n + 1, L, h => by
    have hne : L ≠ [] := by rintro rfl; simp at h
    obtain ⟨Q, f, rfl⟩ : ∃ Q f, L = Q ++ [f] := ⟨L.dropLast, L.getLast hne, (List.dropLast_concat_getLast hne).symm⟩
    have hQ : Q.length = n := by simpa using h
    have e1 : (Q ++ [f]).length = Q.length + 1 := by simp
    have e2 : (Q ++ [f]).getD Q.length .none = f := by simp [List.getD_eq_getElem?_getD]
    rw [List.reverse_append, e1]
    show locals (f :: Q.reverse) = _
    unfold locals locK
    rw [e2, List.length_reverse]
    by_cases h4 : f.k = 4
    · rw [if_pos h4, if_pos (.inl h4)]
      dsimp only
      rw [e2, if_pos h4]
    · by_cases h1 : f.k = 1
      · rw [if_neg h4, if_pos h1, if_pos (.inr h1)]
        dsimp only
        rw [e2, if_neg h4]
      · rw [if_neg h4, if_neg h1, if_neg (fun e => e.elim h4 h1), locals_rev n Q hQ, locK_congr (ks := fun j => ((Q ++ [f]).getD j .none).k) (ks' := fun j => (Q.getD j .none).k) fun j hj => by rw [getD_app_lt hj]]
        cases hk : locK (fun j => (Q.getD j .none).k) Q.length with
        | none => rfl
        | some j =>
          dsimp only
          rw [getD_app_lt (locK_lt hk).1]
theorem FLoc_at {w : World} {b : Nat} {v : Value} {Q : List Fq} (h : RawAt w b v Q) (hQ : Q.length ≤ 1000) (i : Int) : ∃ R, (Calls Tryz.prog 143 #[.pointer (some ⟨b, 0, none⟩), .int .i64 i] w fun e w' => e = .returned (.pointer R) ∧ Touch [] w w') ∧
    ((R = none ∧ localN (Q.map (·.f)) i = none) ∨ ∃ j, ∃ hj : j < Q.length, ∃ g c, localN (Q.map (·.f)) i = some j ∧ R = some ⟨g, i.toNat, none⟩ ∧ 0 ≤ i ∧ i < (Q[j].f.l.length : Int) ∧ Q[j].v = .slice (some ⟨g, 0, none⟩) Q[j].f.l.length c) := by
  obtain ⟨L, hL⟩ : ∃ L, Q.map (·.f) = L := ⟨_, rfl⟩
  have hlen : L.length = Q.length := by rw [← hL, List.length_map]
  have hget : ∀ j (hj : j < Q.length), L.getD j .none = Q[j].f := fun j hj => by rw [← hL, List.getD_eq_getElem?_getD, List.getElem?_map, List.getElem?_eq_getElem hj]; rfl
  obtain ⟨V, hV⟩ : ∃ V : Nat → Value, ∀ j (hj : j < Q.length), V j = Q[j].v := ⟨fun j => (Q[j]?.map (·.v)).getD (.slice none 0 0), fun j hj => by show (Q[j]?.map (·.v)).getD (.slice none 0 0) = _; rw [List.getElem?_eq_getElem hj]; rfl⟩
  have hform : ∀ j (hj : j < Q.length), Q[j].v = .slice (slA (V j)) (slN (V j)) (slC (V j)) ∧ slN (V j) = Q[j].f.l.length ∧ (slN (V j) ≠ 0 → slA (V j) = some ⟨slG (V j), 0, none⟩) := fun j hj => by
    have hok := h.ok Q[j] (List.getElem_mem hj)
    rw [hV j hj]
    rcases Go.Joins.ownsRow_forms hok.2.2 with ⟨e, h0⟩ | ⟨g, cap, e⟩
    · rw [e, h0]
      exact ⟨rfl, rfl, fun h => absurd rfl h⟩
    · rw [e]
      exact ⟨rfl, rfl, fun _ => rfl⟩
  have key : ∀ (g cap : Nat) (a : Option Addr), v = .slice a Q.length cap → (Q.length ≠ 0 → a = some ⟨g, 0, none⟩) → g < w.heap.size → (Q.length ≠ 0 → w.ownsRow 0 45 6 (.slice (some ⟨g, 0, none⟩) Q.length cap) Q.length (Q.flatMap fqCells)) → ∀ R, R = (match locK (fun j => (L.getD j .none).k) Q.length with | none => none | some j => locR (fun j => (L.getD j .none).k) (fun j => slN (V j)) (fun j => slG (V j)) i j) → Calls Tryz.prog 143 #[.pointer (some ⟨b, 0, none⟩), .int .i64 i] w fun e w' => e = .returned (.pointer R) ∧ Touch [] w w' := fun g cap a hv ha hg hr R hR => by
    refine local_any w b g Q.length cap a (fun j => (L.getD j .none).k) (fun j => slA (V j)) (fun j => slN (V j)) (fun j => slC (V j)) (fun j => slG (V j)) h.blk.lt (by rw [h.blk.cell 0, hv]; rfl) ha hg hQ (fun j hj => ?_) (fun j hj => ?_) (fun j hj => (hform j hj).2.2) i R hR
    · rw [hget j hj]
      exact (fr_cell (hr (by omega)) (List.getElem?_eq_getElem hj)).1
    · rw [← (hform j hj).1]
      exact (fr_cell (hr (by omega)) (List.getElem?_eq_getElem hj)).2.2.2.2.2
  obtain ⟨R, hRR⟩ : ∃ R, R = (match locK (fun j => (L.getD j .none).k) Q.length with | none => none | some j => locR (fun j => (L.getD j .none).k) (fun j => slN (V j)) (fun j => slG (V j)) i j) := ⟨_, rfl⟩
  refine ⟨R, ?_, ?_⟩
  · rcases Go.Joins.ownsRow_forms h.row with ⟨e, h0⟩ | ⟨g, cap, e⟩
    · exact key b 0 none (by rw [e, h0]) (fun h => absurd h0 h) h.blk.lt (fun h => absurd h0 h) R hRR
    · have hr := h.row
      rw [e] at hr
      exact key g cap _ e (fun _ => rfl) (row_lt hr (by simp [rowOf])) (fun _ => hr) R hRR
  · rw [hL]
    unfold localN
    rw [locals_rev _ L rfl, hlen, hRR]
    clear hRR
    cases hk : locK (fun j => (L.getD j .none).k) Q.length with
    | none => exact .inl ⟨rfl, rfl⟩
    | some j =>
      have hj := (locK_lt hk).1
      obtain ⟨f1, f2, f3⟩ := hform j hj
      dsimp only
      unfold locR
      by_cases h4 : (L.getD j .none).k = 4
      · rw [if_pos h4]
        dsimp only
        have hll : (L.getD j .none).l.length = slN (V j) := by rw [hget j hj, f2]
        rw [hll]
        by_cases hi : 0 ≤ i ∧ i < slN (V j)
        · rw [if_pos hi, if_pos ⟨h4, hi.1, hi.2⟩]
          have h3 := f3 (by omega)
          rw [h3] at f1
          exact .inr ⟨j, hj, _, _, rfl, rfl, hi.1, by rw [← f2]; exact hi.2, by rw [← f2]; exact f1⟩
        · rw [if_neg hi, if_neg (fun e => hi e.2)]
          exact .inl ⟨rfl, rfl⟩
      · rw [if_neg h4, if_neg (fun e => h4 e.1)]
        exact .inl ⟨rfl, rfl⟩
def localV (L : List Fr) (i : Int) : Int × Int := match localN L i with
  | none => (0, -6)
  | some j => ((L.getD j .none).l.getD i.toNat 0, 0)
theorem FLocal_any (w : World) (b : Nat) (F : List Nat) (L : List Fr) (h : FramesAt w b F L) (hL : L.length ≤ 1000) (i : Int) :
    Calls Tryz.prog 115 #[.pointer (some ⟨b, 0, none⟩), .int .i64 i] w fun e w' => e = .returned (.tuple #[.int .i64 (localV L i).1, .int .i64 (localV L i).2]) ∧ Touch [] w w' := by
  obtain ⟨v, Q, hR, rfl, hF, hl⟩ := h
  rw [List.length_map] at hL
  obtain ⟨R, hC, hcase⟩ := FLoc_at hR hL i
  unfold localV
  rcases hcase with ⟨rfl, hn⟩ | ⟨j, hj, g, c, hn, rfl, h0, h1, hv⟩
  · rw [hn]
    clear hR hF hl hn
    go_enter Tryz.func115, Tryz.ntmps115
    go_wp2_with fail
    refine hC.mono ?_
    rintro _ w1 ⟨rfl, t⟩
    clear hC
    go_wp2_with fail
    go_ret2
    exact ⟨rfl, t⟩
  · rw [hn]
    dsimp only
    obtain ⟨k, rfl⟩ : ∃ k : Nat, i = k := ⟨i.toNat, by omega⟩
    rw [show ((k : Int)).toNat = k by omega] at hC ⊢
    have hrow := (hR.ok Q[j] (List.getElem_mem hj)).2.2
    rw [hv] at hrow
    have hx : (Q.map (·.f)).getD j .none = Q[j].f := by rw [List.getD_eq_getElem?_getD, List.getElem?_map, List.getElem?_eq_getElem hj]; rfl
    rw [hx]
    have hcell := fun W (t : Touch [] w W) => (row_touch hrow t (by simp)).cells (g := g) rfl k _ (cells_get _ k (by omega))
    obtain ⟨u, hu⟩ : ∃ u, Q[j].f.l.getD k 0 = u := ⟨_, rfl⟩
    rw [hu] at hcell ⊢
    have HC := Lib.hid hcell
    clear hR hF hl hn hrow hv hx hu h1 hcell
    go_enter Tryz.func115, Tryz.ntmps115
    go_wp2_with fail
    refine hC.mono ?_
    rintro _ w1 ⟨rfl, t⟩
    have k0 := HC.out w1 t
    rw [add_off, Nat.zero_add] at k0
    clear hC
    go_wp2_with fail
    go_ret2
    exact ⟨rfl, t⟩
/-- a local is set -/
def setL (L : List Fr) (i x : Int) : Int × List Fr := match localN L i with
  | none => (-6, L)
  | some j => (0, L.set j { L.getD j .none with l := (L.getD j .none).l.set i.toNat x })
theorem row_set1 {w : World} {g cap : Nat} {l : List Int} (h : w.ownsRow 0 33 1 (.slice (some ⟨g, 0, none⟩) l.length cap) l.length (cells l)) (i : Nat) (x : Int) :
    (w.setCell ⟨g, i, none⟩ (.int .i64 x)).ownsRow 0 33 1 (.slice (some ⟨g, 0, none⟩) l.length cap) l.length (cells (l.set i x)) := by
  obtain ⟨h1, h2⟩ := h
  rcases h2 with ⟨h0, _⟩ | ⟨g', cap', cur, hv, hg, hh, hn', hcap, hsz, htake⟩
  · cases h0
  · cases hv
    have hb : Blk w g 33 cur := hh
    refine ⟨by rw [cells_length, List.length_set, Nat.mul_one], .inr ⟨g, cap, cur.setIfInBounds i (.int .i64 x), rfl, hg, hb.set_ i _, hn', hcap, by rw [Array.size_setIfInBounds]; exact hsz, ?_⟩⟩
    rw [Array.toList_setIfInBounds, List.take_set, htake]
    simp [cells, List.map_set]
theorem rows_apart {Q : List Fq} (h : (rowsF Q).Nodup) {j j' : Nat} (hj : j < Q.length) (hj' : j' < Q.length) (hne : j ≠ j') : ∀ x ∈ rowOf Q[j].v, x ∉ rowOf Q[j'].v := by
  unfold rowsF List.Nodup at h
  rw [List.pairwise_flatMap] at h
  have h2 := List.pairwise_iff_getElem.1 h.2
  intro x hx hx'
  rcases Nat.lt_or_gt_of_ne hne with e | e
  · exact h2 j j' hj hj' e x hx x hx' rfl
  · exact h2 j' j hj' hj e x hx' x hx rfl
theorem map_set_same {α β : Type} {f : α → β} {Q : List α} {j : Nat} (hj : j < Q.length) {q : α} (h : f q = f Q[j]) : (Q.set j q).map f = Q.map f := by
  rw [List.map_set, h]
  refine List.ext_getElem (by simp) fun n h1 h2 => ?_
  rw [List.getElem_set]
  split
  · rename_i e; subst e; simp
  · rfl
theorem raw_setloc {w : World} {b : Nat} {v : Value} {Q : List Fq} {F : List Nat} (hR : RawAt w b v Q) (hF : ∀ x, x ∈ b :: (rowOf v ++ rowsF Q) → x ∈ F) (hl : ∀ x ∈ F, x < w.heap.size) {j : Nat} (hj : j < Q.length) {g c : Nat} (hv : Q[j].v = .slice (some ⟨g, 0, none⟩) Q[j].f.l.length c) (i : Nat) (x : Int) (h4 : Q[j].f.k = 4) :
    FramesAt (w.setCell ⟨g, i, none⟩ (.int .i64 x)) b F ((Q.map (·.f)).set j { Q[j].f with l := Q[j].f.l.set i x }) ∧ g ∈ F := by
  have hgr : g ∈ rowOf Q[j].v := by rw [hv]; simp [rowOf]
  have hgQ : g ∈ rowsF Q := rowsF_mem.2 ⟨Q[j], List.getElem_mem hj, hgr⟩
  have hgF : g ∈ F := hF g (by simp [hgQ])
  have hbg : b ≠ g := fun e => hR.b_loc (e ▸ hgQ)
  have t : Touch [g] w (w.setCell ⟨g, i, none⟩ (.int .i64 x)) := (Touch.refl [g] w).setCell (by simp) _
  obtain ⟨q', hq'⟩ : ∃ q' : Fq, q' = ⟨{ Q[j].f with l := Q[j].f.l.set i x }, Q[j].v⟩ := ⟨_, rfl⟩
  have hc : fqCells q' = fqCells Q[j] := by rw [hq']; rfl
  have hvv : q'.v = Q[j].v := by rw [hq']
  have hcells : (Q.set j q').flatMap fqCells = Q.flatMap fqCells := by
    rw [List.flatMap_def, List.flatMap_def, map_set_same hj hc]
  have hrows : rowsF (Q.set j q') = rowsF Q := by
    unfold rowsF
    rw [List.flatMap_def, List.flatMap_def, map_set_same (f := fun q : Fq => rowOf q.v) hj (by rw [hvv])]
  have hok := hR.ok Q[j] (List.getElem_mem hj)
  refine ⟨⟨v, Q.set j q', ⟨hR.blk.far hbg _, ?_, ?_, ?_⟩, ?_, ?_, fun y hy => Nat.lt_of_lt_of_le (hl y hy) t.size⟩, hgF⟩
  · rw [hcells, List.length_set]
    exact row_touch hR.row t (fun y hy hyg => by
      rw [List.mem_singleton.1 hyg] at hy
      exact hR.row_loc g hy hgQ)
  · intro q hq
    obtain ⟨n, hn, rfl⟩ := List.mem_iff_getElem.1 hq
    rw [List.length_set] at hn
    rw [List.getElem_set]
    by_cases e : j = n
    · rw [if_pos e, hq']
      refine ⟨fun h => absurd h4 h, ?_, ?_⟩
      · show (Q[j].f.l.set i x).length ≤ 1000
        rw [List.length_set]
        exact hok.2.1
      · have h3 := hok.2.2
        rw [hv] at h3
        have h5 := row_set1 h3 i x
        show World.ownsRow _ 0 _ 1 Q[j].v (Q[j].f.l.set i x).length _
        rw [hv, List.length_set]
        exact h5
    · rw [if_neg e]
      exact (hR.ok Q[n] (List.getElem_mem hn)).touch t (fun y hy hyg => by
        rw [List.mem_singleton.1 hyg] at hy
        exact rows_apart (List.nodup_append.1 (List.nodup_cons.1 hR.nd).2).2.1 hj hn e g hgr hy)
  · rw [hrows]
    exact hR.nd
  · rw [List.map_set, hq']
  · rw [hrows]
    exact hF
theorem localN_k {L : List Fr} {i : Int} {j : Nat} (h : localN L i = some j) : (L.getD j .none).k = 4 := by
  unfold localN at h
  rw [locals_rev _ L rfl] at h
  cases hk : locK (fun j => (L.getD j .none).k) L.length with
  | none => rw [hk] at h; cases h
  | some m =>
    rw [hk] at h
    dsimp only at h
    by_cases h4 : (L.getD m .none).k = 4
    · rw [if_pos h4] at h
      dsimp only at h
      split at h
      · injection h with h
        rw [← h]
        exact h4
      · cases h
    · rw [if_neg h4] at h
      cases h
theorem FSetLocal_any (w : World) (b : Nat) (F : List Nat) (L : List Fr) (h : FramesAt w b F L) (hL : L.length ≤ 1000) (i x : Int) :
    Calls Tryz.prog 117 #[.pointer (some ⟨b, 0, none⟩), .int .i64 i, .int .i64 x] w fun e w' => e = .returned (.int .i64 (setL L i x).1) ∧ FramesAt w' b F (setL L i x).2 ∧ Touch F w w' := by
  have hF0 := h
  obtain ⟨v, Q, hR, rfl, hF, hl⟩ := h
  rw [List.length_map] at hL
  obtain ⟨R, hC, hcase⟩ := FLoc_at hR hL i
  unfold setL
  rcases hcase with ⟨rfl, hn⟩ | ⟨j, hj, g, c, hn, rfl, h0, h1, hv⟩
  · rw [hn]
    have H0 := Lib.hid hF0
    clear hR hF hl hn hF0
    go_enter Tryz.func117, Tryz.ntmps117
    go_wp2_with fail
    refine hC.mono ?_
    rintro _ w1 ⟨rfl, t⟩
    clear hC
    go_wp2_with fail
    go_ret
    exact ⟨rfl, H0.out.touch t (by simp), t.mono (by simp)⟩
  · rw [hn]
    dsimp only
    obtain ⟨k, rfl⟩ : ∃ k : Nat, i = k := ⟨i.toNat, by omega⟩
    rw [show ((k : Int)).toNat = k by omega] at hC ⊢
    have hx : (Q.map (·.f)).getD j .none = Q[j].f := by rw [List.getD_eq_getElem?_getD, List.getElem?_map, List.getElem?_eq_getElem hj]; rfl
    have h4 := localN_k hn
    rw [hx] at h4 ⊢
    have hrow := (hR.ok Q[j] (List.getElem_mem hj)).2.2
    rw [hv] at hrow
    have HE := Lib.hid (fun W (t : Touch [] w W) => raw_setloc (hR.touch t (by simp)) hF (fun y hy => Nat.lt_of_lt_of_le (hl y hy) t.size) hj hv k x h4)
    have HC := Lib.hid (fun W (t : Touch [] w W) => And.intro ((row_touch hrow t (by simp)).cells (g := g) rfl k _ (cells_get _ k (by omega))) (show W.frozen? ⟨g, k, none⟩ = false by
      rcases (row_touch hrow t (by simp)).2 with ⟨h0, _⟩ | ⟨g', cap', cur, hv', _, hh, _⟩
      · cases h0
      · cases hv'
        have hb : Blk W g 33 cur := hh
        exact hb.frozen k))
    clear hR hF hl hn hrow hv hx h1 h4 hF0
    go_enter Tryz.func117, Tryz.ntmps117
    go_wp2_with fail
    refine hC.mono ?_
    rintro _ w1 ⟨rfl, t⟩
    obtain ⟨k0, z0⟩ := HC.out w1 t
    rw [add_off, Nat.zero_add] at k0
    have HT := Lib.hid t
    clear hC t
    go_wp2_with fail
    go_ret
    obtain ⟨e1, e2⟩ := HE.out w1 HT.out
    exact ⟨rfl, e1, (HT.out.mono (by simp)).setCell (.inl e2) _⟩
end En
end Go.Proofs.YtdokeddjcpnmiaaGreatDoor
